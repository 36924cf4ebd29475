/- Au: this session's texts for the one law, put together (part 4 of 4): what its program computes, function by function, and that this answers true; the row stands at the end of the last part. Conditions: those that each theorem names; the last theorem has none. -/
import Derived.Test.YtffaggckhneakaaRows
import Derived.WalkKit
import Derived.ProofKit
import Derived.OpenShut
import Derived.ShutString
import Derived.ChangeOld
import Derived.Below
import Derived.SizedLaws
import Derived.Carry
import Derived.Lib.SmallJoins
import Derived.Test.YtffaggckhneakaaAuC
section
namespace Go.Proofs.Ytffaggckhneakaa.Pr
open Go.RowKit Go.Proofs.YtffaggckhneakaaW.PrintWords Go.Proofs.YtffaggckhneakaaW.PrintLast Go.Proofs.YtffaggckhneakaaW.PrintMore
attribute [local go_sem] max2_int min2_int max_two min_two max_three min_three max_four min_four
attribute [local go_sem] Go.Proofs.Ytffaggckhneakaa.Hl.str_geq Go.Proofs.Ytffaggckhneakaa.Hl.str_gtr Go.Proofs.Ytffaggckhneakaa.Hl.str_leq
set_option linter.unusedVariables false
set_option linter.unusedSimpArgs false
mutual
def undercroftref13_Set.j0 : Nat → List (S26) → Bool → ByteArray → ByteArray → Option ((List (S26)) × Int)
  | 0, _, _, _, _ => none
  | k + 1, x0, x16, x397000, x397001 => if x16 = true then (some (([] : List (S26)), 1)) else ((undercroftref13_without.f k x0 x397000).bind fun bt399 => (if bt399.1.length < 4398046511104 then ((some (bt399.1 ++ [(⟨x397000, x397001⟩ : S26)] : List (S26))).bind fun y403 => (undercroftref13_Set.l0 k y403 (wrap64 ((y403.length : Int) - 1)))) else (none)))
def undercroftref13_Set.l0 : Nat → List (S26) → Int → Option ((List (S26)) × Int)
  | 0, _, _ => none
  | k + 1, x6, x8 => if x8 > 0 then (if 0 ≤ x8 then (if x8 < (x6.length : Int) then (if 0 ≤ (wrap64 (x8 - 1)) then (if (wrap64 (x8 - 1)) < (x6.length : Int) then (if (Op.bytesLess (((rd_T26 x6 x8).f0).toList) (((rd_T26 x6 (wrap64 (x8 - 1))).f0).toList)) = true then (undercroftref13_Set.l0 k ((x6.set (x8 : Int).toNat (⟨(rd_T26 x6 (wrap64 (x8 - 1))).f0, (rd_T26 x6 (wrap64 (x8 - 1))).f1⟩ : S26)).set ((wrap64 (x8 - 1)) : Int).toNat (⟨(rd_T26 x6 x8).f0, (rd_T26 x6 x8).f1⟩ : S26)) (wrap64 (x8 - 1))) else ((undercroftref13_Fits.f k x6).bind fun t412 => (if t412 = true then (some (x6, 0)) else (some (([] : List (S26)), 15))))) else (none)) else (none)) else (none)) else (none)) else ((undercroftref13_Fits.f k x6).bind fun t413 => (if t413 = true then (some (x6, 0)) else (some (([] : List (S26)), 15))))
end
def undercroftref13_Set.f (k : Nat) (l0 : List (S26)) (a1_0 : ByteArray) (a1_1 : ByteArray) : Option ((List (S26)) × Int) := (undercroftref13_Right.f k l0).bind fun t397 => (if t397 = true then ((undercroftref13_May.f a1_0 a1_1).bind fun t398 => (undercroftref13_Set.j0 k l0 (!t398) a1_0 a1_1)) else (undercroftref13_Set.j0 k l0 true a1_0 a1_1))
def undercroftref13_Set.T6 : Bool × List (List Nat × List Nat) := (true, [([], []), ([0], [0]), ([1], [1]), ([2], [2]), ([2], [2]), ([3, 4, 2], [2, 3, 4]), ([5, 2], [2, 5]), ([6, 2], [2, 6]), ([2], [2]), ([2], [2]), ([9, 2], [2, 9]), ([8, 10, 2], [2, 8, 10]), ([11, 2], [2, 11]), ([12, 2], [2, 12]), ([7, 13, 2], [2, 7, 13]), ([2, 14], [2, 14])])
def undercroftref13_Set.B6 : List Nat := [0, 1, 3, 7, 7, 31, 63, 127, 7, 7, 519, 1799, 3847, 7943, 16383, 32767]
theorem undercroftref13_Set.tab6 : rtab .any (opsOf Try.f16 6) = undercroftref13_Set.T6 := by kernel_rfl
theorem undercroftref13_Set.bits6 : waitsOk undercroftref13_Set.T6.2 undercroftref13_Set.B6 = true := by kernel_rfl
def undercroftref13_Set.T8 : Bool × List (List Nat × List Nat) := (true, [([], []), ([], []), ([], []), ([], []), ([3], [3]), ([], []), ([], []), ([6], [6]), ([5, 7], [5, 7]), ([8], [8]), ([], []), ([], []), ([10, 11], [10, 11]), ([12], [12]), ([0, 1, 0, 1, 5, 6, 7, 8, 9, 13], [0, 1]), ([14, 9, 0, 1, 5, 6, 7, 8, 9, 13], [9, 14]), ([2, 4, 0, 1, 2, 3, 4, 5, 6, 7, 8, 9, 10, 11, 12, 13, 14, 15], [2, 4]), ([16, 13, 15, 0, 1, 2, 3, 4, 5, 6, 7, 8, 9, 10, 11, 12, 13, 14, 15], [13, 16])])
def undercroftref13_Set.B8 : List Nat := [0, 0, 0, 0, 8, 0, 0, 64, 224, 480, 0, 0, 3072, 7168, 16355, 32739, 65535, 131071]
theorem undercroftref13_Set.tab8 : rtab .any (opsOf Try.f16 8) = undercroftref13_Set.T8 := by kernel_rfl
theorem undercroftref13_Set.bits8 : waitsOk undercroftref13_Set.T8.2 undercroftref13_Set.B8 = true := by kernel_rfl
set_option maxHeartbeats 8000000 in
set_option maxRecDepth 100000 in
theorem undercroftref13_Set.calls (k : Nat) (A0 : Option Addr) (c0 : Nat) (l0 : List (S26)) (a1_0 : ByteArray) (a1_1 : ByteArray) (r1 : List (S26)) (r2 : Int) (w : World) (hr0 : Kd.C k26 w A0 l0.length l0) (hc0 : l0.length ≤ c0) (h : undercroftref13_Set.f k l0 a1_0 a1_1 = some (r1, r2)) :
    Calls Try.prog 16 #[.slice A0 l0.length c0, .agg #[.string a1_0, .string a1_1]] w fun e w' => ∃ v0_ : Value, e = .returned (.tuple #[v0_, .int .i64 r2]) ∧ Kd.R k26 26 w' w.heap.size (fun _ => True) v0_ r1 ∧ Below w.heap.size w w' := by
  have hu26 := Try.underlying26
  have HR0 := Aside0.mk hr0
  have HC0 := Aside0.mk hc0
  clear hr0 hc0
  have HB := Aside0.mk (Below.refl w.heap.size w)
  have H : ((undercroftref13_Right.f k l0).bind fun t397 => (if t397 = true then ((undercroftref13_May.f a1_0 a1_1).bind fun t398 => (undercroftref13_Set.j0 k l0 (!t398) a1_0 a1_1)) else (undercroftref13_Set.j0 k l0 true a1_0 a1_1))) = some (r1, r2) := h
  clear h
  have HC3 := Aside0.mk H
  clear H
  go_enter Try.func16, Try.ntmps16
  go_upto_region 1 with (first | ((with_reducible refine gate_dst (N := 3) rfl ?_); refine box_event ?hg (N := 3) ?hd (cs := #[.string a1_0, .string a1_1]) (t := 26) ?hr ?_; (case hd => rfl); (case hg => rfl); (case hr => first | (go_simp; done) | (go_simp; rfl)); intro gb396 hg w4 hbox hb; have n0_ := Aside0.mk (below_step (by repeat (first | (with_reducible first | exact HB.out | apply below_alloc | apply pw_below_drewN | apply below_drew1) | exact HB.out)) hb); have n1_ := Aside0.mk (hbox); have n2_ := Aside0.mk ((by rw [hg]; exact (below_size (by repeat (first | (with_reducible first | exact HB.out | apply below_alloc | apply pw_below_drewN | apply below_drew1) | exact HB.out))) : w.heap.size ≤ gb396)); have n3_ := Aside0.mk ((by rw [hg]; exact (below_size (by repeat (first | (with_reducible first | exact HB.out | apply below_alloc | apply pw_below_drewN | apply below_drew1) | exact HB.out))) : w.heap.size ≤ gb396)); clear HB; have HB := n0_; have BK396 := n1_; have GW396 := n2_; have GE396 := n3_; clear n0_ n1_ n2_ n3_; clear hb hbox hg))
  (try simp only [Act.put, List.setIfInBounds_toArray, List.set_cons_zero, List.set_cons_succ])
  go_cut [16] (fun v16 wc => ∃ (kq : Nat) (x16_2 : Bool), v16 = .bool x16_2 ∧ Aside0 (undercroftref13_Set.j0 kq l0 x16_2 a1_0 a1_1 = some (r1, r2)) ∧ Aside0 (kq ≤ k) ∧ Aside0 (wc.heap[gb396]? = some (.cells #[.string a1_0, .string a1_1] 26 (0, 0))) ∧ Aside0 (Below w.heap.size w wc))
  case first =>
    have H := HC3.out
    clear HC3
    replace H := Option.bind_eq_some_iff.mp H
    obtain ⟨t397, A50, H⟩ := H
    replace H : (if t397 = true then ((undercroftref13_May.f a1_0 a1_1).bind fun t398 => (undercroftref13_Set.j0 k l0 (!t398) a1_0 a1_1)) else (undercroftref13_Set.j0 k l0 true a1_0 a1_1)) = some (r1, r2) := H
    have A5 := Aside0.mk A50
    clear A50
    by_cases c6 : t397 = true
    · subst c6
      have H1 : ((undercroftref13_May.f a1_0 a1_1).bind fun t398 => (undercroftref13_Set.j0 k l0 (!t398) a1_0 a1_1)) = some (r1, r2) := by rw [if_pos rfl] at H; exact H
      clear H
      have H := H1
      clear H1
      replace H := Option.bind_eq_some_iff.mp H
      obtain ⟨t398, A70, H⟩ := H
      replace H : (undercroftref13_Set.j0 k l0 (!t398) a1_0 a1_1) = some (r1, r2) := H
      have A7 := Aside0.mk A70
      clear A70
      have H' := Aside0.mk H
      clear H
      go_wp2_with (first | ((with_reducible refine gate_callee (f := 40) rfl ?_); refine goesL_ (some 10) rfl rfl Try.func40 (by kernel_rfl) rfl #[.slice A0 l0.length c0] rfl (by (try simp only [List.map_toArray, List.map_cons, List.map_nil]); first | done | rfl | (simp only [List.length_drop, List.length_take]; rfl)) ?_; (with_reducible refine (undercroftref13_Right.calls k _ _ l0 true _ ?side1 ?side2 A5.out).mono ?_); (case side1 => repeat (first | exact (Kd.C_below HR0.out HB.out) | (with_reducible refine Kd.C_alloc ?_ _) | (with_reducible refine Kd.C_drewN ?_ _) | (with_reducible refine Kd.C_drew ?_))); (case side2 => exact HC0.out); rintro e w8 ⟨rfl, hb⟩; refine ⟨_, rfl, ?_⟩; have n0_ := Aside0.mk (blk_below (g := gb396) (o := .cells #[.string a1_0, .string a1_1] 26 (0, 0)) (by (with_reducible repeat (first | refine blk_drewN ?_ _ | refine blk_drew ?_ | refine blk_alloc ?_ _)); exact BK396.out) hb); have n1_ := Aside0.mk (below_step (by repeat (first | (with_reducible first | exact HB.out | apply below_alloc | apply pw_below_drewN | apply below_drew1 | refine below_set ?_ GE396.out) | exact HB.out)) hb); clear BK396; clear HB; have BK396 := n0_; have HB := n1_; clear n0_ n1_; (try clear hb); (try clear hb2); (try clear hk); (try clear hi); have hcz9_0 : w8.cell? ⟨gb396, 0, none⟩ = some (.string a1_0) := (blk_cell BK396.out 0).trans rfl; have hcz9_1 : w8.cell? ⟨gb396, 1, none⟩ = some (.string a1_1) := (blk_cell BK396.out 1).trans rfl; have hfz9_0 := blk_frozen BK396.out 0; have hfz9_1 := blk_frozen BK396.out 1) | (go_at_call 41; (with_reducible refine (undercroftref13_May.calls a1_0 a1_1 t398 _ A7.out).mono ?_); rintro e w10 ⟨rfl, hb⟩; have n0_ := Aside0.mk (blk_below (g := gb396) (o := .cells #[.string a1_0, .string a1_1] 26 (0, 0)) (by (with_reducible repeat (first | refine blk_drewN ?_ _ | refine blk_drew ?_ | refine blk_alloc ?_ _)); exact BK396.out) hb); have n1_ := Aside0.mk (below_step (by repeat (first | (with_reducible first | exact HB.out | apply below_alloc | apply pw_below_drewN | apply below_drew1 | refine below_set ?_ GE396.out) | exact HB.out)) hb); clear BK396; clear HB; have BK396 := n0_; have HB := n1_; clear n0_ n1_; (try clear hb); (try clear hb2); (try clear hk); (try clear hi)))
      go_meet
      case rel => exact ⟨_, (!t398), (by first | rfl | (simp; done) | (simp [*]; done)), H', ⟨by first | omega | exact Nat.le_refl _⟩, ⟨by (with_reducible repeat (first | refine blk_drewN ?_ _ | refine blk_drew ?_ | refine blk_alloc ?_ _)); exact BK396.out⟩, ⟨by repeat (first | (with_reducible first | exact HB.out | apply below_alloc | apply pw_below_drewN | apply below_drew1 | refine below_set ?_ GE396.out) | exact HB.out)⟩⟩
    · replace c6 := Bool.eq_false_iff.mpr c6
      subst c6
      have H1 : (undercroftref13_Set.j0 k l0 true a1_0 a1_1) = some (r1, r2) := by rw [if_neg (show ¬ (false = true) by decide)] at H; exact H
      clear H
      have H := H1
      clear H1
      have H' := Aside0.mk H
      clear H
      go_wp2_with (first | ((with_reducible refine gate_callee (f := 40) rfl ?_); refine goesL_ (some 10) rfl rfl Try.func40 (by kernel_rfl) rfl #[.slice A0 l0.length c0] rfl (by (try simp only [List.map_toArray, List.map_cons, List.map_nil]); first | done | rfl | (simp only [List.length_drop, List.length_take]; rfl)) ?_; (with_reducible refine (undercroftref13_Right.calls k _ _ l0 false _ ?side1 ?side2 A5.out).mono ?_); (case side1 => repeat (first | exact (Kd.C_below HR0.out HB.out) | (with_reducible refine Kd.C_alloc ?_ _) | (with_reducible refine Kd.C_drewN ?_ _) | (with_reducible refine Kd.C_drew ?_))); (case side2 => exact HC0.out); rintro e w11 ⟨rfl, hb⟩; refine ⟨_, rfl, ?_⟩; have n0_ := Aside0.mk (blk_below (g := gb396) (o := .cells #[.string a1_0, .string a1_1] 26 (0, 0)) (by (with_reducible repeat (first | refine blk_drewN ?_ _ | refine blk_drew ?_ | refine blk_alloc ?_ _)); exact BK396.out) hb); have n1_ := Aside0.mk (below_step (by repeat (first | (with_reducible first | exact HB.out | apply below_alloc | apply pw_below_drewN | apply below_drew1 | refine below_set ?_ GE396.out) | exact HB.out)) hb); clear BK396; clear HB; have BK396 := n0_; have HB := n1_; clear n0_ n1_; (try clear hb); (try clear hb2); (try clear hk); (try clear hi)))
      go_meet
      case rel => exact ⟨_, (true), (by first | rfl | (simp; done) | (simp [*]; done)), H', ⟨by first | omega | exact Nat.le_refl _⟩, ⟨by (with_reducible repeat (first | refine blk_drewN ?_ _ | refine blk_drew ?_ | refine blk_alloc ?_ _)); exact BK396.out⟩, ⟨by repeat (first | (with_reducible first | exact HB.out | apply below_alloc | apply pw_below_drewN | apply below_drew1 | refine below_set ?_ GE396.out) | exact HB.out)⟩⟩
  case rest =>
    clear HC3
    try clear c1
    try clear p2
    try clear c4
    try clear c6
    try clear hcz9_0
    try clear hcz9_1
    try clear hfz9_0
    try clear hfz9_1
    obtain ⟨kq, x16_2, rfl, HA, HJ2, BK396, HB⟩ := hcut
    cases kq with
    | zero => exact absurd HA.out (by intro h_; cases h_)
    | succ kj2 =>
      have H := HA.out
      clear HA
      simp only [undercroftref13_Set.j0] at H
      by_cases c12 : x16_2 = true
      · subst c12
        have H1 : (some (([] : List (S26)), 1)) = some (r1, r2) := by rw [if_pos rfl] at H; exact H
        clear H
        have H := H1
        clear H1
        simp only [Option.some.injEq, Prod.mk.injEq] at H
        obtain ⟨rfl, rfl⟩ := H
        go_wp2
        go_ret2
        exact ⟨_, by first | rfl | (simp [errW_none, errW_some] <;> rfl) | (simp [*, errW_none, errW_some] <;> rfl), by first | exact Kd.R_nil _ _ _ _ _ | exact Kd.N_nil _ _ _ _ _ | exact Kd.V_nil _ _ _ _ _ | exact Kd.Q_nil _ _ _ _ _ | exact Kd.S_nil _ _ _ _ _, by repeat (first | (with_reducible first | exact HB.out | apply below_alloc | apply pw_below_drewN | apply below_drew1 | refine below_set ?_ GE396.out) | exact HB.out)⟩
      · replace c12 := Bool.eq_false_iff.mpr c12
        subst c12
        have H1 : ((undercroftref13_without.f kj2 l0 a1_0).bind fun bt399 => (if bt399.1.length < 4398046511104 then ((some (bt399.1 ++ [(⟨a1_0, a1_1⟩ : S26)] : List (S26))).bind fun y403 => (undercroftref13_Set.l0 kj2 y403 (wrap64 ((y403.length : Int) - 1)))) else (none))) = some (r1, r2) := by rw [if_neg (show ¬ (false = true) by decide)] at H; exact H
        clear H
        have H := H1
        clear H1
        replace H := Option.bind_eq_some_iff.mp H
        obtain ⟨⟨t399, t400⟩, A130, H⟩ := H
        replace H : (if t399.length < 4398046511104 then ((some (t399 ++ [(⟨a1_0, a1_1⟩ : S26)] : List (S26))).bind fun y403 => (undercroftref13_Set.l0 kj2 y403 (wrap64 ((y403.length : Int) - 1)))) else (none)) = some (r1, r2) := H
        have A13 := Aside0.mk A130
        clear A130
        by_cases c14 : t399.length < 4398046511104
        · rw [if_pos c14] at H
          have LMc14 := Aside0.mk c14
          clear c14
          obtain ⟨y403, hy403⟩ : ∃ y_ : List (S26), y_ = (t399 ++ [(⟨a1_0, a1_1⟩ : S26)]) := ⟨_, rfl⟩
          replace H : (undercroftref13_Set.l0 kj2 y403 (wrap64 ((y403.length : Int) - 1))) = some (r1, r2) := by first | (rw [hy403]; with_reducible exact H) | (have H2_ := (Option.bind_some _ _).symm.trans H; rw [hy403]; with_reducible exact H2_) | (have H2_ := (Option.bind_some _ _).symm.trans H; with_reducible exact H2_) | with_reducible exact H | (rw [hy403]; exact H) | exact H
          have Ny403 := Aside0.mk hy403
          clear hy403
          have H' := Aside0.mk H
          clear H
          have hcz15_0 : wc.cell? ⟨gb396, 0, none⟩ = some (.string a1_0) := (blk_cell BK396.out 0).trans rfl
          have hcz15_1 : wc.cell? ⟨gb396, 1, none⟩ = some (.string a1_1) := (blk_cell BK396.out 1).trans rfl
          have hfz15_0 := blk_frozen BK396.out 0
          have hfz15_1 := blk_frozen BK396.out 1
          go_wp2_with (first | ((with_reducible refine gate_callee (f := 42) rfl ?_); refine goesL_ (some 21) rfl rfl Try.func42 (by kernel_rfl) rfl #[.slice A0 l0.length c0, .string a1_0] rfl (by (try simp only [List.map_toArray, List.map_cons, List.map_nil]); first | done | rfl | (simp only [List.length_drop, List.length_take]; rfl)) ?_; (with_reducible refine (undercroftref13_without.calls kj2 _ _ l0 a1_0 t399 t400 _ ?side1 ?side2 A13.out).mono ?_); (case side1 => repeat (first | exact (Kd.C_below HR0.out HB.out) | (with_reducible refine Kd.C_alloc ?_ _) | (with_reducible refine Kd.C_drewN ?_ _) | (with_reducible refine Kd.C_drew ?_))); (case side2 => exact HC0.out); rintro e w16 ⟨v401, rfl, ho0, hb⟩; refine ⟨_, rfl, ?_⟩; have n0_ := Aside0.mk (Kd.R_lower (Kd.R_newB ho0 (g := gb396) (o := .cells #[.string a1_0, .string a1_1] 26 (0, 0)) (by (with_reducible repeat (first | refine blk_drewN ?_ _ | refine blk_drew ?_ | refine blk_alloc ?_ _)); exact BK396.out)) (below_size (by repeat (first | (with_reducible first | exact HB.out | apply below_alloc | apply pw_below_drewN | apply below_drew1 | refine below_set ?_ GE396.out) | exact HB.out)))); have n1_ := Aside0.mk (blk_below (g := gb396) (o := .cells #[.string a1_0, .string a1_1] 26 (0, 0)) (by (with_reducible repeat (first | refine blk_drewN ?_ _ | refine blk_drew ?_ | refine blk_alloc ?_ _)); exact BK396.out) hb); have n2_ := Aside0.mk (below_step (by repeat (first | (with_reducible first | exact HB.out | apply below_alloc | apply pw_below_drewN | apply below_drew1 | refine below_set ?_ GE396.out) | exact HB.out)) hb); clear BK396; clear HB; have HO402 := n0_; have BK396 := n1_; have HB := n2_; clear n0_ n1_ n2_; (try clear hb); (try clear hb2); (try clear hk); (try clear hi); (try clear ho0); have hcz17_0 : w16.cell? ⟨gb396, 0, none⟩ = some (.string a1_0) := (blk_cell BK396.out 0).trans rfl; have hcz17_1 : w16.cell? ⟨gb396, 1, none⟩ = some (.string a1_1) := (blk_cell BK396.out 1).trans rfl; have hfz17_0 := blk_frozen BK396.out 0; have hfz17_1 := blk_frozen BK396.out 1) | ((with_reducible refine gate_builtin (b := .append) (xs := #[.tmp 24, .tmp 26]) rfl ?_); at_builtin; refine Kd.R_append k26 (w0 := w) w.heap.size rfl (.tmp 24) (.tmp 26) 22 26 (.agg #[(.string ⟨#[]⟩), (.string ⟨#[]⟩)]) 32 rfl Try.underlying22 info26 rfl (by decide) (by omega) v401 t399 (⟨a1_0, a1_1⟩ : S26) [.string a1_0, .string a1_1] (fun k_ => k_ ≠ gb396) (fun _ => False) rfl rfl ?aP (fun _ hk => hk.elim) ?aF ?aO ?aB ?aS ?aL ?_; (case aP => exact k26_mkM _ _ _ (⟨a1_0, a1_1⟩ : S26)); (case aB => exact (by repeat (first | (with_reducible first | exact HB.out | apply below_alloc | apply pw_below_drewN | apply below_drew1 | refine below_set ?_ GE396.out) | exact HB.out))); (case aF => exact (fun k_ hk => Kd.freshB (g := gb396) (o := .cells #[.string a1_0, .string a1_1] 26 (0, 0)) (by (with_reducible repeat (first | refine blk_drewN ?_ _ | refine blk_drew ?_ | refine blk_alloc ?_ _)); exact BK396.out) k_ hk)); (case aO => exact (by (with_reducible repeat (first | apply Kd.R_alloc | apply Kd.R_drewN | apply Kd.R_drew)); exact Kd.R_mono HO402.out (fun _ hk => hk.2))); (case aS => exact (below_size (by repeat (first | (with_reducible first | exact HB.out | apply below_alloc | apply pw_below_drewN | apply below_drew1 | refine below_set ?_ GE396.out) | exact HB.out)))); (case aL => have := LMc14.out; omega); intro v404 w18 ho hb hg hat; rw [← Ny403.out] at ho; have n0_ := Aside0.mk (blk_grown (g := gb396) (o := .cells #[.string a1_0, .string a1_1] 26 (0, 0)) (by (with_reducible repeat (first | refine blk_drewN ?_ _ | refine blk_drew ?_ | refine blk_alloc ?_ _)); exact BK396.out) hg (Kd.R_away HO402.out (fun _ hk => hk.2))); have n1_ := Aside0.mk (hb); have n2_ := Aside0.mk (ho); clear BK396; clear HB; clear HO402; have BK396 := n0_; have HB := n1_; have HO405 := n2_; clear n0_ n1_ n2_; clear ho hb hg hat; obtain ⟨Ao19, co19, eo19⟩ := Kd.R_slice HO405.out; subst eo19))
          go_loopg [8] kj2 (fun kq v8 w' => ∃ (x6_2 : List (S26)) (x8_2 : Int) (x397000_2 : ByteArray) (x397001_2 : ByteArray), v8 = .int .i64 x8_2 ∧ Aside0 (undercroftref13_Set.l0 kq x6_2 x8_2 = some (r1, r2)) ∧ Aside0 (kq ≤ kj2) ∧ Aside0 (Kd.R k26 26 w' w.heap.size (fun k_ => k_ ≠ gb396) (.slice Ao19 y403.length co19) x6_2) ∧ Aside0 (w'.heap[gb396]? = some (.cells #[.string x397000_2, .string x397001_2] 26 (0, 0))) ∧ Aside0 (Below w.heap.size w w'))
          case atStart => exact ⟨(y403), (wrap64 ((y403.length : Int) - 1)), (a1_0), (a1_1), (by first | rfl | (simp; done) | (simp [*]; done)), H', ⟨Nat.le_refl _⟩, ⟨by (with_reducible repeat (first | apply Kd.R_alloc | apply Kd.R_drewN | apply Kd.R_drew)); exact HO405.out⟩, ⟨by (with_reducible repeat (first | refine blk_drewN ?_ _ | refine blk_drew ?_ | refine blk_alloc ?_ _)); exact BK396.out⟩, ⟨by repeat (first | (with_reducible first | exact HB.out | apply below_alloc | apply pw_below_drewN | apply below_drew1 | refine below_set ?_ GE396.out) | exact HB.out)⟩⟩
          case round =>
            clear H'
            try clear c1
            try clear p2
            try clear c4
            try clear c6
            try clear p6
            try clear c12
            try clear c14
            try clear c16
            try clear hcz15_0
            try clear hcz15_1
            try clear hcz17_0
            try clear hcz17_1
            try clear hcz9_0
            try clear hcz9_1
            try clear hfz15_0
            try clear hfz15_1
            try clear hfz17_0
            try clear hfz17_1
            try clear hfz9_0
            try clear hfz9_1
            try clear p2
            obtain ⟨x6_2, x8_2, x397000_2, x397001_2, rfl, HA, HK2, HO_6, BK396, HB⟩ := hrel
            have hl6_2 := (Kd.R_reads' HO_6.out).1
            rw [hl6_2] at HO_6
            (try simp only [hl6_2])
            (try simp only [hl6_2] at BK396)
            cases gk with
            | zero => exact absurd HA.out (by intro h_; cases h_)
            | succ k2 =>
              have H := HA.out
              clear HA
              simp only [undercroftref13_Set.l0] at H
              by_cases c20 : x8_2 > 0
              · rw [if_pos c20] at H
                have c20b0 : decide (0 < x8_2) = true := decide_eq_true c20
                clear c20
                by_cases c21 : 0 ≤ x8_2
                · rw [if_pos c21] at H
                  have c21b0 : decide (0 ≤ x8_2) = true := decide_eq_true c21
                  clear c21
                  by_cases c22 : x8_2 < (x6_2.length : Int)
                  · rw [if_pos c22] at H
                    have c22b0 : decide (x8_2 < (x6_2.length : Int)) = true := decide_eq_true c22
                    clear c22
                    obtain ⟨ji23, hji23⟩ : ∃ j_ : Int, (wrap64 (x8_2 - 1)) = j_ := ⟨_, rfl⟩
                    replace H : (if 0 ≤ (ji23) then (if (ji23) < (x6_2.length : Int) then (if (Op.bytesLess (((rd_T26 x6_2 x8_2).f0).toList) (((rd_T26 x6_2 (ji23)).f0).toList)) = true then (undercroftref13_Set.l0 k2 ((x6_2.set (x8_2 : Int).toNat (⟨(rd_T26 x6_2 (ji23)).f0, (rd_T26 x6_2 (ji23)).f1⟩ : S26)).set ((ji23) : Int).toNat (⟨(rd_T26 x6_2 x8_2).f0, (rd_T26 x6_2 x8_2).f1⟩ : S26)) ji23) else ((undercroftref13_Fits.f k2 x6_2).bind fun t412 => (if t412 = true then (some (x6_2, 0)) else (some (([] : List (S26)), 15))))) else (none)) else (none)) = some (r1, r2) := by first | (rw [hji23] at H; exact H) | (simp only [hji23] at H ⊢; exact H)
                    have hji23w : (IntKind.i64.wrap (x8_2 - 1)) = ji23 := (i64_w _).trans hji23
                    (try rw [hji23] at c20b0)
                    (try rw [hji23] at c21b0)
                    (try rw [hji23] at c22b0)
                    by_cases c24 : 0 ≤ (ji23)
                    · rw [if_pos c24] at H
                      have c24b0 : decide (0 ≤ (ji23)) = true := decide_eq_true c24
                      clear c24
                      by_cases c25 : (ji23) < (x6_2.length : Int)
                      · rw [if_pos c25] at H
                        have c25b0 : decide ((ji23) < (x6_2.length : Int)) = true := decide_eq_true c25
                        clear c25
                        by_cases c26 : (Op.bytesLess (((rd_T26 x6_2 x8_2).f0).toList) (((rd_T26 x6_2 (ji23)).f0).toList)) = true
                        · rw [if_pos c26] at H
                          have c26b0 : (Op.bytesLess (((rd_T26 x6_2 x8_2).f0).toList) (((rd_T26 x6_2 (ji23)).f0).toList)) = true := c26
                          clear c26
                          obtain ⟨y410, hy410⟩ : ∃ y_ : List (S26), y_ = (x6_2.set (x8_2 : Int).toNat (⟨(rd_T26 x6_2 (ji23)).f0, (rd_T26 x6_2 (ji23)).f1⟩ : S26)) := ⟨_, rfl⟩
                          replace H : (undercroftref13_Set.l0 k2 (y410.set ((ji23) : Int).toNat (⟨(rd_T26 x6_2 x8_2).f0, (rd_T26 x6_2 x8_2).f1⟩ : S26)) ji23) = some (r1, r2) := by first | (rw [hy410]; with_reducible exact H) | (have H2_ := (Option.bind_some _ _).symm.trans H; rw [hy410]; with_reducible exact H2_) | (have H2_ := (Option.bind_some _ _).symm.trans H; with_reducible exact H2_) | with_reducible exact H | (rw [hy410]; exact H) | exact H
                          have Ny410 := Aside0.mk hy410
                          clear hy410
                          obtain ⟨y411, hy411⟩ : ∃ y_ : List (S26), y_ = (y410.set ((ji23) : Int).toNat (⟨(rd_T26 x6_2 x8_2).f0, (rd_T26 x6_2 x8_2).f1⟩ : S26)) := ⟨_, rfl⟩
                          replace H : (undercroftref13_Set.l0 k2 y411 ji23) = some (r1, r2) := by first | (rw [hy411]; with_reducible exact H) | (have H2_ := (Option.bind_some _ _).symm.trans H; rw [hy411]; with_reducible exact H2_) | (have H2_ := (Option.bind_some _ _).symm.trans H; with_reducible exact H2_) | with_reducible exact H | (rw [hy411]; exact H) | exact H
                          have Ny411 := Aside0.mk hy411
                          clear hy411
                          have H' := Aside0.mk H
                          clear H
                          try go_wp2
                          have n0_ := Aside0.mk (Kd.R_drew HO_6.out)
                          have n1_ := Aside0.mk (blk_drew BK396.out)
                          have n2_ := Aside0.mk (below_drew1 HB.out)
                          clear HO_6
                          clear BK396
                          clear HB
                          have HO_6 := n0_
                          have BK396 := n1_
                          have HB := n2_
                          clear n0_ n1_ n2_
                          have p406 : 0 ≤ (x8_2 : Int) := of_decide_eq_true (by first | (with_reducible assumption) | assumption)
                          have q406 : x8_2 < (x6_2.length : Int) := of_decide_eq_true (by first | (with_reducible assumption) | assumption)
                          obtain ⟨ad406, e406, hx406_0, hx406_1⟩ := at_T26 (Kd.R_reads' HO_6.out).2.2 x8_2 p406 q406
                          cases e406
                          replace p406 := eq_true p406
                          replace q406 := eq_true q406
                          have p407 : 0 ≤ ((ji23) : Int) := of_decide_eq_true (by first | (with_reducible assumption) | assumption)
                          have q407 : (ji23) < (x6_2.length : Int) := of_decide_eq_true (by first | (with_reducible assumption) | assumption)
                          obtain ⟨ad407, e407, hx407_0, hx407_1⟩ := at_T26 (Kd.R_reads' HO_6.out).2.2 (ji23) p407 q407
                          obtain rfl : ad406 = ad407 := (by injection e407)
                          replace p407 := eq_true p407
                          replace q407 := eq_true q407
                          refine start_ (n := 16) (S := fun w' => w'.cell? (ad406.add ((x8_2).toNat * 2)) = some (.string ((rd_T26 x6_2 x8_2).f0)) ∧ w'.cell? ⟨(ad406.add ((x8_2).toNat * 2)).block, (ad406.add ((x8_2).toNat * 2)).off + 1, none⟩ = some (.string ((rd_T26 x6_2 x8_2).f1)) ∧ w'.cell? (ad406.add (((ji23)).toNat * 2)) = some (.string ((rd_T26 x6_2 (ji23)).f0)) ∧ w'.cell? ⟨(ad406.add (((ji23)).toNat * 2)).block, (ad406.add (((ji23)).toNat * 2)).off + 1, none⟩ = some (.string ((rd_T26 x6_2 (ji23)).f1))) (ds := []) #[false, false, false, false, false, false, false, false, false, false, false, false, false, false, false, false] (by kernel_rfl) rfl rfl ⟨hx406_0, hx406_1, hx407_0, hx407_1⟩ (fun hHeld => ?_); refine with_tabW undercroftref13_Set.tab6 undercroftref13_Set.bits6 (fun HT_ HW_ => ?_)
                          generalize wr.drew = w29 at HO_6 BK396 HB hx406_0 hx406_1 hx407_0 hx407_1 hHeld ⊢
                          refine pure_ (i := 0) (N := some 31) (v := ?_) (a' := ?_) #[true, false, false, false, false, false, false, false, false, false, false, false, false, false, false, false] rfl rfl (any_of HT_.out (by kernel_rfl)) (fun _ _ _ h => h) (Or.inl ⟨by rfl, ?_⟩) ?_ ?_
                          rotate_left
                          · intro w'
                            go_simp
                            with_reducible rfl
                          rotate_left
                          · simp only [Act.put, List.setIfInBounds_toArray, List.set_cons_zero, List.set_cons_succ, i64_w, i32_w]
                            rfl
                          refine pure_ (i := 1) (N := some 32) (v := ?_) (a' := ?_) #[true, true, false, false, false, false, false, false, false, false, false, false, false, false, false, false] rfl rfl (any_of HT_.out (by kernel_rfl)) (fun _ _ _ h => h) (Or.inl ⟨by rfl, ?_⟩) ?_ ?_
                          rotate_left
                          · intro w'
                            go_simp
                            with_reducible rfl
                          rotate_left
                          · simp only [Act.put, List.setIfInBounds_toArray, List.set_cons_zero, List.set_cons_succ, i64_w, i32_w]
                            rfl
                          refine pure_ (i := 2) (N := some 33) (v := ?_) (a' := ?_) #[true, true, true, false, false, false, false, false, false, false, false, false, false, false, false, false] rfl rfl (any_of HT_.out (by kernel_rfl)) (fun _ _ _ h => h) (Or.inl ⟨by rfl, ?_⟩) ?_ ?_
                          rotate_left
                          · intro w'
                            go_simp
                            with_reducible rfl
                          rotate_left
                          · simp only [Act.put, List.setIfInBounds_toArray, List.set_cons_zero, List.set_cons_succ, i64_w, i32_w]
                            rfl
                          refine pure_ (i := 3) (N := some 34) (v := ?_) (a' := ?_) #[true, true, true, true, false, false, false, false, false, false, false, false, false, false, false, false] rfl rfl (any_of HT_.out (by kernel_rfl)) (fun _ _ _ h => h) (Or.inl ⟨by rfl, ?_⟩) ?_ ?_
                          rotate_left
                          · intro w'
                            go_simp
                            with_reducible rfl
                          rotate_left
                          · simp only [Act.put, List.setIfInBounds_toArray, List.set_cons_zero, List.set_cons_succ, i64_w, i32_w]
                            rfl
                          refine pure_ (i := 4) (N := some 35) (v := ?_) (a' := ?_) #[true, true, true, true, true, false, false, false, false, false, false, false, false, false, false, false] rfl rfl (any_of HT_.out (by kernel_rfl)) (fun _ _ _ h => h) (Or.inl ⟨by rfl, ?_⟩) ?_ ?_
                          rotate_left
                          · intro w'
                            go_simp
                            with_reducible rfl
                          rotate_left
                          · simp only [Act.put, List.setIfInBounds_toArray, List.set_cons_zero, List.set_cons_succ, i64_w, i32_w]
                            rfl
                          refine pure_ (i := 5) (N := some 36) (v := ?_) (a' := ?_) #[true, true, true, true, true, true, false, false, false, false, false, false, false, false, false, false] rfl rfl (any_of HT_.out (by kernel_rfl)) (fun _ _ _ h => h) (Or.inl ⟨by rfl, ?_⟩) ?_ ?_
                          rotate_left
                          · intro w'
                            go_simp
                            with_reducible rfl
                          rotate_left
                          · simp only [Act.put, List.setIfInBounds_toArray, List.set_cons_zero, List.set_cons_succ, i64_w, i32_w]
                            rfl
                          refine pure_ (i := 6) (N := some 37) (v := ?_) (a' := ?_) #[true, true, true, true, true, true, true, false, false, false, false, false, false, false, false, false] rfl rfl (any_of HT_.out (by kernel_rfl)) (fun _ _ _ h => h) (Or.inl ⟨by rfl, ?_⟩) ?_ ?_
                          rotate_left
                          · intro w'
                            go_simp
                            with_reducible rfl
                          rotate_left
                          · simp only [Act.put, List.setIfInBounds_toArray, List.set_cons_zero, List.set_cons_succ, i64_w, i32_w]
                            rfl
                          refine pure_ (i := 8) (N := some 39) (v := ?_) (a' := ?_) #[true, true, true, true, true, true, true, false, true, false, false, false, false, false, false, false] rfl rfl (any_of HT_.out (by kernel_rfl)) (fun _ _ _ h => h) (Or.inl ⟨by rfl, ?_⟩) ?_ ?_
                          rotate_left
                          · intro w'
                            go_simp
                            with_reducible rfl
                          rotate_left
                          · simp only [Act.put, List.setIfInBounds_toArray, List.set_cons_zero, List.set_cons_succ, i64_w, i32_w]
                            rfl
                          refine pure_ (i := 9) (N := some 40) (v := ?_) (a' := ?_) #[true, true, true, true, true, true, true, false, true, true, false, false, false, false, false, false] rfl rfl (any_of HT_.out (by kernel_rfl)) (fun _ _ _ h => h) (Or.inl ⟨by rfl, ?_⟩) ?_ ?_
                          rotate_left
                          · intro w'
                            go_simp
                            with_reducible rfl
                          rotate_left
                          · simp only [Act.put, List.setIfInBounds_toArray, List.set_cons_zero, List.set_cons_succ, i64_w, i32_w]
                            rfl
                          refine pure_ (i := 10) (N := some 41) (v := ?_) (a' := ?_) #[true, true, true, true, true, true, true, false, true, true, true, false, false, false, false, false] rfl rfl (any_of HT_.out (by kernel_rfl)) (fun _ _ _ h => h) (Or.inl ⟨by rfl, ?_⟩) ?_ ?_
                          rotate_left
                          · intro w'
                            go_simp
                            with_reducible rfl
                          rotate_left
                          · simp only [Act.put, List.setIfInBounds_toArray, List.set_cons_zero, List.set_cons_succ, i64_w, i32_w]
                            rfl
                          refine pure_ (i := 11) (N := some 42) (v := ?_) (a' := ?_) #[true, true, true, true, true, true, true, false, true, true, true, true, false, false, false, false] rfl rfl (any_of HT_.out (by kernel_rfl)) (fun _ _ _ h => h) (Or.inl ⟨by rfl, ?_⟩) ?_ ?_
                          rotate_left
                          · intro w'
                            go_simp
                            with_reducible rfl
                          rotate_left
                          · simp only [Act.put, List.setIfInBounds_toArray, List.set_cons_zero, List.set_cons_succ, i64_w, i32_w]
                            rfl
                          refine pure_ (i := 12) (N := some 43) (v := ?_) (a' := ?_) #[true, true, true, true, true, true, true, false, true, true, true, true, true, false, false, false] rfl rfl (any_of HT_.out (by kernel_rfl)) (fun _ _ _ h => h) (Or.inl ⟨by rfl, ?_⟩) ?_ ?_
                          rotate_left
                          · intro w'
                            go_simp
                            with_reducible rfl
                          rotate_left
                          · simp only [Act.put, List.setIfInBounds_toArray, List.set_cons_zero, List.set_cons_succ, i64_w, i32_w]
                            rfl
                          refine take_ (i := 7) (N := some 38) (v := ?_) (a' := ?_) #[true, true, true, true, true, true, true, true, true, true, true, true, true, false, false, false] rfl rfl (take_ofW HT_.out HW_.out (by kernel_rfl)) (fun _ _ _ h => h) (Or.inl ⟨by rfl, ?_⟩) hHeld ?_ ?_
                          rotate_left
                          · rintro w' ⟨s0, s1, s2, s3⟩
                            go_simp
                            with_reducible rfl
                          rotate_left
                          · simp only [Act.put, List.setIfInBounds_toArray, List.set_cons_zero, List.set_cons_succ, i64_w, i32_w]
                            rfl
                          refine take_ (i := 13) (N := some 44) (v := ?_) (a' := ?_) #[true, true, true, true, true, true, true, true, true, true, true, true, true, true, false, false] rfl rfl (take_ofW HT_.out HW_.out (by kernel_rfl)) (fun _ _ _ h => h) (Or.inl ⟨by rfl, ?_⟩) hHeld ?_ ?_
                          rotate_left
                          · rintro w' ⟨s0, s1, s2, s3⟩
                            go_simp
                            with_reducible rfl
                          rotate_left
                          · simp only [Act.put, List.setIfInBounds_toArray, List.set_cons_zero, List.set_cons_succ, i64_w, i32_w]
                            rfl
                          refine pure_ (i := 14) (N := some 45) (v := ?_) (a' := ?_) #[true, true, true, true, true, true, true, true, true, true, true, true, true, true, true, false] rfl rfl (any_of HT_.out (by kernel_rfl)) (fun _ _ _ h => h) (Or.inl ⟨by rfl, ?_⟩) ?_ ?_
                          rotate_left
                          · intro w'
                            go_simp
                            with_reducible rfl
                          rotate_left
                          · simp only [Act.put, List.setIfInBounds_toArray, List.set_cons_zero, List.set_cons_succ, i64_w, i32_w]
                            rfl
                          refine pure_ (i := 15) (N := some 46) (v := ?_) (a' := ?_) #[true, true, true, true, true, true, true, true, true, true, true, true, true, true, true, true] rfl rfl (any_of HT_.out (by kernel_rfl)) (fun _ _ _ h => h) (Or.inl ⟨by rfl, ?_⟩) ?_ ?_
                          rotate_left
                          · intro w'
                            go_simp
                            with_reducible rfl
                          rotate_left
                          · simp only [Act.put, List.setIfInBounds_toArray, List.set_cons_zero, List.set_cons_succ, i64_w, i32_w]
                            rfl
                          refine done_ (done_of HT_.out (by kernel_rfl)) ?_
                          try go_wp2
                          have n0_ := Aside0.mk (Kd.R_drew HO_6.out)
                          have n1_ := Aside0.mk (blk_drew BK396.out)
                          have n2_ := Aside0.mk (below_drew1 HB.out)
                          clear HO_6
                          clear BK396
                          clear HB
                          have HO_6 := n0_
                          have BK396 := n1_
                          have HB := n2_
                          clear n0_ n1_ n2_
                          have p408 : 0 ≤ ((ji23) : Int) := of_decide_eq_true (by first | (with_reducible assumption) | assumption)
                          have q408 : (ji23) < (x6_2.length : Int) := of_decide_eq_true (by first | (with_reducible assumption) | assumption)
                          obtain ⟨ad408, e408, hx408_0, hx408_1⟩ := at_T26 (Kd.R_reads' HO_6.out).2.2 (ji23) p408 q408
                          obtain rfl : ad406 = ad408 := (by injection e408)
                          replace p408 := eq_true p408
                          replace q408 := eq_true q408
                          have p409 : 0 ≤ (x8_2 : Int) := of_decide_eq_true (by first | (with_reducible assumption) | assumption)
                          have q409 : x8_2 < (x6_2.length : Int) := of_decide_eq_true (by first | (with_reducible assumption) | assumption)
                          obtain ⟨ad409, e409, hx409_0, hx409_1⟩ := at_T26 (Kd.R_reads' HO_6.out).2.2 x8_2 p409 q409
                          obtain rfl : ad406 = ad409 := (by injection e409)
                          replace p409 := eq_true p409
                          replace q409 := eq_true q409
                          have p27 : 0 ≤ (x8_2 : Int) := of_decide_eq_true (by first | (with_reducible assumption) | assumption)
                          have q27 : (x8_2 : Int) < ((x6_2.length : Int) : Int) := of_decide_eq_true (by first | (with_reducible assumption) | assumption)
                          obtain ⟨go27, co27, eo27, gb27, gl27, cl27, HG27⟩ := Kd.R_form HO_6.out (by omega)
                          (first | cases eo27 | (injection eo27 with ea_ en_ ec_; (first | subst ea_ | (injection ea_ with ea_; subst ea_)); subst ec_; clear en_))
                          have GB27 := Aside0.mk gb27
                          have GG27 := Aside0.mk HG27
                          clear gb27 gl27 HG27
                          (first | simp only [add_plain] at hx406_0 | skip)
                          (first | simp only [add_plain] at hx406_1 | skip)
                          (first | simp only [add_plain] at hx407_0 | skip)
                          (first | simp only [add_plain] at hx407_1 | skip)
                          (first | simp only [add_plain] at hx408_0 | skip)
                          (first | simp only [add_plain] at hx408_1 | skip)
                          (first | simp only [add_plain] at hx409_0 | skip)
                          (first | simp only [add_plain] at hx409_1 | skip)
                          obtain ⟨ce27, hcl27, hM27, hcc27, hfr27⟩ := Kd.R_elem HO_6.out z26 (x8_2 : Int) p27 q27
                          obtain rfl := k26_openM hM27
                          have hx27_0 : World.cell? _ ⟨go27, (x8_2 : Int).toNat * 2, none⟩ = some (.string ((rd_T26 x6_2 x8_2).f0)) := hcc27 0 _ rfl
                          have hx27_1 : World.cell? _ ⟨go27, (x8_2 : Int).toNat * 2 + 1, none⟩ = some (.string ((rd_T26 x6_2 x8_2).f1)) := hcc27 1 _ rfl
                          have hf27_0 : World.frozen? _ ⟨go27, (x8_2 : Int).toNat * 2, none⟩ = false := hfr27 0
                          have hf27_1 : World.frozen? _ ⟨go27, (x8_2 : Int).toNat * 2 + 1, none⟩ = false := hfr27 1
                          clear hcl27 hcc27 hfr27 hM27
                          replace p27 := eq_true p27
                          replace q27 := eq_true q27
                          obtain ⟨ce31, hcl31, hM31, hcc31, hfr31⟩ := Kd.R_elem HO_6.out z26 (x8_2 : Int) (of_decide_eq_true (by first | (with_reducible assumption) | assumption)) (by have h_ : (x8_2 : Int) < ((x6_2.length : Int) : Int) := of_decide_eq_true (by first | (with_reducible assumption) | assumption); first | exact h_ | (have e_ := (Kd.R_reads' HO_6.out).1; omega) | simpa using h_)
                          obtain rfl := k26_openM hM31
                          have HP31 := (Kd.R_seg HO_6.out (x8_2 : Int) (of_decide_eq_true (by first | (with_reducible assumption) | assumption)) (by have h_ : (x8_2 : Int) < ((x6_2.length : Int) : Int) := of_decide_eq_true (by first | (with_reducible assumption) | assumption); first | exact h_ | (have e_ := (Kd.R_reads' HO_6.out).1; omega) | simpa using h_) (seg := [.string ((rd_T26 x6_2 (ji23)).f0), .string ((rd_T26 x6_2 (ji23)).f1)]) (j := 0) hcl31 hcc31 (show 2 ≤ 2 from by decide) (x' := (⟨(rd_T26 x6_2 (ji23)).f0, (rd_T26 x6_2 (ji23)).f1⟩ : S26)) (k26_mkM _ _ _ (⟨(rd_T26 x6_2 (ji23)).f0, (rd_T26 x6_2 (ji23)).f1⟩ : S26) ) (fun _ hk => hk)).1
                          rw [← Ny410.out] at HP31
                          have HQ31 := Aside0.mk HP31
                          clear hcl31 hcc31 hfr31 hM31 HP31
                          have p28 : 0 ≤ ((ji23) : Int) := of_decide_eq_true (by first | (with_reducible assumption) | assumption)
                          have q28 : ((ji23) : Int) < ((x6_2.length : Int) : Int) := of_decide_eq_true (by first | (with_reducible assumption) | assumption)
                          obtain ⟨ce28, hcl28, hM28, hcc28, hfr28⟩ := Kd.R_elem HQ31.out z26 ((ji23) : Int) p28 q28
                          obtain rfl := k26_openM hM28
                          have hx28_0 : World.cell? _ ⟨go27, ((ji23) : Int).toNat * 2, none⟩ = some (.string ((rd_T26 y410 (ji23)).f0)) := hcc28 0 _ rfl
                          have hx28_1 : World.cell? _ ⟨go27, ((ji23) : Int).toNat * 2 + 1, none⟩ = some (.string ((rd_T26 y410 (ji23)).f1)) := hcc28 1 _ rfl
                          have hf28_0 : World.frozen? _ ⟨go27, ((ji23) : Int).toNat * 2, none⟩ = false := hfr28 0
                          have hf28_1 : World.frozen? _ ⟨go27, ((ji23) : Int).toNat * 2 + 1, none⟩ = false := hfr28 1
                          clear hcl28 hcc28 hfr28 hM28
                          (try simp only [World.setCells, show k26.sz = 2 from rfl, Nat.add_zero, World.frozen?_setCell] at hx28_0 hx28_1 hf28_0 hf28_1)
                          replace p28 := eq_true p28
                          replace q28 := eq_true q28
                          obtain ⟨ce32, hcl32, hM32, hcc32, hfr32⟩ := Kd.R_elem HQ31.out z26 ((ji23) : Int) (of_decide_eq_true (by first | (with_reducible assumption) | assumption)) (by have h_ : ((ji23) : Int) < ((x6_2.length : Int) : Int) := of_decide_eq_true (by first | (with_reducible assumption) | assumption); first | exact h_ | (have e_ := (Kd.R_reads' HO_6.out).1; omega) | simpa using h_)
                          obtain rfl := k26_openM hM32
                          have HP32 := (Kd.R_seg HQ31.out ((ji23) : Int) (of_decide_eq_true (by first | (with_reducible assumption) | assumption)) (by have h_ : ((ji23) : Int) < ((x6_2.length : Int) : Int) := of_decide_eq_true (by first | (with_reducible assumption) | assumption); first | exact h_ | (have e_ := (Kd.R_reads' HO_6.out).1; omega) | simpa using h_) (seg := [.string ((rd_T26 x6_2 x8_2).f0), .string ((rd_T26 x6_2 x8_2).f1)]) (j := 0) hcl32 hcc32 (show 2 ≤ 2 from by decide) (x' := (⟨(rd_T26 x6_2 x8_2).f0, (rd_T26 x6_2 x8_2).f1⟩ : S26)) (k26_mkM _ _ _ (⟨(rd_T26 x6_2 x8_2).f0, (rd_T26 x6_2 x8_2).f1⟩ : S26) ) (fun _ hk => hk)).1
                          rw [← Ny411.out] at HP32
                          have HQ32 := Aside0.mk HP32
                          clear hcl32 hcc32 hfr32 hM32 HP32
                          refine start_ (n := 18) (S := fun w' => w'.cell? ⟨go27, (((ji23)).toNat * 2), none⟩ = some (.string ((rd_T26 x6_2 (ji23)).f0)) ∧ w'.cell? ⟨go27, (((ji23)).toNat * 2) + 1, none⟩ = some (.string ((rd_T26 x6_2 (ji23)).f1)) ∧ w'.cell? ⟨go27, ((x8_2).toNat * 2), none⟩ = some (.string ((rd_T26 x6_2 x8_2).f0)) ∧ w'.cell? ⟨go27, ((x8_2).toNat * 2) + 1, none⟩ = some (.string ((rd_T26 x6_2 x8_2).f1))) (ds := [15, 17]) #[false, false, false, false, false, false, false, false, false, false, false, false, false, false, false, false, false, false] (by kernel_rfl) rfl rfl ⟨hx408_0, hx408_1, hx409_0, hx409_1⟩ (fun hHeld => ?_); refine with_tabW undercroftref13_Set.tab8 undercroftref13_Set.bits8 (fun HT_ HW_ => ?_)
                          generalize w29.drew = w30 at HO_6 BK396 HB GG27 HQ31 HQ32 hf27_0 hf27_1 hf28_0 hf28_1 hx27_0 hx27_1 hx28_0 hx28_1 hx406_0 hx406_1 hx407_0 hx407_1 hx408_0 hx408_1 hx409_0 hx409_1 hHeld ⊢
                          refine pure_ (i := 0) (N := some 49) (v := ?_) (a' := ?_) #[true, false, false, false, false, false, false, false, false, false, false, false, false, false, false, false, false, false] rfl rfl (any_of HT_.out (by kernel_rfl)) (fun _ _ _ h => h) (Or.inl ⟨by rfl, ?_⟩) ?_ ?_
                          rotate_left
                          · intro w'
                            go_simp
                            with_reducible rfl
                          rotate_left
                          · simp only [Act.put, List.setIfInBounds_toArray, List.set_cons_zero, List.set_cons_succ, i64_w, i32_w]
                            rfl
                          refine pure_ (i := 1) (N := some 50) (v := ?_) (a' := ?_) #[true, true, false, false, false, false, false, false, false, false, false, false, false, false, false, false, false, false] rfl rfl (any_of HT_.out (by kernel_rfl)) (fun _ _ _ h => h) (Or.inl ⟨by rfl, ?_⟩) ?_ ?_
                          rotate_left
                          · intro w'
                            go_simp
                            with_reducible rfl
                          rotate_left
                          · simp only [Act.put, List.setIfInBounds_toArray, List.set_cons_zero, List.set_cons_succ, i64_w, i32_w]
                            rfl
                          refine pure_ (i := 2) (N := some 51) (v := ?_) (a' := ?_) #[true, true, true, false, false, false, false, false, false, false, false, false, false, false, false, false, false, false] rfl rfl (any_of HT_.out (by kernel_rfl)) (fun _ _ _ h => h) (Or.inl ⟨by rfl, ?_⟩) ?_ ?_
                          rotate_left
                          · intro w'
                            go_simp
                            with_reducible rfl
                          rotate_left
                          · simp only [Act.put, List.setIfInBounds_toArray, List.set_cons_zero, List.set_cons_succ, i64_w, i32_w]
                            rfl
                          refine pure_ (i := 3) (N := some 52) (v := ?_) (a' := ?_) #[true, true, true, true, false, false, false, false, false, false, false, false, false, false, false, false, false, false] rfl rfl (any_of HT_.out (by kernel_rfl)) (fun _ _ _ h => h) (Or.inl ⟨by rfl, ?_⟩) ?_ ?_
                          rotate_left
                          · intro w'
                            go_simp
                            with_reducible rfl
                          rotate_left
                          · simp only [Act.put, List.setIfInBounds_toArray, List.set_cons_zero, List.set_cons_succ, i64_w, i32_w]
                            rfl
                          refine pure_ (i := 4) (N := some 53) (v := ?_) (a' := ?_) #[true, true, true, true, true, false, false, false, false, false, false, false, false, false, false, false, false, false] rfl rfl (any_of HT_.out (by kernel_rfl)) (fun _ _ _ h => h) (Or.inl ⟨by rfl, ?_⟩) ?_ ?_
                          rotate_left
                          · intro w'
                            go_simp
                            with_reducible rfl
                          rotate_left
                          · simp only [Act.put, List.setIfInBounds_toArray, List.set_cons_zero, List.set_cons_succ, i64_w, i32_w]
                            rfl
                          refine pure_ (i := 5) (N := some 54) (v := ?_) (a' := ?_) #[true, true, true, true, true, true, false, false, false, false, false, false, false, false, false, false, false, false] rfl rfl (any_of HT_.out (by kernel_rfl)) (fun _ _ _ h => h) (Or.inl ⟨by rfl, ?_⟩) ?_ ?_
                          rotate_left
                          · intro w'
                            go_simp
                            with_reducible rfl
                          rotate_left
                          · simp only [Act.put, List.setIfInBounds_toArray, List.set_cons_zero, List.set_cons_succ, i64_w, i32_w]
                            rfl
                          refine pure_ (i := 6) (N := some 55) (v := ?_) (a' := ?_) #[true, true, true, true, true, true, true, false, false, false, false, false, false, false, false, false, false, false] rfl rfl (any_of HT_.out (by kernel_rfl)) (fun _ _ _ h => h) (Or.inl ⟨by rfl, ?_⟩) ?_ ?_
                          rotate_left
                          · intro w'
                            go_simp
                            with_reducible rfl
                          rotate_left
                          · simp only [Act.put, List.setIfInBounds_toArray, List.set_cons_zero, List.set_cons_succ, i64_w, i32_w]
                            rfl
                          refine pure_ (i := 7) (N := some 56) (v := ?_) (a' := ?_) #[true, true, true, true, true, true, true, true, false, false, false, false, false, false, false, false, false, false] rfl rfl (any_of HT_.out (by kernel_rfl)) (fun _ _ _ h => h) (Or.inl ⟨by rfl, ?_⟩) ?_ ?_
                          rotate_left
                          · intro w'
                            go_simp
                            with_reducible rfl
                          rotate_left
                          · simp only [Act.put, List.setIfInBounds_toArray, List.set_cons_zero, List.set_cons_succ, i64_w, i32_w]
                            rfl
                          refine pure_ (i := 8) (N := some 57) (v := ?_) (a' := ?_) #[true, true, true, true, true, true, true, true, true, false, false, false, false, false, false, false, false, false] rfl rfl (any_of HT_.out (by kernel_rfl)) (fun _ _ _ h => h) (Or.inl ⟨by rfl, ?_⟩) ?_ ?_
                          rotate_left
                          · intro w'
                            go_simp
                            with_reducible rfl
                          rotate_left
                          · simp only [Act.put, List.setIfInBounds_toArray, List.set_cons_zero, List.set_cons_succ, i64_w, i32_w]
                            rfl
                          refine pure_ (i := 10) (N := some 59) (v := ?_) (a' := ?_) #[true, true, true, true, true, true, true, true, true, false, true, false, false, false, false, false, false, false] rfl rfl (any_of HT_.out (by kernel_rfl)) (fun _ _ _ h => h) (Or.inl ⟨by rfl, ?_⟩) ?_ ?_
                          rotate_left
                          · intro w'
                            go_simp
                            with_reducible rfl
                          rotate_left
                          · simp only [Act.put, List.setIfInBounds_toArray, List.set_cons_zero, List.set_cons_succ, i64_w, i32_w]
                            rfl
                          refine pure_ (i := 11) (N := some 60) (v := ?_) (a' := ?_) #[true, true, true, true, true, true, true, true, true, false, true, true, false, false, false, false, false, false] rfl rfl (any_of HT_.out (by kernel_rfl)) (fun _ _ _ h => h) (Or.inl ⟨by rfl, ?_⟩) ?_ ?_
                          rotate_left
                          · intro w'
                            go_simp
                            with_reducible rfl
                          rotate_left
                          · simp only [Act.put, List.setIfInBounds_toArray, List.set_cons_zero, List.set_cons_succ, i64_w, i32_w]
                            rfl
                          refine pure_ (i := 12) (N := some 61) (v := ?_) (a' := ?_) #[true, true, true, true, true, true, true, true, true, false, true, true, true, false, false, false, false, false] rfl rfl (any_of HT_.out (by kernel_rfl)) (fun _ _ _ h => h) (Or.inl ⟨by rfl, ?_⟩) ?_ ?_
                          rotate_left
                          · intro w'
                            go_simp
                            with_reducible rfl
                          rotate_left
                          · simp only [Act.put, List.setIfInBounds_toArray, List.set_cons_zero, List.set_cons_succ, i64_w, i32_w]
                            rfl
                          refine take_ (i := 9) (N := some 58) (v := ?_) (a' := ?_) #[true, true, true, true, true, true, true, true, true, true, true, true, true, false, false, false, false, false] rfl rfl (take_ofW HT_.out HW_.out (by kernel_rfl)) (fun _ _ _ h => h) (Or.inl ⟨by rfl, ?_⟩) hHeld ?_ ?_
                          rotate_left
                          · rintro w' ⟨s0, s1, s2, s3⟩
                            go_simp
                            with_reducible rfl
                          rotate_left
                          · simp only [Act.put, List.setIfInBounds_toArray, List.set_cons_zero, List.set_cons_succ, i64_w, i32_w]
                            rfl
                          refine take_ (i := 13) (N := some 62) (v := ?_) (a' := ?_) #[true, true, true, true, true, true, true, true, true, true, true, true, true, true, false, false, false, false] rfl rfl (take_ofW HT_.out HW_.out (by kernel_rfl)) (fun _ _ _ h => h) (Or.inl ⟨by rfl, ?_⟩) hHeld ?_ ?_
                          rotate_left
                          · rintro w' ⟨s0, s1, s2, s3⟩
                            go_simp
                            with_reducible rfl
                          rotate_left
                          · simp only [Act.put, List.setIfInBounds_toArray, List.set_cons_zero, List.set_cons_succ, i64_w, i32_w]
                            rfl
                          refine pure_ (i := 14) (N := some 63) (v := ?_) (a' := ?_) #[true, true, true, true, true, true, true, true, true, true, true, true, true, true, true, false, false, false] rfl rfl (any_of HT_.out (by kernel_rfl)) (fun _ _ _ h => h) (Or.inl ⟨by rfl, ?_⟩) ?_ ?_
                          rotate_left
                          · intro w'
                            go_simp
                            with_reducible rfl
                          rotate_left
                          · simp only [Act.put, List.setIfInBounds_toArray, List.set_cons_zero, List.set_cons_succ, i64_w, i32_w]
                            rfl
                          refine last_ (i := 15) (N := none) #[true, true, true, true, true, true, true, true, true, true, true, true, true, true, true, true, false, false] rfl rfl (one_of HT_.out (by kernel_rfl)) (by decide) (fun K hK => ?_)
                          refine skip_ (w1 := ?_) (by rfl) rfl ?_ ?_
                          rotate_left
                          · go_simp
                            rfl
                          refine hK.out _ _ ?_
                          clear hK K
                          refine pure_ (i := 16) (N := some 64) (v := ?_) (a' := ?_) #[true, true, true, true, true, true, true, true, true, true, true, true, true, true, true, true, true, false] rfl rfl (any_of HT_.out (by kernel_rfl)) (fun _ _ _ h => h) (Or.inl ⟨by rfl, ?_⟩) ?_ ?_
                          rotate_left
                          · intro w'
                            go_simp
                            with_reducible rfl
                          rotate_left
                          · simp only [Act.put, List.setIfInBounds_toArray, List.set_cons_zero, List.set_cons_succ, i64_w, i32_w]
                            rfl
                          refine last_ (i := 17) (N := none) #[true, true, true, true, true, true, true, true, true, true, true, true, true, true, true, true, true, true] rfl rfl (one_of HT_.out (by kernel_rfl)) (by decide) (fun K hK => ?_)
                          refine skip_ (w1 := ?_) (by rfl) rfl ?_ ?_
                          rotate_left
                          · go_simp
                            rfl
                          refine hK.out _ _ ?_
                          clear hK K
                          refine done_ (done_of HT_.out (by kernel_rfl)) ?_
                          try go_wp2
                          (try simp only [← hl6_2])
                          go_roundg k2
                          case measure => have := HJ2.out; have := HK2.out; omega
                          case rel => exact ⟨(y411), (ji23), (x397000_2), (x397001_2), (by first | rfl | (simp; done) | (simp only [← hji23] <;> (first | rfl | simp)) | (simp [*]; done)), H', ⟨by have := HJ2.out; have := HK2.out; omega⟩, ⟨by (try simp only [hl6_2]); (with_reducible repeat (first | apply Kd.R_alloc | apply Kd.R_drewN | apply Kd.R_drew)); exact HQ32.out⟩, ⟨by (try simp only [hl6_2]); (with_reducible repeat (first | refine blk_drewN ?_ _ | refine blk_drew ?_ | refine blk_alloc ?_ _)); refine blk_far ?_ (by have h_ := Kd.R_away HO_6.out (fun _ hk => hk); intro e_; exact h_ (by rw [e_]; rfl)) _; (with_reducible repeat (first | refine blk_drewN ?_ _ | refine blk_drew ?_ | refine blk_alloc ?_ _)); refine blk_far ?_ (by have h_ := Kd.R_away HO_6.out (fun _ hk => hk); intro e_; exact h_ (by rw [e_]; rfl)) _; (with_reducible repeat (first | refine blk_drewN ?_ _ | refine blk_drew ?_ | refine blk_alloc ?_ _)); refine blk_far ?_ (by have h_ := Kd.R_away HO_6.out (fun _ hk => hk); intro e_; exact h_ (by rw [e_]; rfl)) _; (with_reducible repeat (first | refine blk_drewN ?_ _ | refine blk_drew ?_ | refine blk_alloc ?_ _)); refine blk_far ?_ (by have h_ := Kd.R_away HO_6.out (fun _ hk => hk); intro e_; exact h_ (by rw [e_]; rfl)) _; (with_reducible repeat (first | refine blk_drewN ?_ _ | refine blk_drew ?_ | refine blk_alloc ?_ _)); exact BK396.out⟩, ⟨by repeat (first | (with_reducible first | exact HB.out | apply below_alloc | apply pw_below_drewN | apply below_drew1 | refine below_set ?_ GB27.out | refine below_set ?_ GB27.out | refine below_set ?_ GB27.out | refine below_set ?_ GB27.out | refine below_set ?_ GE396.out) | exact HB.out)⟩⟩
                        · rw [if_neg c26] at H
                          have c26b0 : (Op.bytesLess (((rd_T26 x6_2 x8_2).f0).toList) (((rd_T26 x6_2 (ji23)).f0).toList)) = false := by simpa using c26
                          clear c26
                          replace H := Option.bind_eq_some_iff.mp H
                          obtain ⟨t412, A330, H⟩ := H
                          replace H : (if t412 = true then (some (x6_2, 0)) else (some (([] : List (S26)), 15))) = some (r1, r2) := H
                          have A33 := Aside0.mk A330
                          clear A330
                          by_cases c34 : t412 = true
                          · subst c34
                            have H1 : (some (x6_2, 0)) = some (r1, r2) := by rw [if_pos rfl] at H; exact H
                            clear H
                            have H := H1
                            clear H1
                            simp only [Option.some.injEq, Prod.mk.injEq] at H
                            obtain ⟨rfl, rfl⟩ := H
                            try go_wp2
                            have n0_ := Aside0.mk (Kd.R_drew HO_6.out)
                            have n1_ := Aside0.mk (blk_drew BK396.out)
                            have n2_ := Aside0.mk (below_drew1 HB.out)
                            clear HO_6
                            clear BK396
                            clear HB
                            have HO_6 := n0_
                            have BK396 := n1_
                            have HB := n2_
                            clear n0_ n1_ n2_
                            have p406 : 0 ≤ (x8_2 : Int) := of_decide_eq_true (by first | (with_reducible assumption) | assumption)
                            have q406 : x8_2 < (x6_2.length : Int) := of_decide_eq_true (by first | (with_reducible assumption) | assumption)
                            obtain ⟨ad406, e406, hx406_0, hx406_1⟩ := at_T26 (Kd.R_reads' HO_6.out).2.2 x8_2 p406 q406
                            cases e406
                            replace p406 := eq_true p406
                            replace q406 := eq_true q406
                            have p407 : 0 ≤ ((ji23) : Int) := of_decide_eq_true (by first | (with_reducible assumption) | assumption)
                            have q407 : (ji23) < (x6_2.length : Int) := of_decide_eq_true (by first | (with_reducible assumption) | assumption)
                            obtain ⟨ad407, e407, hx407_0, hx407_1⟩ := at_T26 (Kd.R_reads' HO_6.out).2.2 (ji23) p407 q407
                            obtain rfl : ad406 = ad407 := (by injection e407)
                            replace p407 := eq_true p407
                            replace q407 := eq_true q407
                            refine start_ (n := 16) (S := fun w' => w'.cell? (ad406.add ((x8_2).toNat * 2)) = some (.string ((rd_T26 x6_2 x8_2).f0)) ∧ w'.cell? ⟨(ad406.add ((x8_2).toNat * 2)).block, (ad406.add ((x8_2).toNat * 2)).off + 1, none⟩ = some (.string ((rd_T26 x6_2 x8_2).f1)) ∧ w'.cell? (ad406.add (((ji23)).toNat * 2)) = some (.string ((rd_T26 x6_2 (ji23)).f0)) ∧ w'.cell? ⟨(ad406.add (((ji23)).toNat * 2)).block, (ad406.add (((ji23)).toNat * 2)).off + 1, none⟩ = some (.string ((rd_T26 x6_2 (ji23)).f1))) (ds := []) #[false, false, false, false, false, false, false, false, false, false, false, false, false, false, false, false] (by kernel_rfl) rfl rfl ⟨hx406_0, hx406_1, hx407_0, hx407_1⟩ (fun hHeld => ?_); refine with_tabW undercroftref13_Set.tab6 undercroftref13_Set.bits6 (fun HT_ HW_ => ?_)
                            generalize wr.drew = w35 at HO_6 BK396 HB hx406_0 hx406_1 hx407_0 hx407_1 hHeld ⊢
                            refine pure_ (i := 0) (N := some 31) (v := ?_) (a' := ?_) #[true, false, false, false, false, false, false, false, false, false, false, false, false, false, false, false] rfl rfl (any_of HT_.out (by kernel_rfl)) (fun _ _ _ h => h) (Or.inl ⟨by rfl, ?_⟩) ?_ ?_
                            rotate_left
                            · intro w'
                              go_simp
                              with_reducible rfl
                            rotate_left
                            · simp only [Act.put, List.setIfInBounds_toArray, List.set_cons_zero, List.set_cons_succ, i64_w, i32_w]
                              rfl
                            refine pure_ (i := 1) (N := some 32) (v := ?_) (a' := ?_) #[true, true, false, false, false, false, false, false, false, false, false, false, false, false, false, false] rfl rfl (any_of HT_.out (by kernel_rfl)) (fun _ _ _ h => h) (Or.inl ⟨by rfl, ?_⟩) ?_ ?_
                            rotate_left
                            · intro w'
                              go_simp
                              with_reducible rfl
                            rotate_left
                            · simp only [Act.put, List.setIfInBounds_toArray, List.set_cons_zero, List.set_cons_succ, i64_w, i32_w]
                              rfl
                            refine pure_ (i := 2) (N := some 33) (v := ?_) (a' := ?_) #[true, true, true, false, false, false, false, false, false, false, false, false, false, false, false, false] rfl rfl (any_of HT_.out (by kernel_rfl)) (fun _ _ _ h => h) (Or.inl ⟨by rfl, ?_⟩) ?_ ?_
                            rotate_left
                            · intro w'
                              go_simp
                              with_reducible rfl
                            rotate_left
                            · simp only [Act.put, List.setIfInBounds_toArray, List.set_cons_zero, List.set_cons_succ, i64_w, i32_w]
                              rfl
                            refine pure_ (i := 3) (N := some 34) (v := ?_) (a' := ?_) #[true, true, true, true, false, false, false, false, false, false, false, false, false, false, false, false] rfl rfl (any_of HT_.out (by kernel_rfl)) (fun _ _ _ h => h) (Or.inl ⟨by rfl, ?_⟩) ?_ ?_
                            rotate_left
                            · intro w'
                              go_simp
                              with_reducible rfl
                            rotate_left
                            · simp only [Act.put, List.setIfInBounds_toArray, List.set_cons_zero, List.set_cons_succ, i64_w, i32_w]
                              rfl
                            refine pure_ (i := 4) (N := some 35) (v := ?_) (a' := ?_) #[true, true, true, true, true, false, false, false, false, false, false, false, false, false, false, false] rfl rfl (any_of HT_.out (by kernel_rfl)) (fun _ _ _ h => h) (Or.inl ⟨by rfl, ?_⟩) ?_ ?_
                            rotate_left
                            · intro w'
                              go_simp
                              with_reducible rfl
                            rotate_left
                            · simp only [Act.put, List.setIfInBounds_toArray, List.set_cons_zero, List.set_cons_succ, i64_w, i32_w]
                              rfl
                            refine pure_ (i := 5) (N := some 36) (v := ?_) (a' := ?_) #[true, true, true, true, true, true, false, false, false, false, false, false, false, false, false, false] rfl rfl (any_of HT_.out (by kernel_rfl)) (fun _ _ _ h => h) (Or.inl ⟨by rfl, ?_⟩) ?_ ?_
                            rotate_left
                            · intro w'
                              go_simp
                              with_reducible rfl
                            rotate_left
                            · simp only [Act.put, List.setIfInBounds_toArray, List.set_cons_zero, List.set_cons_succ, i64_w, i32_w]
                              rfl
                            refine pure_ (i := 6) (N := some 37) (v := ?_) (a' := ?_) #[true, true, true, true, true, true, true, false, false, false, false, false, false, false, false, false] rfl rfl (any_of HT_.out (by kernel_rfl)) (fun _ _ _ h => h) (Or.inl ⟨by rfl, ?_⟩) ?_ ?_
                            rotate_left
                            · intro w'
                              go_simp
                              with_reducible rfl
                            rotate_left
                            · simp only [Act.put, List.setIfInBounds_toArray, List.set_cons_zero, List.set_cons_succ, i64_w, i32_w]
                              rfl
                            refine pure_ (i := 8) (N := some 39) (v := ?_) (a' := ?_) #[true, true, true, true, true, true, true, false, true, false, false, false, false, false, false, false] rfl rfl (any_of HT_.out (by kernel_rfl)) (fun _ _ _ h => h) (Or.inl ⟨by rfl, ?_⟩) ?_ ?_
                            rotate_left
                            · intro w'
                              go_simp
                              with_reducible rfl
                            rotate_left
                            · simp only [Act.put, List.setIfInBounds_toArray, List.set_cons_zero, List.set_cons_succ, i64_w, i32_w]
                              rfl
                            refine pure_ (i := 9) (N := some 40) (v := ?_) (a' := ?_) #[true, true, true, true, true, true, true, false, true, true, false, false, false, false, false, false] rfl rfl (any_of HT_.out (by kernel_rfl)) (fun _ _ _ h => h) (Or.inl ⟨by rfl, ?_⟩) ?_ ?_
                            rotate_left
                            · intro w'
                              go_simp
                              with_reducible rfl
                            rotate_left
                            · simp only [Act.put, List.setIfInBounds_toArray, List.set_cons_zero, List.set_cons_succ, i64_w, i32_w]
                              rfl
                            refine pure_ (i := 10) (N := some 41) (v := ?_) (a' := ?_) #[true, true, true, true, true, true, true, false, true, true, true, false, false, false, false, false] rfl rfl (any_of HT_.out (by kernel_rfl)) (fun _ _ _ h => h) (Or.inl ⟨by rfl, ?_⟩) ?_ ?_
                            rotate_left
                            · intro w'
                              go_simp
                              with_reducible rfl
                            rotate_left
                            · simp only [Act.put, List.setIfInBounds_toArray, List.set_cons_zero, List.set_cons_succ, i64_w, i32_w]
                              rfl
                            refine pure_ (i := 11) (N := some 42) (v := ?_) (a' := ?_) #[true, true, true, true, true, true, true, false, true, true, true, true, false, false, false, false] rfl rfl (any_of HT_.out (by kernel_rfl)) (fun _ _ _ h => h) (Or.inl ⟨by rfl, ?_⟩) ?_ ?_
                            rotate_left
                            · intro w'
                              go_simp
                              with_reducible rfl
                            rotate_left
                            · simp only [Act.put, List.setIfInBounds_toArray, List.set_cons_zero, List.set_cons_succ, i64_w, i32_w]
                              rfl
                            refine pure_ (i := 12) (N := some 43) (v := ?_) (a' := ?_) #[true, true, true, true, true, true, true, false, true, true, true, true, true, false, false, false] rfl rfl (any_of HT_.out (by kernel_rfl)) (fun _ _ _ h => h) (Or.inl ⟨by rfl, ?_⟩) ?_ ?_
                            rotate_left
                            · intro w'
                              go_simp
                              with_reducible rfl
                            rotate_left
                            · simp only [Act.put, List.setIfInBounds_toArray, List.set_cons_zero, List.set_cons_succ, i64_w, i32_w]
                              rfl
                            refine take_ (i := 7) (N := some 38) (v := ?_) (a' := ?_) #[true, true, true, true, true, true, true, true, true, true, true, true, true, false, false, false] rfl rfl (take_ofW HT_.out HW_.out (by kernel_rfl)) (fun _ _ _ h => h) (Or.inl ⟨by rfl, ?_⟩) hHeld ?_ ?_
                            rotate_left
                            · rintro w' ⟨s0, s1, s2, s3⟩
                              go_simp
                              with_reducible rfl
                            rotate_left
                            · simp only [Act.put, List.setIfInBounds_toArray, List.set_cons_zero, List.set_cons_succ, i64_w, i32_w]
                              rfl
                            refine take_ (i := 13) (N := some 44) (v := ?_) (a' := ?_) #[true, true, true, true, true, true, true, true, true, true, true, true, true, true, false, false] rfl rfl (take_ofW HT_.out HW_.out (by kernel_rfl)) (fun _ _ _ h => h) (Or.inl ⟨by rfl, ?_⟩) hHeld ?_ ?_
                            rotate_left
                            · rintro w' ⟨s0, s1, s2, s3⟩
                              go_simp
                              with_reducible rfl
                            rotate_left
                            · simp only [Act.put, List.setIfInBounds_toArray, List.set_cons_zero, List.set_cons_succ, i64_w, i32_w]
                              rfl
                            refine pure_ (i := 14) (N := some 45) (v := ?_) (a' := ?_) #[true, true, true, true, true, true, true, true, true, true, true, true, true, true, true, false] rfl rfl (any_of HT_.out (by kernel_rfl)) (fun _ _ _ h => h) (Or.inl ⟨by rfl, ?_⟩) ?_ ?_
                            rotate_left
                            · intro w'
                              go_simp
                              with_reducible rfl
                            rotate_left
                            · simp only [Act.put, List.setIfInBounds_toArray, List.set_cons_zero, List.set_cons_succ, i64_w, i32_w]
                              rfl
                            refine pure_ (i := 15) (N := some 46) (v := ?_) (a' := ?_) #[true, true, true, true, true, true, true, true, true, true, true, true, true, true, true, true] rfl rfl (any_of HT_.out (by kernel_rfl)) (fun _ _ _ h => h) (Or.inl ⟨by rfl, ?_⟩) ?_ ?_
                            rotate_left
                            · intro w'
                              go_simp
                              with_reducible rfl
                            rotate_left
                            · simp only [Act.put, List.setIfInBounds_toArray, List.set_cons_zero, List.set_cons_succ, i64_w, i32_w]
                              rfl
                            refine done_ (done_of HT_.out (by kernel_rfl)) ?_
                            try go_wp2_with (first | ((with_reducible refine gate_callee (f := 43) rfl ?_); refine goesL_ (some 66) rfl rfl Try.func43 (by kernel_rfl) rfl #[.slice (some ad406) x6_2.length co19] rfl (by (try simp only [List.map_toArray, List.map_cons, List.map_nil]); first | done | rfl | (simp only [List.length_drop, List.length_take]; rfl)) ?_; (with_reducible refine (undercroftref13_Fits.calls k2 _ _ x6_2 true _ ?side1 ?side2 A33.out).mono ?_); (case side1 => repeat (first | exact (Kd.R_reads' HO_6.out).2.2 | (with_reducible refine Kd.C_alloc ?_ _) | (with_reducible refine Kd.C_drewN ?_ _) | (with_reducible refine Kd.C_drew ?_))); (case side2 => exact (Kd.R_reads' HO_6.out).2.1); rintro e w' ⟨rfl, ⟨nd, rfl⟩⟩; refine ⟨_, rfl, ?_⟩))
                            go_ret2
                            exact ⟨_, by first | rfl | (simp [errW_none, errW_some] <;> rfl) | (simp only [← hji23]; first | rfl | (simp [errW_none, errW_some] <;> rfl)) | (simp [*, errW_none, errW_some] <;> rfl), by (with_reducible repeat (first | apply Kd.R_alloc | apply Kd.R_drewN | apply Kd.R_drew)); exact Kd.R_mono HO_6.out (fun _ hk => trivial), by repeat (first | (with_reducible first | exact HB.out | apply below_alloc | apply pw_below_drewN | apply below_drew1 | refine below_set ?_ GE396.out) | exact HB.out)⟩
                          · replace c34 := Bool.eq_false_iff.mpr c34
                            subst c34
                            have H1 : (some (([] : List (S26)), 15)) = some (r1, r2) := by rw [if_neg (show ¬ (false = true) by decide)] at H; exact H
                            clear H
                            have H := H1
                            clear H1
                            simp only [Option.some.injEq, Prod.mk.injEq] at H
                            obtain ⟨rfl, rfl⟩ := H
                            try go_wp2
                            have n0_ := Aside0.mk (Kd.R_drew HO_6.out)
                            have n1_ := Aside0.mk (blk_drew BK396.out)
                            have n2_ := Aside0.mk (below_drew1 HB.out)
                            clear HO_6
                            clear BK396
                            clear HB
                            have HO_6 := n0_
                            have BK396 := n1_
                            have HB := n2_
                            clear n0_ n1_ n2_
                            have p406 : 0 ≤ (x8_2 : Int) := of_decide_eq_true (by first | (with_reducible assumption) | assumption)
                            have q406 : x8_2 < (x6_2.length : Int) := of_decide_eq_true (by first | (with_reducible assumption) | assumption)
                            obtain ⟨ad406, e406, hx406_0, hx406_1⟩ := at_T26 (Kd.R_reads' HO_6.out).2.2 x8_2 p406 q406
                            cases e406
                            replace p406 := eq_true p406
                            replace q406 := eq_true q406
                            have p407 : 0 ≤ ((ji23) : Int) := of_decide_eq_true (by first | (with_reducible assumption) | assumption)
                            have q407 : (ji23) < (x6_2.length : Int) := of_decide_eq_true (by first | (with_reducible assumption) | assumption)
                            obtain ⟨ad407, e407, hx407_0, hx407_1⟩ := at_T26 (Kd.R_reads' HO_6.out).2.2 (ji23) p407 q407
                            obtain rfl : ad406 = ad407 := (by injection e407)
                            replace p407 := eq_true p407
                            replace q407 := eq_true q407
                            refine start_ (n := 16) (S := fun w' => w'.cell? (ad406.add ((x8_2).toNat * 2)) = some (.string ((rd_T26 x6_2 x8_2).f0)) ∧ w'.cell? ⟨(ad406.add ((x8_2).toNat * 2)).block, (ad406.add ((x8_2).toNat * 2)).off + 1, none⟩ = some (.string ((rd_T26 x6_2 x8_2).f1)) ∧ w'.cell? (ad406.add (((ji23)).toNat * 2)) = some (.string ((rd_T26 x6_2 (ji23)).f0)) ∧ w'.cell? ⟨(ad406.add (((ji23)).toNat * 2)).block, (ad406.add (((ji23)).toNat * 2)).off + 1, none⟩ = some (.string ((rd_T26 x6_2 (ji23)).f1))) (ds := []) #[false, false, false, false, false, false, false, false, false, false, false, false, false, false, false, false] (by kernel_rfl) rfl rfl ⟨hx406_0, hx406_1, hx407_0, hx407_1⟩ (fun hHeld => ?_); refine with_tabW undercroftref13_Set.tab6 undercroftref13_Set.bits6 (fun HT_ HW_ => ?_)
                            generalize wr.drew = w36 at HO_6 BK396 HB hx406_0 hx406_1 hx407_0 hx407_1 hHeld ⊢
                            refine pure_ (i := 0) (N := some 31) (v := ?_) (a' := ?_) #[true, false, false, false, false, false, false, false, false, false, false, false, false, false, false, false] rfl rfl (any_of HT_.out (by kernel_rfl)) (fun _ _ _ h => h) (Or.inl ⟨by rfl, ?_⟩) ?_ ?_
                            rotate_left
                            · intro w'
                              go_simp
                              with_reducible rfl
                            rotate_left
                            · simp only [Act.put, List.setIfInBounds_toArray, List.set_cons_zero, List.set_cons_succ, i64_w, i32_w]
                              rfl
                            refine pure_ (i := 1) (N := some 32) (v := ?_) (a' := ?_) #[true, true, false, false, false, false, false, false, false, false, false, false, false, false, false, false] rfl rfl (any_of HT_.out (by kernel_rfl)) (fun _ _ _ h => h) (Or.inl ⟨by rfl, ?_⟩) ?_ ?_
                            rotate_left
                            · intro w'
                              go_simp
                              with_reducible rfl
                            rotate_left
                            · simp only [Act.put, List.setIfInBounds_toArray, List.set_cons_zero, List.set_cons_succ, i64_w, i32_w]
                              rfl
                            refine pure_ (i := 2) (N := some 33) (v := ?_) (a' := ?_) #[true, true, true, false, false, false, false, false, false, false, false, false, false, false, false, false] rfl rfl (any_of HT_.out (by kernel_rfl)) (fun _ _ _ h => h) (Or.inl ⟨by rfl, ?_⟩) ?_ ?_
                            rotate_left
                            · intro w'
                              go_simp
                              with_reducible rfl
                            rotate_left
                            · simp only [Act.put, List.setIfInBounds_toArray, List.set_cons_zero, List.set_cons_succ, i64_w, i32_w]
                              rfl
                            refine pure_ (i := 3) (N := some 34) (v := ?_) (a' := ?_) #[true, true, true, true, false, false, false, false, false, false, false, false, false, false, false, false] rfl rfl (any_of HT_.out (by kernel_rfl)) (fun _ _ _ h => h) (Or.inl ⟨by rfl, ?_⟩) ?_ ?_
                            rotate_left
                            · intro w'
                              go_simp
                              with_reducible rfl
                            rotate_left
                            · simp only [Act.put, List.setIfInBounds_toArray, List.set_cons_zero, List.set_cons_succ, i64_w, i32_w]
                              rfl
                            refine pure_ (i := 4) (N := some 35) (v := ?_) (a' := ?_) #[true, true, true, true, true, false, false, false, false, false, false, false, false, false, false, false] rfl rfl (any_of HT_.out (by kernel_rfl)) (fun _ _ _ h => h) (Or.inl ⟨by rfl, ?_⟩) ?_ ?_
                            rotate_left
                            · intro w'
                              go_simp
                              with_reducible rfl
                            rotate_left
                            · simp only [Act.put, List.setIfInBounds_toArray, List.set_cons_zero, List.set_cons_succ, i64_w, i32_w]
                              rfl
                            refine pure_ (i := 5) (N := some 36) (v := ?_) (a' := ?_) #[true, true, true, true, true, true, false, false, false, false, false, false, false, false, false, false] rfl rfl (any_of HT_.out (by kernel_rfl)) (fun _ _ _ h => h) (Or.inl ⟨by rfl, ?_⟩) ?_ ?_
                            rotate_left
                            · intro w'
                              go_simp
                              with_reducible rfl
                            rotate_left
                            · simp only [Act.put, List.setIfInBounds_toArray, List.set_cons_zero, List.set_cons_succ, i64_w, i32_w]
                              rfl
                            refine pure_ (i := 6) (N := some 37) (v := ?_) (a' := ?_) #[true, true, true, true, true, true, true, false, false, false, false, false, false, false, false, false] rfl rfl (any_of HT_.out (by kernel_rfl)) (fun _ _ _ h => h) (Or.inl ⟨by rfl, ?_⟩) ?_ ?_
                            rotate_left
                            · intro w'
                              go_simp
                              with_reducible rfl
                            rotate_left
                            · simp only [Act.put, List.setIfInBounds_toArray, List.set_cons_zero, List.set_cons_succ, i64_w, i32_w]
                              rfl
                            refine pure_ (i := 8) (N := some 39) (v := ?_) (a' := ?_) #[true, true, true, true, true, true, true, false, true, false, false, false, false, false, false, false] rfl rfl (any_of HT_.out (by kernel_rfl)) (fun _ _ _ h => h) (Or.inl ⟨by rfl, ?_⟩) ?_ ?_
                            rotate_left
                            · intro w'
                              go_simp
                              with_reducible rfl
                            rotate_left
                            · simp only [Act.put, List.setIfInBounds_toArray, List.set_cons_zero, List.set_cons_succ, i64_w, i32_w]
                              rfl
                            refine pure_ (i := 9) (N := some 40) (v := ?_) (a' := ?_) #[true, true, true, true, true, true, true, false, true, true, false, false, false, false, false, false] rfl rfl (any_of HT_.out (by kernel_rfl)) (fun _ _ _ h => h) (Or.inl ⟨by rfl, ?_⟩) ?_ ?_
                            rotate_left
                            · intro w'
                              go_simp
                              with_reducible rfl
                            rotate_left
                            · simp only [Act.put, List.setIfInBounds_toArray, List.set_cons_zero, List.set_cons_succ, i64_w, i32_w]
                              rfl
                            refine pure_ (i := 10) (N := some 41) (v := ?_) (a' := ?_) #[true, true, true, true, true, true, true, false, true, true, true, false, false, false, false, false] rfl rfl (any_of HT_.out (by kernel_rfl)) (fun _ _ _ h => h) (Or.inl ⟨by rfl, ?_⟩) ?_ ?_
                            rotate_left
                            · intro w'
                              go_simp
                              with_reducible rfl
                            rotate_left
                            · simp only [Act.put, List.setIfInBounds_toArray, List.set_cons_zero, List.set_cons_succ, i64_w, i32_w]
                              rfl
                            refine pure_ (i := 11) (N := some 42) (v := ?_) (a' := ?_) #[true, true, true, true, true, true, true, false, true, true, true, true, false, false, false, false] rfl rfl (any_of HT_.out (by kernel_rfl)) (fun _ _ _ h => h) (Or.inl ⟨by rfl, ?_⟩) ?_ ?_
                            rotate_left
                            · intro w'
                              go_simp
                              with_reducible rfl
                            rotate_left
                            · simp only [Act.put, List.setIfInBounds_toArray, List.set_cons_zero, List.set_cons_succ, i64_w, i32_w]
                              rfl
                            refine pure_ (i := 12) (N := some 43) (v := ?_) (a' := ?_) #[true, true, true, true, true, true, true, false, true, true, true, true, true, false, false, false] rfl rfl (any_of HT_.out (by kernel_rfl)) (fun _ _ _ h => h) (Or.inl ⟨by rfl, ?_⟩) ?_ ?_
                            rotate_left
                            · intro w'
                              go_simp
                              with_reducible rfl
                            rotate_left
                            · simp only [Act.put, List.setIfInBounds_toArray, List.set_cons_zero, List.set_cons_succ, i64_w, i32_w]
                              rfl
                            refine take_ (i := 7) (N := some 38) (v := ?_) (a' := ?_) #[true, true, true, true, true, true, true, true, true, true, true, true, true, false, false, false] rfl rfl (take_ofW HT_.out HW_.out (by kernel_rfl)) (fun _ _ _ h => h) (Or.inl ⟨by rfl, ?_⟩) hHeld ?_ ?_
                            rotate_left
                            · rintro w' ⟨s0, s1, s2, s3⟩
                              go_simp
                              with_reducible rfl
                            rotate_left
                            · simp only [Act.put, List.setIfInBounds_toArray, List.set_cons_zero, List.set_cons_succ, i64_w, i32_w]
                              rfl
                            refine take_ (i := 13) (N := some 44) (v := ?_) (a' := ?_) #[true, true, true, true, true, true, true, true, true, true, true, true, true, true, false, false] rfl rfl (take_ofW HT_.out HW_.out (by kernel_rfl)) (fun _ _ _ h => h) (Or.inl ⟨by rfl, ?_⟩) hHeld ?_ ?_
                            rotate_left
                            · rintro w' ⟨s0, s1, s2, s3⟩
                              go_simp
                              with_reducible rfl
                            rotate_left
                            · simp only [Act.put, List.setIfInBounds_toArray, List.set_cons_zero, List.set_cons_succ, i64_w, i32_w]
                              rfl
                            refine pure_ (i := 14) (N := some 45) (v := ?_) (a' := ?_) #[true, true, true, true, true, true, true, true, true, true, true, true, true, true, true, false] rfl rfl (any_of HT_.out (by kernel_rfl)) (fun _ _ _ h => h) (Or.inl ⟨by rfl, ?_⟩) ?_ ?_
                            rotate_left
                            · intro w'
                              go_simp
                              with_reducible rfl
                            rotate_left
                            · simp only [Act.put, List.setIfInBounds_toArray, List.set_cons_zero, List.set_cons_succ, i64_w, i32_w]
                              rfl
                            refine pure_ (i := 15) (N := some 46) (v := ?_) (a' := ?_) #[true, true, true, true, true, true, true, true, true, true, true, true, true, true, true, true] rfl rfl (any_of HT_.out (by kernel_rfl)) (fun _ _ _ h => h) (Or.inl ⟨by rfl, ?_⟩) ?_ ?_
                            rotate_left
                            · intro w'
                              go_simp
                              with_reducible rfl
                            rotate_left
                            · simp only [Act.put, List.setIfInBounds_toArray, List.set_cons_zero, List.set_cons_succ, i64_w, i32_w]
                              rfl
                            refine done_ (done_of HT_.out (by kernel_rfl)) ?_
                            try go_wp2_with (first | ((with_reducible refine gate_callee (f := 43) rfl ?_); refine goesL_ (some 66) rfl rfl Try.func43 (by kernel_rfl) rfl #[.slice (some ad406) x6_2.length co19] rfl (by (try simp only [List.map_toArray, List.map_cons, List.map_nil]); first | done | rfl | (simp only [List.length_drop, List.length_take]; rfl)) ?_; (with_reducible refine (undercroftref13_Fits.calls k2 _ _ x6_2 false _ ?side1 ?side2 A33.out).mono ?_); (case side1 => repeat (first | exact (Kd.R_reads' HO_6.out).2.2 | (with_reducible refine Kd.C_alloc ?_ _) | (with_reducible refine Kd.C_drewN ?_ _) | (with_reducible refine Kd.C_drew ?_))); (case side2 => exact (Kd.R_reads' HO_6.out).2.1); rintro e w' ⟨rfl, ⟨nd, rfl⟩⟩; refine ⟨_, rfl, ?_⟩))
                            go_ret2
                            exact ⟨_, by first | rfl | (simp [errW_none, errW_some] <;> rfl) | (simp only [← hji23]; first | rfl | (simp [errW_none, errW_some] <;> rfl)) | (simp [*, errW_none, errW_some] <;> rfl), by first | exact Kd.R_nil _ _ _ _ _ | exact Kd.N_nil _ _ _ _ _ | exact Kd.V_nil _ _ _ _ _ | exact Kd.Q_nil _ _ _ _ _ | exact Kd.S_nil _ _ _ _ _, by repeat (first | (with_reducible first | exact HB.out | apply below_alloc | apply pw_below_drewN | apply below_drew1 | refine below_set ?_ GE396.out) | exact HB.out)⟩
                      · rw [if_neg c25] at H
                        exact absurd H (by simp)
                    · rw [if_neg c24] at H
                      exact absurd H (by simp)
                  · rw [if_neg c22] at H
                    exact absurd H (by simp)
                · rw [if_neg c21] at H
                  exact absurd H (by simp)
              · rw [if_neg c20] at H
                have c20b0 : decide (0 < x8_2) = false := decide_eq_false c20
                clear c20
                replace H := Option.bind_eq_some_iff.mp H
                obtain ⟨t413, A370, H⟩ := H
                replace H : (if t413 = true then (some (x6_2, 0)) else (some (([] : List (S26)), 15))) = some (r1, r2) := H
                have A37 := Aside0.mk A370
                clear A370
                by_cases c38 : t413 = true
                · subst c38
                  have H1 : (some (x6_2, 0)) = some (r1, r2) := by rw [if_pos rfl] at H; exact H
                  clear H
                  have H := H1
                  clear H1
                  simp only [Option.some.injEq, Prod.mk.injEq] at H
                  obtain ⟨rfl, rfl⟩ := H
                  try go_wp2
                  have n0_ := Aside0.mk (Kd.R_drew HO_6.out)
                  have n1_ := Aside0.mk (blk_drew BK396.out)
                  have n2_ := Aside0.mk (below_drew1 HB.out)
                  clear HO_6
                  clear BK396
                  clear HB
                  have HO_6 := n0_
                  have BK396 := n1_
                  have HB := n2_
                  clear n0_ n1_ n2_
                  refine start_ (n := 16) (S := fun w' => True) (ds := []) #[false, false, false, false, false, false, false, false, false, false, false, false, false, false, false, false] (by kernel_rfl) rfl rfl trivial (fun hHeld => ?_); refine with_tabW undercroftref13_Set.tab6 undercroftref13_Set.bits6 (fun HT_ HW_ => ?_)
                  generalize wr.drew = w39 at HO_6 BK396 HB hHeld ⊢
                  refine pure_ (i := 0) (N := some 31) (v := ?_) (a' := ?_) #[true, false, false, false, false, false, false, false, false, false, false, false, false, false, false, false] rfl rfl (any_of HT_.out (by kernel_rfl)) (fun _ _ _ h => h) (Or.inl ⟨by rfl, ?_⟩) ?_ ?_
                  rotate_left
                  · intro w'
                    go_simp
                    with_reducible rfl
                  rotate_left
                  · simp only [Act.put, List.setIfInBounds_toArray, List.set_cons_zero, List.set_cons_succ, i64_w, i32_w]
                    rfl
                  refine pure_ (i := 1) (N := some 32) (v := ?_) (a' := ?_) #[true, true, false, false, false, false, false, false, false, false, false, false, false, false, false, false] rfl rfl (any_of HT_.out (by kernel_rfl)) (fun _ _ _ h => h) (Or.inl ⟨by rfl, ?_⟩) ?_ ?_
                  rotate_left
                  · intro w'
                    go_simp
                    with_reducible rfl
                  rotate_left
                  · simp only [Act.put, List.setIfInBounds_toArray, List.set_cons_zero, List.set_cons_succ, i64_w, i32_w]
                    rfl
                  refine pure_ (i := 2) (N := some 33) (v := ?_) (a' := ?_) #[true, true, true, false, false, false, false, false, false, false, false, false, false, false, false, false] rfl rfl (any_of HT_.out (by kernel_rfl)) (fun _ _ _ h => h) (Or.inl ⟨by rfl, ?_⟩) ?_ ?_
                  rotate_left
                  · intro w'
                    go_simp
                    with_reducible rfl
                  rotate_left
                  · simp only [Act.put, List.setIfInBounds_toArray, List.set_cons_zero, List.set_cons_succ, i64_w, i32_w]
                    rfl
                  refine pure_ (i := 3) (N := some 34) (v := undef) (a' := ?_) #[true, true, true, true, false, false, false, false, false, false, false, false, false, false, false, false] rfl rfl (any_of HT_.out (by kernel_rfl)) (fun _ _ _ h => h) (Or.inr ⟨by rfl, rfl⟩) ?_ ?_
                  rotate_left
                  · simp only [Act.put, List.setIfInBounds_toArray, List.set_cons_zero, List.set_cons_succ, i64_w, i32_w]
                    rfl
                  refine pure_ (i := 4) (N := some 35) (v := undef) (a' := ?_) #[true, true, true, true, true, false, false, false, false, false, false, false, false, false, false, false] rfl rfl (any_of HT_.out (by kernel_rfl)) (fun _ _ _ h => h) (Or.inr ⟨by rfl, rfl⟩) ?_ ?_
                  rotate_left
                  · simp only [Act.put, List.setIfInBounds_toArray, List.set_cons_zero, List.set_cons_succ, i64_w, i32_w]
                    rfl
                  refine pure_ (i := 5) (N := some 36) (v := undef) (a' := ?_) #[true, true, true, true, true, true, false, false, false, false, false, false, false, false, false, false] rfl rfl (any_of HT_.out (by kernel_rfl)) (fun _ _ _ h => h) (Or.inr ⟨by rfl, rfl⟩) ?_ ?_
                  rotate_left
                  · simp only [Act.put, List.setIfInBounds_toArray, List.set_cons_zero, List.set_cons_succ, i64_w, i32_w]
                    rfl
                  refine pure_ (i := 6) (N := some 37) (v := undef) (a' := ?_) #[true, true, true, true, true, true, true, false, false, false, false, false, false, false, false, false] rfl rfl (any_of HT_.out (by kernel_rfl)) (fun _ _ _ h => h) (Or.inr ⟨by rfl, rfl⟩) ?_ ?_
                  rotate_left
                  · simp only [Act.put, List.setIfInBounds_toArray, List.set_cons_zero, List.set_cons_succ, i64_w, i32_w]
                    rfl
                  refine pure_ (i := 7) (N := some 38) (v := undef) (a' := ?_) #[true, true, true, true, true, true, true, true, false, false, false, false, false, false, false, false] rfl rfl (any_of HT_.out (by kernel_rfl)) (fun _ _ _ h => h) (Or.inr ⟨by rfl, rfl⟩) ?_ ?_
                  rotate_left
                  · simp only [Act.put, List.setIfInBounds_toArray, List.set_cons_zero, List.set_cons_succ, i64_w, i32_w]
                    rfl
                  refine pure_ (i := 8) (N := some 39) (v := undef) (a' := ?_) #[true, true, true, true, true, true, true, true, true, false, false, false, false, false, false, false] rfl rfl (any_of HT_.out (by kernel_rfl)) (fun _ _ _ h => h) (Or.inr ⟨by rfl, rfl⟩) ?_ ?_
                  rotate_left
                  · simp only [Act.put, List.setIfInBounds_toArray, List.set_cons_zero, List.set_cons_succ, i64_w, i32_w]
                    rfl
                  refine pure_ (i := 9) (N := some 40) (v := undef) (a' := ?_) #[true, true, true, true, true, true, true, true, true, true, false, false, false, false, false, false] rfl rfl (any_of HT_.out (by kernel_rfl)) (fun _ _ _ h => h) (Or.inr ⟨by rfl, rfl⟩) ?_ ?_
                  rotate_left
                  · simp only [Act.put, List.setIfInBounds_toArray, List.set_cons_zero, List.set_cons_succ, i64_w, i32_w]
                    rfl
                  refine pure_ (i := 10) (N := some 41) (v := undef) (a' := ?_) #[true, true, true, true, true, true, true, true, true, true, true, false, false, false, false, false] rfl rfl (any_of HT_.out (by kernel_rfl)) (fun _ _ _ h => h) (Or.inr ⟨by rfl, rfl⟩) ?_ ?_
                  rotate_left
                  · simp only [Act.put, List.setIfInBounds_toArray, List.set_cons_zero, List.set_cons_succ, i64_w, i32_w]
                    rfl
                  refine pure_ (i := 11) (N := some 42) (v := undef) (a' := ?_) #[true, true, true, true, true, true, true, true, true, true, true, true, false, false, false, false] rfl rfl (any_of HT_.out (by kernel_rfl)) (fun _ _ _ h => h) (Or.inr ⟨by rfl, rfl⟩) ?_ ?_
                  rotate_left
                  · simp only [Act.put, List.setIfInBounds_toArray, List.set_cons_zero, List.set_cons_succ, i64_w, i32_w]
                    rfl
                  refine pure_ (i := 12) (N := some 43) (v := undef) (a' := ?_) #[true, true, true, true, true, true, true, true, true, true, true, true, true, false, false, false] rfl rfl (any_of HT_.out (by kernel_rfl)) (fun _ _ _ h => h) (Or.inr ⟨by rfl, rfl⟩) ?_ ?_
                  rotate_left
                  · simp only [Act.put, List.setIfInBounds_toArray, List.set_cons_zero, List.set_cons_succ, i64_w, i32_w]
                    rfl
                  refine pure_ (i := 13) (N := some 44) (v := undef) (a' := ?_) #[true, true, true, true, true, true, true, true, true, true, true, true, true, true, false, false] rfl rfl (any_of HT_.out (by kernel_rfl)) (fun _ _ _ h => h) (Or.inr ⟨by rfl, rfl⟩) ?_ ?_
                  rotate_left
                  · simp only [Act.put, List.setIfInBounds_toArray, List.set_cons_zero, List.set_cons_succ, i64_w, i32_w]
                    rfl
                  refine pure_ (i := 14) (N := some 45) (v := undef) (a' := ?_) #[true, true, true, true, true, true, true, true, true, true, true, true, true, true, true, false] rfl rfl (any_of HT_.out (by kernel_rfl)) (fun _ _ _ h => h) (Or.inr ⟨by rfl, rfl⟩) ?_ ?_
                  rotate_left
                  · simp only [Act.put, List.setIfInBounds_toArray, List.set_cons_zero, List.set_cons_succ, i64_w, i32_w]
                    rfl
                  refine pure_ (i := 15) (N := some 46) (v := ?_) (a' := ?_) #[true, true, true, true, true, true, true, true, true, true, true, true, true, true, true, true] rfl rfl (any_of HT_.out (by kernel_rfl)) (fun _ _ _ h => h) (Or.inl ⟨by rfl, ?_⟩) ?_ ?_
                  rotate_left
                  · intro w'
                    go_simp
                    with_reducible rfl
                  rotate_left
                  · simp only [Act.put, List.setIfInBounds_toArray, List.set_cons_zero, List.set_cons_succ, i64_w, i32_w]
                    rfl
                  refine done_ (done_of HT_.out (by kernel_rfl)) ?_
                  try go_wp2_with (first | ((with_reducible refine gate_callee (f := 43) rfl ?_); refine goesL_ (some 66) rfl rfl Try.func43 (by kernel_rfl) rfl #[.slice Ao19 x6_2.length co19] rfl (by (try simp only [List.map_toArray, List.map_cons, List.map_nil]); first | done | rfl | (simp only [List.length_drop, List.length_take]; rfl)) ?_; (with_reducible refine (undercroftref13_Fits.calls k2 _ _ x6_2 true _ ?side1 ?side2 A37.out).mono ?_); (case side1 => repeat (first | exact (Kd.R_reads' HO_6.out).2.2 | (with_reducible refine Kd.C_alloc ?_ _) | (with_reducible refine Kd.C_drewN ?_ _) | (with_reducible refine Kd.C_drew ?_))); (case side2 => exact (Kd.R_reads' HO_6.out).2.1); rintro e w' ⟨rfl, ⟨nd, rfl⟩⟩; refine ⟨_, rfl, ?_⟩))
                  go_ret2
                  exact ⟨_, by first | rfl | (simp [errW_none, errW_some] <;> rfl) | (simp [*, errW_none, errW_some] <;> rfl), by (with_reducible repeat (first | apply Kd.R_alloc | apply Kd.R_drewN | apply Kd.R_drew)); exact Kd.R_mono HO_6.out (fun _ hk => trivial), by repeat (first | (with_reducible first | exact HB.out | apply below_alloc | apply pw_below_drewN | apply below_drew1 | refine below_set ?_ GE396.out) | exact HB.out)⟩
                · replace c38 := Bool.eq_false_iff.mpr c38
                  subst c38
                  have H1 : (some (([] : List (S26)), 15)) = some (r1, r2) := by rw [if_neg (show ¬ (false = true) by decide)] at H; exact H
                  clear H
                  have H := H1
                  clear H1
                  simp only [Option.some.injEq, Prod.mk.injEq] at H
                  obtain ⟨rfl, rfl⟩ := H
                  try go_wp2
                  have n0_ := Aside0.mk (Kd.R_drew HO_6.out)
                  have n1_ := Aside0.mk (blk_drew BK396.out)
                  have n2_ := Aside0.mk (below_drew1 HB.out)
                  clear HO_6
                  clear BK396
                  clear HB
                  have HO_6 := n0_
                  have BK396 := n1_
                  have HB := n2_
                  clear n0_ n1_ n2_
                  refine start_ (n := 16) (S := fun w' => True) (ds := []) #[false, false, false, false, false, false, false, false, false, false, false, false, false, false, false, false] (by kernel_rfl) rfl rfl trivial (fun hHeld => ?_); refine with_tabW undercroftref13_Set.tab6 undercroftref13_Set.bits6 (fun HT_ HW_ => ?_)
                  generalize wr.drew = w40 at HO_6 BK396 HB hHeld ⊢
                  refine pure_ (i := 0) (N := some 31) (v := ?_) (a' := ?_) #[true, false, false, false, false, false, false, false, false, false, false, false, false, false, false, false] rfl rfl (any_of HT_.out (by kernel_rfl)) (fun _ _ _ h => h) (Or.inl ⟨by rfl, ?_⟩) ?_ ?_
                  rotate_left
                  · intro w'
                    go_simp
                    with_reducible rfl
                  rotate_left
                  · simp only [Act.put, List.setIfInBounds_toArray, List.set_cons_zero, List.set_cons_succ, i64_w, i32_w]
                    rfl
                  refine pure_ (i := 1) (N := some 32) (v := ?_) (a' := ?_) #[true, true, false, false, false, false, false, false, false, false, false, false, false, false, false, false] rfl rfl (any_of HT_.out (by kernel_rfl)) (fun _ _ _ h => h) (Or.inl ⟨by rfl, ?_⟩) ?_ ?_
                  rotate_left
                  · intro w'
                    go_simp
                    with_reducible rfl
                  rotate_left
                  · simp only [Act.put, List.setIfInBounds_toArray, List.set_cons_zero, List.set_cons_succ, i64_w, i32_w]
                    rfl
                  refine pure_ (i := 2) (N := some 33) (v := ?_) (a' := ?_) #[true, true, true, false, false, false, false, false, false, false, false, false, false, false, false, false] rfl rfl (any_of HT_.out (by kernel_rfl)) (fun _ _ _ h => h) (Or.inl ⟨by rfl, ?_⟩) ?_ ?_
                  rotate_left
                  · intro w'
                    go_simp
                    with_reducible rfl
                  rotate_left
                  · simp only [Act.put, List.setIfInBounds_toArray, List.set_cons_zero, List.set_cons_succ, i64_w, i32_w]
                    rfl
                  refine pure_ (i := 3) (N := some 34) (v := undef) (a' := ?_) #[true, true, true, true, false, false, false, false, false, false, false, false, false, false, false, false] rfl rfl (any_of HT_.out (by kernel_rfl)) (fun _ _ _ h => h) (Or.inr ⟨by rfl, rfl⟩) ?_ ?_
                  rotate_left
                  · simp only [Act.put, List.setIfInBounds_toArray, List.set_cons_zero, List.set_cons_succ, i64_w, i32_w]
                    rfl
                  refine pure_ (i := 4) (N := some 35) (v := undef) (a' := ?_) #[true, true, true, true, true, false, false, false, false, false, false, false, false, false, false, false] rfl rfl (any_of HT_.out (by kernel_rfl)) (fun _ _ _ h => h) (Or.inr ⟨by rfl, rfl⟩) ?_ ?_
                  rotate_left
                  · simp only [Act.put, List.setIfInBounds_toArray, List.set_cons_zero, List.set_cons_succ, i64_w, i32_w]
                    rfl
                  refine pure_ (i := 5) (N := some 36) (v := undef) (a' := ?_) #[true, true, true, true, true, true, false, false, false, false, false, false, false, false, false, false] rfl rfl (any_of HT_.out (by kernel_rfl)) (fun _ _ _ h => h) (Or.inr ⟨by rfl, rfl⟩) ?_ ?_
                  rotate_left
                  · simp only [Act.put, List.setIfInBounds_toArray, List.set_cons_zero, List.set_cons_succ, i64_w, i32_w]
                    rfl
                  refine pure_ (i := 6) (N := some 37) (v := undef) (a' := ?_) #[true, true, true, true, true, true, true, false, false, false, false, false, false, false, false, false] rfl rfl (any_of HT_.out (by kernel_rfl)) (fun _ _ _ h => h) (Or.inr ⟨by rfl, rfl⟩) ?_ ?_
                  rotate_left
                  · simp only [Act.put, List.setIfInBounds_toArray, List.set_cons_zero, List.set_cons_succ, i64_w, i32_w]
                    rfl
                  refine pure_ (i := 7) (N := some 38) (v := undef) (a' := ?_) #[true, true, true, true, true, true, true, true, false, false, false, false, false, false, false, false] rfl rfl (any_of HT_.out (by kernel_rfl)) (fun _ _ _ h => h) (Or.inr ⟨by rfl, rfl⟩) ?_ ?_
                  rotate_left
                  · simp only [Act.put, List.setIfInBounds_toArray, List.set_cons_zero, List.set_cons_succ, i64_w, i32_w]
                    rfl
                  refine pure_ (i := 8) (N := some 39) (v := undef) (a' := ?_) #[true, true, true, true, true, true, true, true, true, false, false, false, false, false, false, false] rfl rfl (any_of HT_.out (by kernel_rfl)) (fun _ _ _ h => h) (Or.inr ⟨by rfl, rfl⟩) ?_ ?_
                  rotate_left
                  · simp only [Act.put, List.setIfInBounds_toArray, List.set_cons_zero, List.set_cons_succ, i64_w, i32_w]
                    rfl
                  refine pure_ (i := 9) (N := some 40) (v := undef) (a' := ?_) #[true, true, true, true, true, true, true, true, true, true, false, false, false, false, false, false] rfl rfl (any_of HT_.out (by kernel_rfl)) (fun _ _ _ h => h) (Or.inr ⟨by rfl, rfl⟩) ?_ ?_
                  rotate_left
                  · simp only [Act.put, List.setIfInBounds_toArray, List.set_cons_zero, List.set_cons_succ, i64_w, i32_w]
                    rfl
                  refine pure_ (i := 10) (N := some 41) (v := undef) (a' := ?_) #[true, true, true, true, true, true, true, true, true, true, true, false, false, false, false, false] rfl rfl (any_of HT_.out (by kernel_rfl)) (fun _ _ _ h => h) (Or.inr ⟨by rfl, rfl⟩) ?_ ?_
                  rotate_left
                  · simp only [Act.put, List.setIfInBounds_toArray, List.set_cons_zero, List.set_cons_succ, i64_w, i32_w]
                    rfl
                  refine pure_ (i := 11) (N := some 42) (v := undef) (a' := ?_) #[true, true, true, true, true, true, true, true, true, true, true, true, false, false, false, false] rfl rfl (any_of HT_.out (by kernel_rfl)) (fun _ _ _ h => h) (Or.inr ⟨by rfl, rfl⟩) ?_ ?_
                  rotate_left
                  · simp only [Act.put, List.setIfInBounds_toArray, List.set_cons_zero, List.set_cons_succ, i64_w, i32_w]
                    rfl
                  refine pure_ (i := 12) (N := some 43) (v := undef) (a' := ?_) #[true, true, true, true, true, true, true, true, true, true, true, true, true, false, false, false] rfl rfl (any_of HT_.out (by kernel_rfl)) (fun _ _ _ h => h) (Or.inr ⟨by rfl, rfl⟩) ?_ ?_
                  rotate_left
                  · simp only [Act.put, List.setIfInBounds_toArray, List.set_cons_zero, List.set_cons_succ, i64_w, i32_w]
                    rfl
                  refine pure_ (i := 13) (N := some 44) (v := undef) (a' := ?_) #[true, true, true, true, true, true, true, true, true, true, true, true, true, true, false, false] rfl rfl (any_of HT_.out (by kernel_rfl)) (fun _ _ _ h => h) (Or.inr ⟨by rfl, rfl⟩) ?_ ?_
                  rotate_left
                  · simp only [Act.put, List.setIfInBounds_toArray, List.set_cons_zero, List.set_cons_succ, i64_w, i32_w]
                    rfl
                  refine pure_ (i := 14) (N := some 45) (v := undef) (a' := ?_) #[true, true, true, true, true, true, true, true, true, true, true, true, true, true, true, false] rfl rfl (any_of HT_.out (by kernel_rfl)) (fun _ _ _ h => h) (Or.inr ⟨by rfl, rfl⟩) ?_ ?_
                  rotate_left
                  · simp only [Act.put, List.setIfInBounds_toArray, List.set_cons_zero, List.set_cons_succ, i64_w, i32_w]
                    rfl
                  refine pure_ (i := 15) (N := some 46) (v := ?_) (a' := ?_) #[true, true, true, true, true, true, true, true, true, true, true, true, true, true, true, true] rfl rfl (any_of HT_.out (by kernel_rfl)) (fun _ _ _ h => h) (Or.inl ⟨by rfl, ?_⟩) ?_ ?_
                  rotate_left
                  · intro w'
                    go_simp
                    with_reducible rfl
                  rotate_left
                  · simp only [Act.put, List.setIfInBounds_toArray, List.set_cons_zero, List.set_cons_succ, i64_w, i32_w]
                    rfl
                  refine done_ (done_of HT_.out (by kernel_rfl)) ?_
                  try go_wp2_with (first | ((with_reducible refine gate_callee (f := 43) rfl ?_); refine goesL_ (some 66) rfl rfl Try.func43 (by kernel_rfl) rfl #[.slice Ao19 x6_2.length co19] rfl (by (try simp only [List.map_toArray, List.map_cons, List.map_nil]); first | done | rfl | (simp only [List.length_drop, List.length_take]; rfl)) ?_; (with_reducible refine (undercroftref13_Fits.calls k2 _ _ x6_2 false _ ?side1 ?side2 A37.out).mono ?_); (case side1 => repeat (first | exact (Kd.R_reads' HO_6.out).2.2 | (with_reducible refine Kd.C_alloc ?_ _) | (with_reducible refine Kd.C_drewN ?_ _) | (with_reducible refine Kd.C_drew ?_))); (case side2 => exact (Kd.R_reads' HO_6.out).2.1); rintro e w' ⟨rfl, ⟨nd, rfl⟩⟩; refine ⟨_, rfl, ?_⟩))
                  go_ret2
                  exact ⟨_, by first | rfl | (simp [errW_none, errW_some] <;> rfl) | (simp [*, errW_none, errW_some] <;> rfl), by first | exact Kd.R_nil _ _ _ _ _ | exact Kd.N_nil _ _ _ _ _ | exact Kd.V_nil _ _ _ _ _ | exact Kd.Q_nil _ _ _ _ _ | exact Kd.S_nil _ _ _ _ _, by repeat (first | (with_reducible first | exact HB.out | apply below_alloc | apply pw_below_drewN | apply below_drew1 | refine below_set ?_ GE396.out) | exact HB.out)⟩
        · rw [if_neg c14] at H
          exact absurd H (by simp)
end Go.Proofs.Ytffaggckhneakaa.Pr
end
section
namespace Go.Proofs.Ytffaggckhneakaa.Pr
open Go.RowKit Go.Proofs.YtffaggckhneakaaW.PrintWords Go.Proofs.YtffaggckhneakaaW.PrintLast Go.Proofs.YtffaggckhneakaaW.PrintMore
attribute [local go_sem] max2_int min2_int max_two min_two max_three min_three max_four min_four
attribute [local go_sem] Go.Proofs.Ytffaggckhneakaa.Hl.str_geq Go.Proofs.Ytffaggckhneakaa.Hl.str_gtr Go.Proofs.Ytffaggckhneakaa.Hl.str_leq
set_option linter.unusedVariables false
set_option linter.unusedSimpArgs false
def undercroftref13_Drop.f (k : Nat) (l0 : List (S26)) (a1 : ByteArray) : Option ((List (S26)) × Int) := (undercroftref13_Right.f k l0).bind fun t414 => (if t414 = true then ((undercroftref13_without.f k l0 a1).bind fun bt415 => (if bt415.2 = true then (some (bt415.1, 0)) else (some (([] : List (S26)), 15)))) else (some (([] : List (S26)), 1)))
set_option maxHeartbeats 8000000 in
set_option maxRecDepth 100000 in
theorem undercroftref13_Drop.calls (k : Nat) (A0 : Option Addr) (c0 : Nat) (l0 : List (S26)) (a1 : ByteArray) (r1 : List (S26)) (r2 : Int) (w : World) (hr0 : Kd.C k26 w A0 l0.length l0) (hc0 : l0.length ≤ c0) (h : undercroftref13_Drop.f k l0 a1 = some (r1, r2)) :
    Calls Try.prog 18 #[.slice A0 l0.length c0, .string a1] w fun e w' => ∃ v0_ : Value, e = .returned (.tuple #[v0_, .int .i64 r2]) ∧ Kd.R k26 26 w' w.heap.size (fun _ => True) v0_ r1 ∧ Below w.heap.size w w' := by
  have HR0 := Aside0.mk hr0
  have HC0 := Aside0.mk hc0
  clear hr0 hc0
  have HB := Aside0.mk (Below.refl w.heap.size w)
  have H : ((undercroftref13_Right.f k l0).bind fun t414 => (if t414 = true then ((undercroftref13_without.f k l0 a1).bind fun bt415 => (if bt415.2 = true then (some (bt415.1, 0)) else (some (([] : List (S26)), 15)))) else (some (([] : List (S26)), 1)))) = some (r1, r2) := h
  clear h
  replace H := Option.bind_eq_some_iff.mp H
  obtain ⟨t414, A30, H⟩ := H
  replace H : (if t414 = true then ((undercroftref13_without.f k l0 a1).bind fun bt415 => (if bt415.2 = true then (some (bt415.1, 0)) else (some (([] : List (S26)), 15)))) else (some (([] : List (S26)), 1))) = some (r1, r2) := H
  have A3 := Aside0.mk A30
  clear A30
  by_cases c4 : t414 = true
  · subst c4
    have H1 : ((undercroftref13_without.f k l0 a1).bind fun bt415 => (if bt415.2 = true then (some (bt415.1, 0)) else (some (([] : List (S26)), 15)))) = some (r1, r2) := by rw [if_pos rfl] at H; exact H
    clear H
    have H := H1
    clear H1
    replace H := Option.bind_eq_some_iff.mp H
    obtain ⟨⟨t415, t416⟩, A50, H⟩ := H
    replace H : (if t416 = true then (some (t415, 0)) else (some (([] : List (S26)), 15))) = some (r1, r2) := H
    have A5 := Aside0.mk A50
    clear A50
    by_cases c6 : t416 = true
    · subst c6
      have H1 : (some (t415, 0)) = some (r1, r2) := by rw [if_pos rfl] at H; exact H
      clear H
      have H := H1
      clear H1
      simp only [Option.some.injEq, Prod.mk.injEq] at H
      obtain ⟨rfl, rfl⟩ := H
      go_enter Try.func18, Try.ntmps18
      go_wp2_with (first | ((with_reducible refine gate_callee (f := 40) rfl ?_); refine goesL_ (some 9) rfl rfl Try.func40 (by kernel_rfl) rfl #[.slice A0 l0.length c0] rfl (by (try simp only [List.map_toArray, List.map_cons, List.map_nil]); first | done | rfl | (simp only [List.length_drop, List.length_take]; rfl)) ?_; (with_reducible refine (undercroftref13_Right.calls k _ _ l0 true _ ?side1 ?side2 A3.out).mono ?_); (case side1 => repeat (first | exact HR0.out | (with_reducible refine Kd.C_alloc ?_ _) | (with_reducible refine Kd.C_drewN ?_ _) | (with_reducible refine Kd.C_drew ?_))); (case side2 => exact HC0.out); rintro e w7 ⟨rfl, hb⟩; refine ⟨_, rfl, ?_⟩; have n0_ := Aside0.mk (below_step (by repeat (first | (with_reducible first | exact HB.out | apply below_alloc | apply pw_below_drewN | apply below_drew1) | exact HB.out)) hb); clear HB; have HB := n0_; clear n0_; (try clear hb); (try clear hb2); (try clear hk); (try clear hi)) | ((with_reducible refine gate_callee (f := 42) rfl ?_); refine goesL_ (some 14) rfl rfl Try.func42 (by kernel_rfl) rfl #[.slice A0 l0.length c0, .string a1] rfl (by (try simp only [List.map_toArray, List.map_cons, List.map_nil]); first | done | rfl | (simp only [List.length_drop, List.length_take]; rfl)) ?_; (with_reducible refine (undercroftref13_without.calls k _ _ l0 a1 t415 true _ ?side1 ?side2 A5.out).mono ?_); (case side1 => repeat (first | exact (Kd.C_below HR0.out HB.out) | (with_reducible refine Kd.C_alloc ?_ _) | (with_reducible refine Kd.C_drewN ?_ _) | (with_reducible refine Kd.C_drew ?_))); (case side2 => exact HC0.out); rintro e w8 ⟨v417, rfl, ho0, hb⟩; refine ⟨_, rfl, ?_⟩; have n0_ := Aside0.mk (Kd.R_lower ho0 (below_size (by repeat (first | (with_reducible first | exact HB.out | apply below_alloc | apply pw_below_drewN | apply below_drew1) | exact HB.out)))); have n1_ := Aside0.mk (below_step (by repeat (first | (with_reducible first | exact HB.out | apply below_alloc | apply pw_below_drewN | apply below_drew1) | exact HB.out)) hb); clear HB; have HO418 := n0_; have HB := n1_; clear n0_ n1_; (try clear hb); (try clear hb2); (try clear hk); (try clear hi); (try clear ho0)))
      go_ret2
      exact ⟨_, by first | rfl | (simp [errW_none, errW_some] <;> rfl) | (simp [*, errW_none, errW_some] <;> rfl), by (with_reducible repeat (first | apply Kd.R_alloc | apply Kd.R_drewN | apply Kd.R_drew)); exact HO418.out, by repeat (first | (with_reducible first | exact HB.out | apply below_alloc | apply pw_below_drewN | apply below_drew1) | exact HB.out)⟩
    · replace c6 := Bool.eq_false_iff.mpr c6
      subst c6
      have H1 : (some (([] : List (S26)), 15)) = some (r1, r2) := by rw [if_neg (show ¬ (false = true) by decide)] at H; exact H
      clear H
      have H := H1
      clear H1
      simp only [Option.some.injEq, Prod.mk.injEq] at H
      obtain ⟨rfl, rfl⟩ := H
      go_enter Try.func18, Try.ntmps18
      go_wp2_with (first | ((with_reducible refine gate_callee (f := 40) rfl ?_); refine goesL_ (some 9) rfl rfl Try.func40 (by kernel_rfl) rfl #[.slice A0 l0.length c0] rfl (by (try simp only [List.map_toArray, List.map_cons, List.map_nil]); first | done | rfl | (simp only [List.length_drop, List.length_take]; rfl)) ?_; (with_reducible refine (undercroftref13_Right.calls k _ _ l0 true _ ?side1 ?side2 A3.out).mono ?_); (case side1 => repeat (first | exact HR0.out | (with_reducible refine Kd.C_alloc ?_ _) | (with_reducible refine Kd.C_drewN ?_ _) | (with_reducible refine Kd.C_drew ?_))); (case side2 => exact HC0.out); rintro e w9 ⟨rfl, hb⟩; refine ⟨_, rfl, ?_⟩; have n0_ := Aside0.mk (below_step (by repeat (first | (with_reducible first | exact HB.out | apply below_alloc | apply pw_below_drewN | apply below_drew1) | exact HB.out)) hb); clear HB; have HB := n0_; clear n0_; (try clear hb); (try clear hb2); (try clear hk); (try clear hi)) | ((with_reducible refine gate_callee (f := 42) rfl ?_); refine goesL_ (some 14) rfl rfl Try.func42 (by kernel_rfl) rfl #[.slice A0 l0.length c0, .string a1] rfl (by (try simp only [List.map_toArray, List.map_cons, List.map_nil]); first | done | rfl | (simp only [List.length_drop, List.length_take]; rfl)) ?_; (with_reducible refine (undercroftref13_without.calls k _ _ l0 a1 t415 false _ ?side1 ?side2 A5.out).mono ?_); (case side1 => repeat (first | exact (Kd.C_below HR0.out HB.out) | (with_reducible refine Kd.C_alloc ?_ _) | (with_reducible refine Kd.C_drewN ?_ _) | (with_reducible refine Kd.C_drew ?_))); (case side2 => exact HC0.out); rintro e w10 ⟨v417, rfl, ho0, hb⟩; refine ⟨_, rfl, ?_⟩; have n0_ := Aside0.mk (Kd.R_lower ho0 (below_size (by repeat (first | (with_reducible first | exact HB.out | apply below_alloc | apply pw_below_drewN | apply below_drew1) | exact HB.out)))); have n1_ := Aside0.mk (below_step (by repeat (first | (with_reducible first | exact HB.out | apply below_alloc | apply pw_below_drewN | apply below_drew1) | exact HB.out)) hb); clear HB; have HO418 := n0_; have HB := n1_; clear n0_ n1_; (try clear hb); (try clear hb2); (try clear hk); (try clear hi); (try clear ho0)))
      go_ret2
      exact ⟨_, by first | rfl | (simp [errW_none, errW_some] <;> rfl) | (simp [*, errW_none, errW_some] <;> rfl), by first | exact Kd.R_nil _ _ _ _ _ | exact Kd.N_nil _ _ _ _ _ | exact Kd.V_nil _ _ _ _ _ | exact Kd.Q_nil _ _ _ _ _ | exact Kd.S_nil _ _ _ _ _, by repeat (first | (with_reducible first | exact HB.out | apply below_alloc | apply pw_below_drewN | apply below_drew1) | exact HB.out)⟩
  · replace c4 := Bool.eq_false_iff.mpr c4
    subst c4
    have H1 : (some (([] : List (S26)), 1)) = some (r1, r2) := by rw [if_neg (show ¬ (false = true) by decide)] at H; exact H
    clear H
    have H := H1
    clear H1
    simp only [Option.some.injEq, Prod.mk.injEq] at H
    obtain ⟨rfl, rfl⟩ := H
    go_enter Try.func18, Try.ntmps18
    go_wp2_with (first | ((with_reducible refine gate_callee (f := 40) rfl ?_); refine goesL_ (some 9) rfl rfl Try.func40 (by kernel_rfl) rfl #[.slice A0 l0.length c0] rfl (by (try simp only [List.map_toArray, List.map_cons, List.map_nil]); first | done | rfl | (simp only [List.length_drop, List.length_take]; rfl)) ?_; (with_reducible refine (undercroftref13_Right.calls k _ _ l0 false _ ?side1 ?side2 A3.out).mono ?_); (case side1 => repeat (first | exact HR0.out | (with_reducible refine Kd.C_alloc ?_ _) | (with_reducible refine Kd.C_drewN ?_ _) | (with_reducible refine Kd.C_drew ?_))); (case side2 => exact HC0.out); rintro e w11 ⟨rfl, hb⟩; refine ⟨_, rfl, ?_⟩; have n0_ := Aside0.mk (below_step (by repeat (first | (with_reducible first | exact HB.out | apply below_alloc | apply pw_below_drewN | apply below_drew1) | exact HB.out)) hb); clear HB; have HB := n0_; clear n0_; (try clear hb); (try clear hb2); (try clear hk); (try clear hi)))
    go_ret2
    exact ⟨_, by first | rfl | (simp [errW_none, errW_some] <;> rfl) | (simp [*, errW_none, errW_some] <;> rfl), by first | exact Kd.R_nil _ _ _ _ _ | exact Kd.N_nil _ _ _ _ _ | exact Kd.V_nil _ _ _ _ _ | exact Kd.Q_nil _ _ _ _ _ | exact Kd.S_nil _ _ _ _ _, by repeat (first | (with_reducible first | exact HB.out | apply below_alloc | apply pw_below_drewN | apply below_drew1) | exact HB.out)⟩
end Go.Proofs.Ytffaggckhneakaa.Pr
end
section
namespace Go.Proofs.Ytffaggckhneakaa.Pr
open Go.RowKit Go.Proofs.YtffaggckhneakaaW.PrintWords Go.Proofs.YtffaggckhneakaaW.PrintLast Go.Proofs.YtffaggckhneakaaW.PrintMore
attribute [local go_sem] max2_int min2_int max_two min_two max_three min_three max_four min_four
attribute [local go_sem] Go.Proofs.Ytffaggckhneakaa.Hl.str_geq Go.Proofs.Ytffaggckhneakaa.Hl.str_gtr Go.Proofs.Ytffaggckhneakaa.Hl.str_leq
set_option linter.unusedVariables false
set_option linter.unusedSimpArgs false
def undercroftref13_Get.l0 : Nat → List (S26) → ByteArray → Int → Option (ByteArray × Int)
  | 0, _, _, _ => none
  | k + 1, x0, x1, x6 => if x6 < (x0.length : Int) then (if 0 ≤ x6 then (if ((rd_T26 x0 x6).f0).toList = x1.toList then (some ((rd_T26 x0 x6).f1, 0)) else (undercroftref13_Get.l0 k x0 x1 (wrap64 (x6 + 1)))) else (none)) else (some ((⟨#[]⟩ : ByteArray), 15))
def undercroftref13_Get.f (k : Nat) (l0 : List (S26)) (a1 : ByteArray) : Option (ByteArray × Int) := (undercroftref13_Right.f k l0).bind fun t419 => (if t419 = true then (undercroftref13_Get.l0 k l0 a1 0) else (some ((⟨#[]⟩ : ByteArray), 1)))
set_option maxHeartbeats 8000000 in
set_option maxRecDepth 100000 in
theorem undercroftref13_Get.calls (k : Nat) (A0 : Option Addr) (c0 : Nat) (l0 : List (S26)) (a1 : ByteArray) (r1 : ByteArray) (r2 : Int) (w : World) (hr0 : Kd.C k26 w A0 l0.length l0) (hc0 : l0.length ≤ c0) (h : undercroftref13_Get.f k l0 a1 = some (r1, r2)) :
    Calls Try.prog 20 #[.slice A0 l0.length c0, .string a1] w fun e w' => e = .returned (.tuple #[.string r1, .int .i64 r2]) ∧ Below w.heap.size w w' := by
  have HR0 := Aside0.mk hr0
  have HC0 := Aside0.mk hc0
  clear hr0 hc0
  have HB := Aside0.mk (Below.refl w.heap.size w)
  have H : ((undercroftref13_Right.f k l0).bind fun t419 => (if t419 = true then (undercroftref13_Get.l0 k l0 a1 0) else (some ((⟨#[]⟩ : ByteArray), 1)))) = some (r1, r2) := h
  clear h
  replace H := Option.bind_eq_some_iff.mp H
  obtain ⟨t419, A30, H⟩ := H
  replace H : (if t419 = true then (undercroftref13_Get.l0 k l0 a1 0) else (some ((⟨#[]⟩ : ByteArray), 1))) = some (r1, r2) := H
  have A3 := Aside0.mk A30
  clear A30
  by_cases c4 : t419 = true
  · subst c4
    have H1 : (undercroftref13_Get.l0 k l0 a1 0) = some (r1, r2) := by rw [if_pos rfl] at H; exact H
    clear H
    have H := H1
    clear H1
    have H' := Aside0.mk H
    clear H
    go_enter Try.func20, Try.ntmps20
    go_wp2_with (first | ((with_reducible refine gate_callee (f := 40) rfl ?_); refine goesL_ (some 8) rfl rfl Try.func40 (by kernel_rfl) rfl #[.slice A0 l0.length c0] rfl (by (try simp only [List.map_toArray, List.map_cons, List.map_nil]); first | done | rfl | (simp only [List.length_drop, List.length_take]; rfl)) ?_; (with_reducible refine (undercroftref13_Right.calls k _ _ l0 true _ ?side1 ?side2 A3.out).mono ?_); (case side1 => repeat (first | exact HR0.out | (with_reducible refine Kd.C_alloc ?_ _) | (with_reducible refine Kd.C_drewN ?_ _) | (with_reducible refine Kd.C_drew ?_))); (case side2 => exact HC0.out); rintro e w5 ⟨rfl, hb⟩; refine ⟨_, rfl, ?_⟩; have n0_ := Aside0.mk (below_step (by repeat (first | (with_reducible first | exact HB.out | apply below_alloc | apply pw_below_drewN | apply below_drew1) | exact HB.out)) hb); clear HB; have HB := n0_; clear n0_; (try clear hb); (try clear hb2); (try clear hk); (try clear hi)))
    go_loopg [6] k (fun kq v6 w' => ∃ (x6_1 : Int), v6 = .int .i64 x6_1 ∧ Aside0 (undercroftref13_Get.l0 kq l0 a1 x6_1 = some (r1, r2)) ∧ Aside0 (kq ≤ k) ∧ Aside0 (Below w.heap.size w w'))
    case atStart => exact ⟨(0), (by first | rfl | (simp; done) | (simp [*]; done)), H', ⟨Nat.le_refl _⟩, ⟨by repeat (first | (with_reducible first | exact HB.out | apply below_alloc | apply pw_below_drewN | apply below_drew1) | exact HB.out)⟩⟩
    case round =>
      clear H'
      try clear c2
      try clear p2
      try clear c4
      obtain ⟨x6_1, rfl, HA, HK1, HB⟩ := hrel
      cases gk with
      | zero => exact absurd HA.out (by intro h_; cases h_)
      | succ k1 =>
        have H := HA.out
        clear HA
        simp only [undercroftref13_Get.l0] at H
        by_cases c6 : x6_1 < (l0.length : Int)
        · rw [if_pos c6] at H
          have c6b0 : decide (x6_1 < (l0.length : Int)) = true := decide_eq_true c6
          clear c6
          by_cases c7 : 0 ≤ x6_1
          · rw [if_pos c7] at H
            have c7b0 : decide (0 ≤ x6_1) = true := decide_eq_true c7
            clear c7
            by_cases c8 : ((rd_T26 l0 x6_1).f0).toList = a1.toList
            · rw [if_pos c8] at H
              have c8b0 : (((rd_T26 l0 x6_1).f0).toList == a1.toList) = true := beq_iff_eq.mpr c8
              have c8b1 : (((rd_T26 l0 x6_1).f0).toList != a1.toList) = false := bne_eq_false_iff_eq.mpr c8
              clear c8
              simp only [Option.some.injEq, Prod.mk.injEq] at H
              obtain ⟨rfl, rfl⟩ := H
              have p420 : 0 ≤ (x6_1 : Int) := of_decide_eq_true (by first | (with_reducible assumption) | assumption)
              have q420 : x6_1 < (l0.length : Int) := of_decide_eq_true (by first | (with_reducible assumption) | assumption)
              obtain ⟨ad420, e420, hx420_0, hx420_1⟩ := at_T26 HR0.out x6_1 p420 q420
              cases e420
              replace hx420_0 := (HB.out.cell (World.block_lt_of_cell? w _ hx420_0)).trans hx420_0
              replace hx420_1 := (HB.out.cell (World.block_lt_of_cell? w _ hx420_1)).trans hx420_1
              replace p420 := eq_true p420
              replace q420 := eq_true q420
              have p421 : 0 ≤ (x6_1 : Int) := of_decide_eq_true (by first | (with_reducible assumption) | assumption)
              have q421 : x6_1 < (l0.length : Int) := of_decide_eq_true (by first | (with_reducible assumption) | assumption)
              obtain ⟨ad421, e421, hx421_0, hx421_1⟩ := at_T26 HR0.out x6_1 p421 q421
              obtain rfl : ad420 = ad421 := (by injection e421)
              replace hx421_0 := (HB.out.cell (World.block_lt_of_cell? w _ hx421_0)).trans hx421_0
              replace hx421_1 := (HB.out.cell (World.block_lt_of_cell? w _ hx421_1)).trans hx421_1
              replace p421 := eq_true p421
              replace q421 := eq_true q421
              go_wp2
              go_ret2
              exact ⟨by first | rfl | (simp [errW_none, errW_some] <;> rfl) | (simp [*, errW_none, errW_some] <;> rfl), by repeat (first | (with_reducible first | exact HB.out | apply below_alloc | apply pw_below_drewN | apply below_drew1) | exact HB.out)⟩
            · rw [if_neg c8] at H
              have c8b0 : (((rd_T26 l0 x6_1).f0).toList == a1.toList) = false := beq_eq_false_iff_ne.mpr c8
              have c8b1 : (((rd_T26 l0 x6_1).f0).toList != a1.toList) = true := bne_iff_ne.mpr c8
              have H' := Aside0.mk H
              clear H
              have p420 : 0 ≤ (x6_1 : Int) := of_decide_eq_true (by first | (with_reducible assumption) | assumption)
              have q420 : x6_1 < (l0.length : Int) := of_decide_eq_true (by first | (with_reducible assumption) | assumption)
              obtain ⟨ad420, e420, hx420_0, hx420_1⟩ := at_T26 HR0.out x6_1 p420 q420
              cases e420
              replace hx420_0 := (HB.out.cell (World.block_lt_of_cell? w _ hx420_0)).trans hx420_0
              replace hx420_1 := (HB.out.cell (World.block_lt_of_cell? w _ hx420_1)).trans hx420_1
              replace p420 := eq_true p420
              replace q420 := eq_true q420
              go_wp2
              go_roundg k1
              case measure => have := HK1.out; omega
              case rel => exact ⟨(wrap64 (x6_1 + 1)), (by first | rfl | (simp; done) | (simp [*]; done)), H', ⟨by have := HK1.out; omega⟩, ⟨by repeat (first | (with_reducible first | exact HB.out | apply below_alloc | apply pw_below_drewN | apply below_drew1) | exact HB.out)⟩⟩
          · rw [if_neg c7] at H
            exact absurd H (by simp)
        · rw [if_neg c6] at H
          have c6b0 : decide (x6_1 < (l0.length : Int)) = false := decide_eq_false c6
          clear c6
          simp only [Option.some.injEq, Prod.mk.injEq] at H
          obtain ⟨rfl, rfl⟩ := H
          go_wp2
          go_ret2
          exact ⟨by first | rfl | (simp [errW_none, errW_some] <;> rfl) | (simp [*, errW_none, errW_some] <;> rfl), by repeat (first | (with_reducible first | exact HB.out | apply below_alloc | apply pw_below_drewN | apply below_drew1) | exact HB.out)⟩
  · replace c4 := Bool.eq_false_iff.mpr c4
    subst c4
    have H1 : (some ((⟨#[]⟩ : ByteArray), 1)) = some (r1, r2) := by rw [if_neg (show ¬ (false = true) by decide)] at H; exact H
    clear H
    have H := H1
    clear H1
    simp only [Option.some.injEq, Prod.mk.injEq] at H
    obtain ⟨rfl, rfl⟩ := H
    go_enter Try.func20, Try.ntmps20
    go_wp2_with (first | ((with_reducible refine gate_callee (f := 40) rfl ?_); refine goesL_ (some 8) rfl rfl Try.func40 (by kernel_rfl) rfl #[.slice A0 l0.length c0] rfl (by (try simp only [List.map_toArray, List.map_cons, List.map_nil]); first | done | rfl | (simp only [List.length_drop, List.length_take]; rfl)) ?_; (with_reducible refine (undercroftref13_Right.calls k _ _ l0 false _ ?side1 ?side2 A3.out).mono ?_); (case side1 => repeat (first | exact HR0.out | (with_reducible refine Kd.C_alloc ?_ _) | (with_reducible refine Kd.C_drewN ?_ _) | (with_reducible refine Kd.C_drew ?_))); (case side2 => exact HC0.out); rintro e w9 ⟨rfl, hb⟩; refine ⟨_, rfl, ?_⟩; have n0_ := Aside0.mk (below_step (by repeat (first | (with_reducible first | exact HB.out | apply below_alloc | apply pw_below_drewN | apply below_drew1) | exact HB.out)) hb); clear HB; have HB := n0_; clear n0_; (try clear hb); (try clear hb2); (try clear hk); (try clear hi)))
    go_ret2
    exact ⟨by first | rfl | (simp [errW_none, errW_some] <;> rfl) | (simp [*, errW_none, errW_some] <;> rfl), by repeat (first | (with_reducible first | exact HB.out | apply below_alloc | apply pw_below_drewN | apply below_drew1) | exact HB.out)⟩
end Go.Proofs.Ytffaggckhneakaa.Pr
end
section
namespace Go.Proofs.Ytffaggckhneakaa.Pr
open Go.RowKit Go.Proofs.YtffaggckhneakaaW.PrintWords Go.Proofs.YtffaggckhneakaaW.PrintLast Go.Proofs.YtffaggckhneakaaW.PrintMore
attribute [local go_sem] max2_int min2_int max_two min_two max_three min_three max_four min_four
attribute [local go_sem] Go.Proofs.Ytffaggckhneakaa.Hl.str_geq Go.Proofs.Ytffaggckhneakaa.Hl.str_gtr Go.Proofs.Ytffaggckhneakaa.Hl.str_leq
set_option linter.unusedVariables false
set_option linter.unusedSimpArgs false
theorem eqA26 (d : Nat) (w : World) (x0 y0 : ByteArray) (x1 y1 : ByteArray) :
    (Op.equalIn (d + 2) 26 (.agg #[.string x0, .string x1]) (.agg #[.string y0, .string y1])).run Try.prog w = .ok (x0.toList == y0.toList && (x1.toList == y1.toList)) w := by
  refine eqA_of Try.underlying26 (by kernel_rfl) ?_
  refine eqf_cons (by rfl) (by go_simp; rfl) (by go_simp; rfl) (by go_simp) ?_
  exact eqf_last (by rfl) (by go_simp; rfl) (by go_simp; rfl) (by go_simp)
end Go.Proofs.Ytffaggckhneakaa.Pr
end
section
namespace Go.Proofs.Ytffaggckhneakaa.Pr
open Go.RowKit Go.Proofs.YtffaggckhneakaaW.PrintWords Go.Proofs.YtffaggckhneakaaW.PrintLast Go.Proofs.YtffaggckhneakaaW.PrintMore
attribute [local go_sem] max2_int min2_int max_two min_two max_three min_three max_four min_four
attribute [local go_sem] Go.Proofs.Ytffaggckhneakaa.Hl.str_geq Go.Proofs.Ytffaggckhneakaa.Hl.str_gtr Go.Proofs.Ytffaggckhneakaa.Hl.str_leq
set_option linter.unusedVariables false
set_option linter.unusedSimpArgs false
attribute [local go_sem high] eqA26
def undercroftref13_Same.l0 : Nat → List (S26) → List (S26) → Int → Option (Bool)
  | 0, _, _, _ => none
  | k + 1, x0, x1, x5 => if x5 < (x0.length : Int) then (if 0 ≤ x5 then (if x5 < (x1.length : Int) then (if (!((((rd_T26 x0 x5).f0).toList) == (((rd_T26 x1 x5).f0).toList)) || (!((((rd_T26 x0 x5).f1).toList) == (((rd_T26 x1 x5).f1).toList)))) = true then (some false) else (undercroftref13_Same.l0 k x0 x1 (wrap64 (x5 + 1)))) else (none)) else (none)) else (some true)
def undercroftref13_Same.f (k : Nat) (l0 : List (S26)) (l1 : List (S26)) : Option (Bool) := if (l0.length : Int) = (l1.length : Int) then (undercroftref13_Same.l0 k l0 l1 0) else (some false)
set_option maxHeartbeats 8000000 in
set_option maxRecDepth 100000 in
theorem undercroftref13_Same.calls (k : Nat) (A0 : Option Addr) (c0 : Nat) (l0 : List (S26)) (A1 : Option Addr) (c1 : Nat) (l1 : List (S26)) (r : Bool) (w : World) (hr0 : Kd.C k26 w A0 l0.length l0) (hc0 : l0.length ≤ c0) (hr1 : Kd.C k26 w A1 l1.length l1) (hc1 : l1.length ≤ c1) (h : undercroftref13_Same.f k l0 l1 = some r) :
    Calls Try.prog 15 #[.slice A0 l0.length c0, .slice A1 l1.length c1] w fun e w' => e = .returned (.bool r) ∧ Drawn0 w w' := by
  have hu26 := Try.underlying26
  have HR0 := Aside0.mk hr0
  have HC0 := Aside0.mk hc0
  clear hr0 hc0
  have HR1 := Aside0.mk hr1
  have HC1 := Aside0.mk hc1
  clear hr1 hc1
  have H : (if (l0.length : Int) = (l1.length : Int) then (undercroftref13_Same.l0 k l0 l1 0) else (some false)) = some r := h
  clear h
  by_cases c3 : (l0.length : Int) = (l1.length : Int)
  · rw [if_pos c3] at H
    have c3b0 : ((l0.length : Int) == (l1.length : Int)) = true := beq_iff_eq.mpr c3
    have c3b1 : ((l0.length : Int) != (l1.length : Int)) = false := bne_eq_false_iff_eq.mpr c3
    have c3b2 : (l0.length == l1.length) = true := by first | simpa using c3 | (simp at c3 ⊢; omega)
    clear c3
    have H' := Aside0.mk H
    clear H
    go_enter Try.func15, Try.ntmps15
    go_wp2
    repeat (go_quiet (fail); try go_wp2)
    go_loopg [5] k (fun kq v5 w' => ∃ (x5_1 : Int), v5 = .int .i64 x5_1 ∧ Aside0 (undercroftref13_Same.l0 kq l0 l1 x5_1 = some r) ∧ Aside0 (kq ≤ k) ∧ Drawn0 w w')
    case atStart => exact ⟨(0), (by first | rfl | (simp; done) | (simp [*]; done)), H', ⟨Nat.le_refl _⟩, by repeat (first | exact Drawn0.refl _ | apply Drawn0.step)⟩
    case round =>
      clear H'
      try clear c1
      try clear p2
      try clear c3
      try clear c3b0
      try clear c3b1
      try clear c3b2
      obtain ⟨x5_1, rfl, HA, HK1, ⟨m1, rfl⟩⟩ := hrel
      cases gk with
      | zero => exact absurd HA.out (by intro h_; cases h_)
      | succ k1 =>
        have H := HA.out
        clear HA
        simp only [undercroftref13_Same.l0] at H
        by_cases c4 : x5_1 < (l0.length : Int)
        · rw [if_pos c4] at H
          have c4b0 : decide (x5_1 < (l0.length : Int)) = true := decide_eq_true c4
          clear c4
          by_cases c5 : 0 ≤ x5_1
          · rw [if_pos c5] at H
            have c5b0 : decide (0 ≤ x5_1) = true := decide_eq_true c5
            clear c5
            by_cases c6 : x5_1 < (l1.length : Int)
            · rw [if_pos c6] at H
              have c6b0 : decide (x5_1 < (l1.length : Int)) = true := decide_eq_true c6
              clear c6
              by_cases c7 : (!((((rd_T26 l0 x5_1).f0).toList) == (((rd_T26 l1 x5_1).f0).toList)) || (!((((rd_T26 l0 x5_1).f1).toList) == (((rd_T26 l1 x5_1).f1).toList)))) = true
              · rw [if_pos c7] at H
                have c7b0 : (!((((rd_T26 l0 x5_1).f0).toList) == (((rd_T26 l1 x5_1).f0).toList)) || (!((((rd_T26 l0 x5_1).f1).toList) == (((rd_T26 l1 x5_1).f1).toList)))) = true := c7
                clear c7
                obtain rfl := Option.some.inj H
                have p382 : 0 ≤ (x5_1 : Int) := of_decide_eq_true (by first | (with_reducible assumption) | assumption)
                have q382 : x5_1 < (l0.length : Int) := of_decide_eq_true (by first | (with_reducible assumption) | assumption)
                obtain ⟨ad382, e382, hx382_0, hx382_1⟩ := at_T26 HR0.out x5_1 p382 q382
                cases e382
                replace p382 := eq_true p382
                replace q382 := eq_true q382
                have p383 : 0 ≤ (x5_1 : Int) := of_decide_eq_true (by first | (with_reducible assumption) | assumption)
                have q383 : x5_1 < (l1.length : Int) := of_decide_eq_true (by first | (with_reducible assumption) | assumption)
                obtain ⟨ad383, e383, hx383_0, hx383_1⟩ := at_T26 HR1.out x5_1 p383 q383
                cases e383
                replace p383 := eq_true p383
                replace q383 := eq_true q383
                go_wp2
                repeat (go_quiet (fail); try go_wp2)
                go_ret
                exact ⟨by first | rfl | (simp; done) | (simp [*]; done), by repeat (first | exact Drawn0.refl _ | apply Drawn0.step)⟩
              · rw [if_neg c7] at H
                have c7b0 : (!((((rd_T26 l0 x5_1).f0).toList) == (((rd_T26 l1 x5_1).f0).toList)) || (!((((rd_T26 l0 x5_1).f1).toList) == (((rd_T26 l1 x5_1).f1).toList)))) = false := by simpa using c7
                clear c7
                have H' := Aside0.mk H
                clear H
                have p382 : 0 ≤ (x5_1 : Int) := of_decide_eq_true (by first | (with_reducible assumption) | assumption)
                have q382 : x5_1 < (l0.length : Int) := of_decide_eq_true (by first | (with_reducible assumption) | assumption)
                obtain ⟨ad382, e382, hx382_0, hx382_1⟩ := at_T26 HR0.out x5_1 p382 q382
                cases e382
                replace p382 := eq_true p382
                replace q382 := eq_true q382
                have p383 : 0 ≤ (x5_1 : Int) := of_decide_eq_true (by first | (with_reducible assumption) | assumption)
                have q383 : x5_1 < (l1.length : Int) := of_decide_eq_true (by first | (with_reducible assumption) | assumption)
                obtain ⟨ad383, e383, hx383_0, hx383_1⟩ := at_T26 HR1.out x5_1 p383 q383
                cases e383
                replace p383 := eq_true p383
                replace q383 := eq_true q383
                go_wp2
                repeat (go_quiet (fail); try go_wp2)
                go_roundg k1
                case measure => have := HK1.out; omega
                case rel => exact ⟨(wrap64 (x5_1 + 1)), (by first | rfl | (simp; done) | (simp [*]; done)), H', ⟨by have := HK1.out; omega⟩, by repeat (first | exact Drawn0.refl _ | apply Drawn0.step)⟩
            · rw [if_neg c6] at H
              exact absurd H (by simp)
          · rw [if_neg c5] at H
            exact absurd H (by simp)
        · rw [if_neg c4] at H
          have c4b0 : decide (x5_1 < (l0.length : Int)) = false := decide_eq_false c4
          clear c4
          obtain rfl := Option.some.inj H
          go_wp2
          repeat (go_quiet (fail); try go_wp2)
          go_ret
          exact ⟨by first | rfl | (simp; done) | (simp [*]; done), by repeat (first | exact Drawn0.refl _ | apply Drawn0.step)⟩
  · rw [if_neg c3] at H
    have c3b0 : ((l0.length : Int) == (l1.length : Int)) = false := beq_eq_false_iff_ne.mpr c3
    have c3b1 : ((l0.length : Int) != (l1.length : Int)) = true := bne_iff_ne.mpr c3
    have c3b2 : (l0.length == l1.length) = false := by first | simpa using c3 | (simp at c3 ⊢; omega)
    obtain rfl := Option.some.inj H
    go_enter Try.func15, Try.ntmps15
    go_wp2
    repeat (go_quiet (fail); try go_wp2)
    go_ret
    exact ⟨by first | rfl | (simp; done) | (simp [*]; done), by repeat (first | exact Drawn0.refl _ | apply Drawn0.step)⟩
end Go.Proofs.Ytffaggckhneakaa.Pr
end
section
namespace Go.Proofs.Ytffaggckhneakaa.At
open Go.RowKit Go.Proofs.YtffaggckhneakaaW.PrintWords Go.Proofs.YtffaggckhneakaaW.PrintMore Go.Proofs.Ytffaggckhneakaa.Pr Go.Proofs.Ytffaggckhneakaa.Od Go.Proofs.Ytffaggckhneakaa.Cr
set_option linter.unusedVariables false
set_option linter.unusedSimpArgs false
theorem eta (x : E) : (⟨x.f0, x.f1⟩ : E) = x := rfl
theorem without_ev (l : List E) (s : ByteArray) (hl : l.length < 4398046511104) : Ev (fun k => undercroftref13_without.f k l s) (rem s.data.toList l, decide ((rem s.data.toList l).length < l.length)) := by
  unfold undercroftref13_without.f
  have key : ∀ (n i : Nat) (acc : List E), i + n = l.length → acc.length ≤ i → acc ++ rem s.data.toList (l.drop i) = rem s.data.toList l → Ev (fun k => undercroftref13_without.l0 k l s acc (i : Int)) (rem s.data.toList l, decide ((rem s.data.toList l).length < l.length)) := by
    intro n
    induction n with
    | zero =>
      intro i acc hi ha he
      refine Ev.succ ?_
      rw [List.drop_of_length_le (by omega), show rem s.data.toList [] = [] from rfl, List.append_nil] at he
      subst he
      simp only [undercroftref13_without.l0, if_neg (show ¬((i : Int) < (l.length : Int)) by omega)]
      have e : decide (((rem s.data.toList l).length : Int) < (l.length : Int)) = decide ((rem s.data.toList l).length < l.length) := decide_eq_decide.2 (by omega)
      rw [e]
      exact Ev.now _
    | succ n ih =>
      intro i acc hi ha he
      refine Ev.succ ?_
      have hil : i < l.length := by omega
      rw [List.drop_eq_getElem_cons hil] at he
      simp only [undercroftref13_without.l0, if_pos (show ((i : Int) < (l.length : Int)) by omega), if_pos (show (0 : Int) ≤ (i : Int) by omega), rdT_get hil, Lib.toList_data, eta, w64 (show -9223372036854775808 ≤ (i : Int) + 1 by omega) (by omega)]
      by_cases h : nb l[i] = s.data.toList
      · simp only [if_pos h]
        refine ih (i + 1) acc (by omega) (by omega) ?_
        rw [← he, rem, rem, List.filter_cons_of_neg (by simp [h])]
      · simp only [if_neg h, if_pos (show acc.length < 4398046511104 by omega)]
        refine ih (i + 1) (acc ++ [l[i]]) (by omega) (by rw [List.length_append]; simp; omega) ?_
        rw [← he, rem, rem, List.filter_cons_of_pos (by simp [h]), List.append_assoc]; rfl
  exact key l.length 0 [] (by omega) (by simp) (by rw [List.drop_zero, List.nil_append])
theorem get0 (Q : List E) (c x : E) (R : List E) : rd_T26 (Q ++ c :: x :: R) (Q.length : Int) = c := by
  rw [rdT_get (by simp)]; simp
theorem get1 (Q : List E) (c x : E) (R : List E) : rd_T26 (Q ++ c :: x :: R) ((Q.length + 1 : Nat) : Int) = x := by
  rw [rdT_get (by simp)]; simp
theorem swap_at (Q : List E) (c x : E) (R : List E) : ((Q ++ c :: x :: R).set (Q.length + 1) c).set Q.length x = Q ++ x :: c :: R := by
  rw [List.set_append_right _ _ (by omega), List.set_append_right _ _ (by omega), Nat.add_sub_cancel_left, Nat.sub_self]; rfl
theorem rise_step (Q : List E) (c x : E) (R : List E) (hl : Q.length < 4398046511104) (k : Nat) : undercroftref13_Set.l0 (k + 1) (Q ++ c :: x :: R) ((Q.length + 1 : Nat) : Int) =
    if less (nb x) (nb c) = true then undercroftref13_Set.l0 k (Q ++ x :: c :: R) (Q.length : Int)
    else ((undercroftref13_Fits.f k (Q ++ c :: x :: R)).bind fun t => (if t = true then (some ((Q ++ c :: x :: R), 0)) else (some (([] : List E), 15)))) := by
  have e1 : wrap64 (((Q.length + 1 : Nat) : Int) - 1) = (Q.length : Int) := by rw [w64 (by omega) (by omega)]; omega
  have hlen : (Q ++ c :: x :: R).length = Q.length + (R.length + 1 + 1) := by rw [List.length_append, List.length_cons, List.length_cons]
  simp only [undercroftref13_Set.l0, if_pos (show ((Q.length + 1 : Nat) : Int) > 0 by omega), if_pos (show (0 : Int) ≤ ((Q.length + 1 : Nat) : Int) by omega), e1, if_pos (show ((Q.length + 1 : Nat) : Int) < ((Q ++ c :: x :: R).length : Int) by omega), if_pos (show (0 : Int) ≤ (Q.length : Int) by omega), if_pos (show (Q.length : Int) < ((Q ++ c :: x :: R).length : Int) by omega), get0, get1, eta, Lib.toList_data, Int.toNat_natCast, swap_at]
theorem rise_ev (A : List E) (x : E) (hA : ∀ e ∈ A, less (nb e) (nb x) = true) : ∀ (n : Nat) (C1 C2 : List E), C1.length = n → (∀ e ∈ C1, less (nb x) (nb e) = true) → right none (A ++ x :: (C1 ++ C2)) = true → (A ++ x :: (C1 ++ C2)).length < 4398046511104 →
    Ev (fun k => undercroftref13_Set.l0 k (A ++ C1 ++ x :: C2) ((A.length + C1.length : Nat) : Int)) (if sumL (A ++ x :: (C1 ++ C2)) ≤ 250 then (A ++ x :: (C1 ++ C2), 0) else ([], 15)) := by
  intro n
  induction n with
  | zero =>
    intro C1 C2 hn hC hr hl
    obtain rfl := List.eq_nil_of_length_eq_zero hn
    simp only [List.append_nil, List.nil_append, List.length_nil, Nat.add_zero] at *
    have hfit : Ev (fun k => ((undercroftref13_Fits.f k (A ++ x :: C2)).bind fun t => (if t = true then (some ((A ++ x :: C2), (0 : Int))) else (some (([] : List E), 15))))) (if sumL (A ++ x :: C2) ≤ 250 then (A ++ x :: C2, 0) else ([], 15)) := by
      refine Ev.bind (rfits_ev _ hl (right_ok _ _ hr)) ?_
      by_cases h : sumL (A ++ x :: C2) ≤ 250
      · simp only [decide_eq_true h, if_true, if_pos h]
        exact Ev.now _
      · simp only [decide_eq_false h, Bool.false_eq_true, if_false, if_neg h]
        exact Ev.now _
    refine Ev.succ ?_
    rcases List.eq_nil_or_concat A with rfl | ⟨A', a, rfl⟩
    · simp only [undercroftref13_Set.l0, List.length_nil, if_neg (show ¬ (((0 : Nat) : Int) > 0) by decide)]
      exact hfit
    · have hax : less (nb x) (nb a) = false := less_asymm (hA a (by simp))
      have e1 : A'.concat a ++ x :: C2 = A' ++ a :: x :: C2 := by simp
      rw [e1] at hfit hl ⊢
      rw [List.length_append] at hl
      rw [List.length_concat]
      simp only [rise_step A' a x C2 (by omega), hax, Bool.false_eq_true, if_false]
      exact hfit
  | succ n ih =>
    intro C1 C2 hn hC hr hl
    rcases List.eq_nil_or_concat C1 with rfl | ⟨C', c, rfl⟩
    · simp at hn
    · rw [List.length_concat] at hn
      have hxc : less (nb x) (nb c) = true := hC c (by simp)
      have e1 : A ++ C'.concat c ++ x :: C2 = (A ++ C') ++ c :: x :: C2 := by simp
      have e2 : A ++ x :: (C'.concat c ++ C2) = A ++ x :: (C' ++ (c :: C2)) := by simp
      rw [e2] at hr hl ⊢
      rw [e1, List.length_concat, show A.length + (C'.length + 1) = (A ++ C').length + 1 by rw [List.length_append]; omega]
      refine Ev.succ ?_
      have hll : (A ++ C').length < 4398046511104 := by
        rw [List.length_append, List.length_cons, List.length_append] at hl
        rw [List.length_append]; omega
      simp only [rise_step (A ++ C') c x C2 hll, hxc, if_true]
      rw [List.length_append]
      exact ih C' (c :: C2) (by omega) (fun e he => hC e (by simp [he])) hr hl
theorem rset_ev (l : List E) (x : E) (hl : l.length < 4398046511103) : Ev (fun k => undercroftref13_Set.f k l x.f0 x.f1) (setR l x) := by
  unfold undercroftref13_Set.f
  refine Ev.bind (rright_ev l (by omega)) ?_
  unfold setR
  by_cases hr : right none l = true
  · simp only [hr, if_true, rmay_some, Option.bind_some]
    refine Ev.succ ?_
    by_cases hx : okE x = true
    · have hx' : mayB x.f0 x.f1 = true := hx
      simp only [undercroftref13_Set.j0, hx, hx', Bool.not_true, Bool.false_eq_true, if_false, and_self, if_true]
      have hpr := put_right hr hx
      have hpl : (put x l).length ≤ l.length + 1 := put_len
      have hrl : (rem (nb x) l).length ≤ l.length := rem_len
      refine Ev.bind (without_ev l x.f0 (by omega)) ?_
      obtain ⟨A, M, C, rfl, hA, hC, hM⟩ := split (nb x) l ((right_iff l none).1 hr).2.2
      have hput := put_split hA hC hM
      have hrem := rem_split hA hC hM
      rw [hput] at hpr hpl
      rw [hrem] at hrl
      have e0 : rem x.f0.data.toList (A ++ (M ++ C)) = A ++ C := hrem
      simp only [hput, e0, if_pos (show (A ++ C).length < 4398046511104 by omega), bs, eta]
      have hac : (A ++ C).length = A.length + C.length := List.length_append
      have ep : wrap64 (((A ++ C ++ [x]).length : Int) - 1) = ((A.length + C.length : Nat) : Int) := by
        rw [List.length_append, List.length_append, List.length_singleton, w64 (by omega) (by omega)]; omega
      rw [ep]
      have := rise_ev A x hA C.length C [] rfl hC (by rw [List.append_nil]; exact hpr) (by rw [List.append_nil]; omega)
      rw [List.append_nil] at this
      exact this
    · have hx' : mayB x.f0 x.f1 = false := by simpa [okE] using hx
      simp only [undercroftref13_Set.j0, hx', Bool.not_false, if_true, if_neg (show ¬ (True ∧ okE x = true) from fun h => hx h.2)]
      exact Ev.now _
  · have hr' : right none l = false := by simpa using hr
    simp only [hr', Bool.false_eq_true, if_false, false_and]
    refine Ev.succ ?_
    simp only [undercroftref13_Set.j0, if_true]
    exact Ev.now _
theorem rdrop_ev (l : List E) (s : ByteArray) (hl : l.length < 4398046511104) : Ev (fun k => undercroftref13_Drop.f k l s) (dropR l s.data.toList) := by
  unfold undercroftref13_Drop.f
  refine Ev.bind (rright_ev l hl) ?_
  unfold dropR
  by_cases hr : right none l = true
  · simp only [hr, if_true]
    refine Ev.bind (without_ev l s hl) ?_
    obtain ⟨A, M, C, rfl, hA, hC, hM⟩ := split s.data.toList l ((right_iff l none).1 hr).2.2
    simp only [rem_split hA hC hM, get_split hA hC hM]
    rcases hM with rfl | ⟨m, rfl, hm⟩
    · simp only [List.nil_append, decide_eq_false (show ¬ (A ++ C).length < (A ++ C).length from Nat.lt_irrefl _), Bool.false_eq_true, if_false, List.head?_nil]
      exact Ev.now _
    · simp only [decide_eq_true (show (A ++ C).length < (A ++ ([m] ++ C)).length by simp), if_true, List.head?_cons]
      exact Ev.now _
  · have hr' : right none l = false := by simpa using hr
    simp only [hr', Bool.false_eq_true, if_false]
    exact Ev.now _
theorem rget_ev (l : List E) (s : ByteArray) (hl : l.length < 4398046511104) : Ev (fun k => undercroftref13_Get.f k l s) (getR l s.data.toList) := by
  unfold undercroftref13_Get.f
  refine Ev.bind (rright_ev l hl) ?_
  unfold getR
  by_cases hr : right none l = true
  · simp only [hr, if_true]
    have key : ∀ (n i : Nat), i + n = l.length → Ev (fun k => undercroftref13_Get.l0 k l s (i : Int)) (match getF s.data.toList (l.drop i) with | some m => (m.f1, 0) | none => (⟨#[]⟩, 15)) := by
      intro n
      induction n with
      | zero =>
        intro i hi
        refine Ev.succ ?_
        simp only [undercroftref13_Get.l0, if_neg (show ¬((i : Int) < (l.length : Int)) by omega)]
        rw [List.drop_of_length_le (by omega)]
        exact Ev.now _
      | succ n ih =>
        intro i hi
        refine Ev.succ ?_
        have hil : i < l.length := by omega
        rw [List.drop_eq_getElem_cons hil]
        simp only [undercroftref13_Get.l0, if_pos (show ((i : Int) < (l.length : Int)) by omega), if_pos (show (0 : Int) ≤ (i : Int) by omega), rdT_get hil, Lib.toList_data, w64 (show -9223372036854775808 ≤ (i : Int) + 1 by omega) (by omega)]
        by_cases h : nb l[i] = s.data.toList
        · have e : getF s.data.toList (l[i] :: l.drop (i + 1)) = some l[i] := by unfold getF; rw [List.find?_cons_of_pos (by simp [h])]
          simp only [if_pos h, e]
          exact Ev.now _
        · have e : getF s.data.toList (l[i] :: l.drop (i + 1)) = getF s.data.toList (l.drop (i + 1)) := by unfold getF; rw [List.find?_cons_of_neg (by simp [h])]
          simp only [if_neg h]
          rw [e]
          exact ih (i + 1) (by omega)
    have := key l.length 0 (by omega)
    rw [List.drop_zero] at this
    exact this
  · have hr' : right none l = false := by simpa using hr
    simp only [hr', Bool.false_eq_true, if_false]
    exact Ev.now _
theorem same_ev (l : List E) (hl : l.length < 4398046511104) : Ev (fun k => undercroftref13_Same.f k l l) true := by
  unfold undercroftref13_Same.f
  simp only [if_true]
  have key : ∀ (n i : Nat), i + n = l.length → Ev (fun k => undercroftref13_Same.l0 k l l (i : Int)) true := by
    intro n
    induction n with
    | zero =>
      intro i hi
      refine Ev.succ ?_
      simp only [undercroftref13_Same.l0, if_neg (show ¬((i : Int) < (l.length : Int)) by omega)]
      exact Ev.now _
    | succ n ih =>
      intro i hi
      refine Ev.succ ?_
      have hil : i < l.length := by omega
      simp only [undercroftref13_Same.l0, if_pos (show ((i : Int) < (l.length : Int)) by omega), if_pos (show (0 : Int) ≤ (i : Int) by omega), beq_self_eq_true, Bool.not_true, Bool.or_self, Bool.false_eq_true, if_false, w64 (show -9223372036854775808 ≤ (i : Int) + 1 by omega) (by omega)]
      exact ih (i + 1) (by omega)
  exact key l.length 0 (by omega)
end Go.Proofs.Ytffaggckhneakaa.At
end
section
namespace Go.Proofs.Ytffaggckhneakaa.Pr
open Go.RowKit Go.Proofs.YtffaggckhneakaaW.PrintWords Go.Proofs.YtffaggckhneakaaW.PrintLast Go.Proofs.YtffaggckhneakaaW.PrintMore
attribute [local go_sem] max2_int min2_int max_two min_two max_three min_three max_four min_four
attribute [local go_sem] Go.Proofs.Ytffaggckhneakaa.Hl.str_geq Go.Proofs.Ytffaggckhneakaa.Hl.str_gtr Go.Proofs.Ytffaggckhneakaa.Hl.str_leq
set_option linter.unusedVariables false
set_option linter.unusedSimpArgs false
mutual
def undercroftlaw13_AttrTurns.j0 : Nat → List (S26) → List (S26) → List (S26) → List (S26) → Bool → Option (Bool)
  | 0, _, _, _, _, _ => none
  | k + 1, x0, x5, x6, x10, x18 => undercroftlaw13_AttrTurns.l0 k x0 x5 x6 x10 x18 0
def undercroftlaw13_AttrTurns.l0 : Nat → List (S26) → List (S26) → List (S26) → List (S26) → Bool → Int → Option (Bool)
  | 0, _, _, _, _, _, _ => none
  | k + 1, x0, x5, x6, x10, x18, x19 => if x19 < (x6.length : Int) then (if 0 ≤ x19 then (undercroftlaw13_AttrTurns.l0 k x0 x5 (x6.set (x19 : Int).toNat (⟨(⟨#[]⟩ : ByteArray), (⟨#[]⟩ : ByteArray)⟩ : S26)) x10 x18 (wrap64 (x19 + 1))) else (none)) else (undercroftlaw13_AttrTurns.l1 k x0 x5 x10 x18 0)
def undercroftlaw13_AttrTurns.l1 : Nat → List (S26) → List (S26) → List (S26) → Bool → Int → Option (Bool)
  | 0, _, _, _, _, _ => none
  | k + 1, x0, x5, x10, x18, x20 => if x20 < (x10.length : Int) then (if 0 ≤ x20 then (undercroftlaw13_AttrTurns.l1 k x0 x5 (x10.set (x20 : Int).toNat (⟨(⟨#[]⟩ : ByteArray), (⟨#[]⟩ : ByteArray)⟩ : S26)) x18 (wrap64 (x20 + 1))) else (none)) else (if x18 = true then ((undercroftref13_Same.f k x5 x0).bind fun t454 => (some t454)) else (some false))
end
def undercroftlaw13_AttrTurns.f (k : Nat) (l0 : List (S26)) (a1_0 : ByteArray) (a1_1 : ByteArray) : Option (Bool) := (undercroftlaw13_alive.f k).bind fun t423 => (if t423 = true then ((some (([] : List (S26)) : List (S26))).bind fun y424 => (if y424.length + l0.length < 4398046511104 then ((some (y424 ++ l0 : List (S26))).bind fun y427 => ((attr_Set.f k y427 a1_0 a1_1).bind fun bt430 => ((undercroftref13_Set.f k l0 a1_0 a1_1).bind fun bt434 => ((attr_Drop.f k y427 a1_0).bind fun bt438 => ((undercroftref13_Drop.f k l0 a1_0).bind fun bt442 => ((attr_Get.f k y427 a1_0).bind fun bt446 => ((undercroftref13_Get.f k l0 a1_0).bind fun bt448 => (if bt430.2 = bt434.2 then ((undercroftref13_Same.f k bt430.1 bt434.1).bind fun t450 => (if t450 = true then (if bt438.2 = bt442.2 then ((undercroftref13_Same.f k bt438.1 bt442.1).bind fun t451 => (if t451 = true then (if bt446.1.toList = bt448.1.toList then (undercroftlaw13_AttrTurns.j0 k l0 y427 bt430.1 bt438.1 (bt446.2 == bt448.2)) else (undercroftlaw13_AttrTurns.j0 k l0 y427 bt430.1 bt438.1 false)) else (undercroftlaw13_AttrTurns.j0 k l0 y427 bt430.1 bt438.1 false))) else (undercroftlaw13_AttrTurns.j0 k l0 y427 bt430.1 bt438.1 false)) else (undercroftlaw13_AttrTurns.j0 k l0 y427 bt430.1 bt438.1 false))) else (undercroftlaw13_AttrTurns.j0 k l0 y427 bt430.1 bt438.1 false))))))))) else (none))) else (some false))
set_option maxHeartbeats 8000000 in
set_option maxRecDepth 100000 in
theorem undercroftlaw13_AttrTurns.calls (k : Nat) (A0 : Option Addr) (c0 : Nat) (l0 : List (S26)) (a1_0 : ByteArray) (a1_1 : ByteArray) (r : Bool) (w : World) (hr0 : Kd.C k26 w A0 l0.length l0) (hc0 : l0.length ≤ c0) (h : undercroftlaw13_AttrTurns.f k l0 a1_0 a1_1 = some r) :
    Calls Try.prog 4 #[.slice A0 l0.length c0, .agg #[.string a1_0, .string a1_1]] w fun e w' => e = .returned (.bool r) ∧ Below w.heap.size w w' := by
  have hu26 := Try.underlying26
  have HR0 := Aside0.mk hr0
  have HC0 := Aside0.mk hc0
  clear hr0 hc0
  have HB := Aside0.mk (Below.refl w.heap.size w)
  have H : ((undercroftlaw13_alive.f k).bind fun t423 => (if t423 = true then ((some (([] : List (S26)) : List (S26))).bind fun y424 => (if y424.length + l0.length < 4398046511104 then ((some (y424 ++ l0 : List (S26))).bind fun y427 => ((attr_Set.f k y427 a1_0 a1_1).bind fun bt430 => ((undercroftref13_Set.f k l0 a1_0 a1_1).bind fun bt434 => ((attr_Drop.f k y427 a1_0).bind fun bt438 => ((undercroftref13_Drop.f k l0 a1_0).bind fun bt442 => ((attr_Get.f k y427 a1_0).bind fun bt446 => ((undercroftref13_Get.f k l0 a1_0).bind fun bt448 => (if bt430.2 = bt434.2 then ((undercroftref13_Same.f k bt430.1 bt434.1).bind fun t450 => (if t450 = true then (if bt438.2 = bt442.2 then ((undercroftref13_Same.f k bt438.1 bt442.1).bind fun t451 => (if t451 = true then (if bt446.1.toList = bt448.1.toList then (undercroftlaw13_AttrTurns.j0 k l0 y427 bt430.1 bt438.1 (bt446.2 == bt448.2)) else (undercroftlaw13_AttrTurns.j0 k l0 y427 bt430.1 bt438.1 false)) else (undercroftlaw13_AttrTurns.j0 k l0 y427 bt430.1 bt438.1 false))) else (undercroftlaw13_AttrTurns.j0 k l0 y427 bt430.1 bt438.1 false)) else (undercroftlaw13_AttrTurns.j0 k l0 y427 bt430.1 bt438.1 false))) else (undercroftlaw13_AttrTurns.j0 k l0 y427 bt430.1 bt438.1 false))))))))) else (none))) else (some false))) = some r := h
  clear h
  replace H := Option.bind_eq_some_iff.mp H
  obtain ⟨t423, A30, H⟩ := H
  replace H : (if t423 = true then ((some (([] : List (S26)) : List (S26))).bind fun y424 => (if y424.length + l0.length < 4398046511104 then ((some (y424 ++ l0 : List (S26))).bind fun y427 => ((attr_Set.f k y427 a1_0 a1_1).bind fun bt430 => ((undercroftref13_Set.f k l0 a1_0 a1_1).bind fun bt434 => ((attr_Drop.f k y427 a1_0).bind fun bt438 => ((undercroftref13_Drop.f k l0 a1_0).bind fun bt442 => ((attr_Get.f k y427 a1_0).bind fun bt446 => ((undercroftref13_Get.f k l0 a1_0).bind fun bt448 => (if bt430.2 = bt434.2 then ((undercroftref13_Same.f k bt430.1 bt434.1).bind fun t450 => (if t450 = true then (if bt438.2 = bt442.2 then ((undercroftref13_Same.f k bt438.1 bt442.1).bind fun t451 => (if t451 = true then (if bt446.1.toList = bt448.1.toList then (undercroftlaw13_AttrTurns.j0 k l0 y427 bt430.1 bt438.1 (bt446.2 == bt448.2)) else (undercroftlaw13_AttrTurns.j0 k l0 y427 bt430.1 bt438.1 false)) else (undercroftlaw13_AttrTurns.j0 k l0 y427 bt430.1 bt438.1 false))) else (undercroftlaw13_AttrTurns.j0 k l0 y427 bt430.1 bt438.1 false)) else (undercroftlaw13_AttrTurns.j0 k l0 y427 bt430.1 bt438.1 false))) else (undercroftlaw13_AttrTurns.j0 k l0 y427 bt430.1 bt438.1 false))))))))) else (none))) else (some false)) = some r := H
  have A3 := Aside0.mk A30
  clear A30
  by_cases c4 : t423 = true
  · subst c4
    have H1 : ((some (([] : List (S26)) : List (S26))).bind fun y424 => (if y424.length + l0.length < 4398046511104 then ((some (y424 ++ l0 : List (S26))).bind fun y427 => ((attr_Set.f k y427 a1_0 a1_1).bind fun bt430 => ((undercroftref13_Set.f k l0 a1_0 a1_1).bind fun bt434 => ((attr_Drop.f k y427 a1_0).bind fun bt438 => ((undercroftref13_Drop.f k l0 a1_0).bind fun bt442 => ((attr_Get.f k y427 a1_0).bind fun bt446 => ((undercroftref13_Get.f k l0 a1_0).bind fun bt448 => (if bt430.2 = bt434.2 then ((undercroftref13_Same.f k bt430.1 bt434.1).bind fun t450 => (if t450 = true then (if bt438.2 = bt442.2 then ((undercroftref13_Same.f k bt438.1 bt442.1).bind fun t451 => (if t451 = true then (if bt446.1.toList = bt448.1.toList then (undercroftlaw13_AttrTurns.j0 k l0 y427 bt430.1 bt438.1 (bt446.2 == bt448.2)) else (undercroftlaw13_AttrTurns.j0 k l0 y427 bt430.1 bt438.1 false)) else (undercroftlaw13_AttrTurns.j0 k l0 y427 bt430.1 bt438.1 false))) else (undercroftlaw13_AttrTurns.j0 k l0 y427 bt430.1 bt438.1 false)) else (undercroftlaw13_AttrTurns.j0 k l0 y427 bt430.1 bt438.1 false))) else (undercroftlaw13_AttrTurns.j0 k l0 y427 bt430.1 bt438.1 false))))))))) else (none))) = some r := by rw [if_pos rfl] at H; exact H
    clear H
    have H := H1
    clear H1
    obtain ⟨y424, hy424⟩ : ∃ y_ : List (S26), y_ = (([] : List (S26))) := ⟨_, rfl⟩
    replace H : (if y424.length + l0.length < 4398046511104 then ((some (y424 ++ l0 : List (S26))).bind fun y427 => ((attr_Set.f k y427 a1_0 a1_1).bind fun bt430 => ((undercroftref13_Set.f k l0 a1_0 a1_1).bind fun bt434 => ((attr_Drop.f k y427 a1_0).bind fun bt438 => ((undercroftref13_Drop.f k l0 a1_0).bind fun bt442 => ((attr_Get.f k y427 a1_0).bind fun bt446 => ((undercroftref13_Get.f k l0 a1_0).bind fun bt448 => (if bt430.2 = bt434.2 then ((undercroftref13_Same.f k bt430.1 bt434.1).bind fun t450 => (if t450 = true then (if bt438.2 = bt442.2 then ((undercroftref13_Same.f k bt438.1 bt442.1).bind fun t451 => (if t451 = true then (if bt446.1.toList = bt448.1.toList then (undercroftlaw13_AttrTurns.j0 k l0 y427 bt430.1 bt438.1 (bt446.2 == bt448.2)) else (undercroftlaw13_AttrTurns.j0 k l0 y427 bt430.1 bt438.1 false)) else (undercroftlaw13_AttrTurns.j0 k l0 y427 bt430.1 bt438.1 false))) else (undercroftlaw13_AttrTurns.j0 k l0 y427 bt430.1 bt438.1 false)) else (undercroftlaw13_AttrTurns.j0 k l0 y427 bt430.1 bt438.1 false))) else (undercroftlaw13_AttrTurns.j0 k l0 y427 bt430.1 bt438.1 false))))))))) else (none)) = some r := by first | (rw [hy424]; with_reducible exact H) | (have H2_ := (Option.bind_some _ _).symm.trans H; rw [hy424]; with_reducible exact H2_) | (have H2_ := (Option.bind_some _ _).symm.trans H; with_reducible exact H2_) | with_reducible exact H | (rw [hy424]; exact H) | exact H
    have Ny424 := Aside0.mk hy424
    clear hy424
    by_cases c5 : y424.length + l0.length < 4398046511104
    · rw [if_pos c5] at H
      have LMc5 := Aside0.mk c5
      clear c5
      obtain ⟨y427, hy427⟩ : ∃ y_ : List (S26), y_ = (y424 ++ l0) := ⟨_, rfl⟩
      replace H : ((attr_Set.f k y427 a1_0 a1_1).bind fun bt430 => ((undercroftref13_Set.f k l0 a1_0 a1_1).bind fun bt434 => ((attr_Drop.f k y427 a1_0).bind fun bt438 => ((undercroftref13_Drop.f k l0 a1_0).bind fun bt442 => ((attr_Get.f k y427 a1_0).bind fun bt446 => ((undercroftref13_Get.f k l0 a1_0).bind fun bt448 => (if bt430.2 = bt434.2 then ((undercroftref13_Same.f k bt430.1 bt434.1).bind fun t450 => (if t450 = true then (if bt438.2 = bt442.2 then ((undercroftref13_Same.f k bt438.1 bt442.1).bind fun t451 => (if t451 = true then (if bt446.1.toList = bt448.1.toList then (undercroftlaw13_AttrTurns.j0 k l0 y427 bt430.1 bt438.1 (bt446.2 == bt448.2)) else (undercroftlaw13_AttrTurns.j0 k l0 y427 bt430.1 bt438.1 false)) else (undercroftlaw13_AttrTurns.j0 k l0 y427 bt430.1 bt438.1 false))) else (undercroftlaw13_AttrTurns.j0 k l0 y427 bt430.1 bt438.1 false)) else (undercroftlaw13_AttrTurns.j0 k l0 y427 bt430.1 bt438.1 false))) else (undercroftlaw13_AttrTurns.j0 k l0 y427 bt430.1 bt438.1 false)))))))) = some r := by first | (rw [hy427]; with_reducible exact H) | (have H2_ := (Option.bind_some _ _).symm.trans H; rw [hy427]; with_reducible exact H2_) | (have H2_ := (Option.bind_some _ _).symm.trans H; with_reducible exact H2_) | with_reducible exact H | (rw [hy427]; exact H) | exact H
      have Ny427 := Aside0.mk hy427
      clear hy427
      replace H := Option.bind_eq_some_iff.mp H
      obtain ⟨⟨t430, t433⟩, A60, H⟩ := H
      replace H : ((undercroftref13_Set.f k l0 a1_0 a1_1).bind fun bt434 => ((attr_Drop.f k y427 a1_0).bind fun bt438 => ((undercroftref13_Drop.f k l0 a1_0).bind fun bt442 => ((attr_Get.f k y427 a1_0).bind fun bt446 => ((undercroftref13_Get.f k l0 a1_0).bind fun bt448 => (if t433 = bt434.2 then ((undercroftref13_Same.f k t430 bt434.1).bind fun t450 => (if t450 = true then (if bt438.2 = bt442.2 then ((undercroftref13_Same.f k bt438.1 bt442.1).bind fun t451 => (if t451 = true then (if bt446.1.toList = bt448.1.toList then (undercroftlaw13_AttrTurns.j0 k l0 y427 t430 bt438.1 (bt446.2 == bt448.2)) else (undercroftlaw13_AttrTurns.j0 k l0 y427 t430 bt438.1 false)) else (undercroftlaw13_AttrTurns.j0 k l0 y427 t430 bt438.1 false))) else (undercroftlaw13_AttrTurns.j0 k l0 y427 t430 bt438.1 false)) else (undercroftlaw13_AttrTurns.j0 k l0 y427 t430 bt438.1 false))) else (undercroftlaw13_AttrTurns.j0 k l0 y427 t430 bt438.1 false))))))) = some r := H
      have A6 := Aside0.mk A60
      clear A60
      replace H := Option.bind_eq_some_iff.mp H
      obtain ⟨⟨t434, t437⟩, A70, H⟩ := H
      replace H : ((attr_Drop.f k y427 a1_0).bind fun bt438 => ((undercroftref13_Drop.f k l0 a1_0).bind fun bt442 => ((attr_Get.f k y427 a1_0).bind fun bt446 => ((undercroftref13_Get.f k l0 a1_0).bind fun bt448 => (if t433 = t437 then ((undercroftref13_Same.f k t430 t434).bind fun t450 => (if t450 = true then (if bt438.2 = bt442.2 then ((undercroftref13_Same.f k bt438.1 bt442.1).bind fun t451 => (if t451 = true then (if bt446.1.toList = bt448.1.toList then (undercroftlaw13_AttrTurns.j0 k l0 y427 t430 bt438.1 (bt446.2 == bt448.2)) else (undercroftlaw13_AttrTurns.j0 k l0 y427 t430 bt438.1 false)) else (undercroftlaw13_AttrTurns.j0 k l0 y427 t430 bt438.1 false))) else (undercroftlaw13_AttrTurns.j0 k l0 y427 t430 bt438.1 false)) else (undercroftlaw13_AttrTurns.j0 k l0 y427 t430 bt438.1 false))) else (undercroftlaw13_AttrTurns.j0 k l0 y427 t430 bt438.1 false)))))) = some r := H
      have A7 := Aside0.mk A70
      clear A70
      replace H := Option.bind_eq_some_iff.mp H
      obtain ⟨⟨t438, t439⟩, A80, H⟩ := H
      replace H : ((undercroftref13_Drop.f k l0 a1_0).bind fun bt442 => ((attr_Get.f k y427 a1_0).bind fun bt446 => ((undercroftref13_Get.f k l0 a1_0).bind fun bt448 => (if t433 = t437 then ((undercroftref13_Same.f k t430 t434).bind fun t450 => (if t450 = true then (if t439 = bt442.2 then ((undercroftref13_Same.f k t438 bt442.1).bind fun t451 => (if t451 = true then (if bt446.1.toList = bt448.1.toList then (undercroftlaw13_AttrTurns.j0 k l0 y427 t430 t438 (bt446.2 == bt448.2)) else (undercroftlaw13_AttrTurns.j0 k l0 y427 t430 t438 false)) else (undercroftlaw13_AttrTurns.j0 k l0 y427 t430 t438 false))) else (undercroftlaw13_AttrTurns.j0 k l0 y427 t430 t438 false)) else (undercroftlaw13_AttrTurns.j0 k l0 y427 t430 t438 false))) else (undercroftlaw13_AttrTurns.j0 k l0 y427 t430 t438 false))))) = some r := H
      have A8 := Aside0.mk A80
      clear A80
      replace H := Option.bind_eq_some_iff.mp H
      obtain ⟨⟨t442, t443⟩, A90, H⟩ := H
      replace H : ((attr_Get.f k y427 a1_0).bind fun bt446 => ((undercroftref13_Get.f k l0 a1_0).bind fun bt448 => (if t433 = t437 then ((undercroftref13_Same.f k t430 t434).bind fun t450 => (if t450 = true then (if t439 = t443 then ((undercroftref13_Same.f k t438 t442).bind fun t451 => (if t451 = true then (if bt446.1.toList = bt448.1.toList then (undercroftlaw13_AttrTurns.j0 k l0 y427 t430 t438 (bt446.2 == bt448.2)) else (undercroftlaw13_AttrTurns.j0 k l0 y427 t430 t438 false)) else (undercroftlaw13_AttrTurns.j0 k l0 y427 t430 t438 false))) else (undercroftlaw13_AttrTurns.j0 k l0 y427 t430 t438 false)) else (undercroftlaw13_AttrTurns.j0 k l0 y427 t430 t438 false))) else (undercroftlaw13_AttrTurns.j0 k l0 y427 t430 t438 false)))) = some r := H
      have A9 := Aside0.mk A90
      clear A90
      replace H := Option.bind_eq_some_iff.mp H
      obtain ⟨⟨t446, t447⟩, A100, H⟩ := H
      replace H : ((undercroftref13_Get.f k l0 a1_0).bind fun bt448 => (if t433 = t437 then ((undercroftref13_Same.f k t430 t434).bind fun t450 => (if t450 = true then (if t439 = t443 then ((undercroftref13_Same.f k t438 t442).bind fun t451 => (if t451 = true then (if t446.toList = bt448.1.toList then (undercroftlaw13_AttrTurns.j0 k l0 y427 t430 t438 (t447 == bt448.2)) else (undercroftlaw13_AttrTurns.j0 k l0 y427 t430 t438 false)) else (undercroftlaw13_AttrTurns.j0 k l0 y427 t430 t438 false))) else (undercroftlaw13_AttrTurns.j0 k l0 y427 t430 t438 false)) else (undercroftlaw13_AttrTurns.j0 k l0 y427 t430 t438 false))) else (undercroftlaw13_AttrTurns.j0 k l0 y427 t430 t438 false))) = some r := H
      have A10 := Aside0.mk A100
      clear A100
      replace H := Option.bind_eq_some_iff.mp H
      obtain ⟨⟨t448, t449⟩, A110, H⟩ := H
      replace H : (if t433 = t437 then ((undercroftref13_Same.f k t430 t434).bind fun t450 => (if t450 = true then (if t439 = t443 then ((undercroftref13_Same.f k t438 t442).bind fun t451 => (if t451 = true then (if t446.toList = t448.toList then (undercroftlaw13_AttrTurns.j0 k l0 y427 t430 t438 (t447 == t449)) else (undercroftlaw13_AttrTurns.j0 k l0 y427 t430 t438 false)) else (undercroftlaw13_AttrTurns.j0 k l0 y427 t430 t438 false))) else (undercroftlaw13_AttrTurns.j0 k l0 y427 t430 t438 false)) else (undercroftlaw13_AttrTurns.j0 k l0 y427 t430 t438 false))) else (undercroftlaw13_AttrTurns.j0 k l0 y427 t430 t438 false)) = some r := H
      have A11 := Aside0.mk A110
      clear A110
      have HC12 := Aside0.mk H
      clear H
      go_enter Try.func4, Try.ntmps4
      go_upto_region 10 with (first | ((with_reducible refine gate_dst (N := 3) rfl ?_); refine box_event ?hg (N := 3) ?hd (cs := #[.string a1_0, .string a1_1]) (t := 26) ?hr ?_; (case hd => rfl); (case hg => rfl); (case hr => first | (go_simp; done) | (go_simp; rfl)); intro gb422 hg w13 hbox hb; have n0_ := Aside0.mk (below_step (by repeat (first | (with_reducible first | exact HB.out | apply below_alloc | apply pw_below_drewN | apply below_drew1) | exact HB.out)) hb); have n1_ := Aside0.mk (hbox); have n2_ := Aside0.mk ((by rw [hg]; exact (below_size (by repeat (first | (with_reducible first | exact HB.out | apply below_alloc | apply pw_below_drewN | apply below_drew1) | exact HB.out))) : w.heap.size ≤ gb422)); have n3_ := Aside0.mk ((by rw [hg]; exact (below_size (by repeat (first | (with_reducible first | exact HB.out | apply below_alloc | apply pw_below_drewN | apply below_drew1) | exact HB.out))) : w.heap.size ≤ gb422)); clear HB; have HB := n0_; have BK422 := n1_; have GW422 := n2_; have GE422 := n3_; clear n0_ n1_ n2_ n3_; clear hb hbox hg) | ((with_reducible refine gate_callee (f := 13) rfl ?_); refine goesL_ (some 21) rfl rfl Try.func13 (by kernel_rfl) rfl #[] rfl (by (try simp only [List.map_toArray, List.map_cons, List.map_nil]); first | done | rfl | (simp only [List.length_drop, List.length_take]; rfl)) ?_; (with_reducible refine (undercroftlaw13_alive.calls k  true _ A3.out).mono ?_); rintro e w14 ⟨rfl, hb⟩; refine ⟨_, rfl, ?_⟩; have n0_ := Aside0.mk (blk_below (g := gb422) (o := .cells #[.string a1_0, .string a1_1] 26 (0, 0)) (by (with_reducible repeat (first | refine blk_drewN ?_ _ | refine blk_drew ?_ | refine blk_alloc ?_ _)); exact BK422.out) hb); have n1_ := Aside0.mk (below_step (by repeat (first | (with_reducible first | exact HB.out | apply below_alloc | apply pw_below_drewN | apply below_drew1 | refine below_set ?_ GE422.out) | exact HB.out)) hb); clear BK422; clear HB; have BK422 := n0_; have HB := n1_; clear n0_ n1_; (try clear hb); (try clear hb2); (try clear hk); (try clear hi)) | ((with_reducible refine gate_dst (N := 23) rfl ?_); refine Kd.R_lit k26 _ 26 ?hg (N := 23) ?hd (xs := ([] : List (S26))) (inner := []) (ok := fun _ => True) (okp := fun _ => True) ?hr ?hp (fun _ hk => hk) trivial (Below.refl _ _) (Nat.le_refl _) (by simp) ?_; (case hd => rfl); (case hg => rfl); (case hr => first | (go_simp; done) | (go_simp; rfl)); (case hp => exact (Reps.none _ _)); intro v425 w15 ho16 hb hg_ hnew_; clear hg_ hnew_; (first | rw [← Ny424.out] at ho16 | (simp only [Int.reduceToNat] at ho16; rw [← Ny424.out] at ho16)); have n0_ := Aside0.mk (Kd.R_lower (Kd.R_newB ho16 (g := gb422) (o := .cells #[.string a1_0, .string a1_1] 26 (0, 0)) (by (with_reducible repeat (first | refine blk_drewN ?_ _ | refine blk_drew ?_ | refine blk_alloc ?_ _)); exact BK422.out)) (below_size (by repeat (first | (with_reducible first | exact HB.out | apply below_alloc | apply pw_below_drewN | apply below_drew1 | refine below_set ?_ GE422.out) | exact HB.out)))); have n1_ := Aside0.mk (blk_below (g := gb422) (o := .cells #[.string a1_0, .string a1_1] 26 (0, 0)) (by (with_reducible repeat (first | refine blk_drewN ?_ _ | refine blk_drew ?_ | refine blk_alloc ?_ _)); exact BK422.out) hb); have n2_ := Aside0.mk (below_step (by repeat (first | (with_reducible first | exact HB.out | apply below_alloc | apply pw_below_drewN | apply below_drew1 | refine below_set ?_ GE422.out) | exact HB.out)) hb); clear BK422; clear HB; have HO426 := n0_; have BK422 := n1_; have HB := n2_; clear n0_ n1_ n2_; clear hb ho16) | ((with_reducible refine gate_builtin (b := .append) (xs := #[.tmp 23, .tmp 24]) rfl ?_); at_builtin; refine Kd.R_append_rows k26 (w0 := w) w.heap.size rfl (.tmp 23) (.tmp 24) 22 26 (.agg #[(.string ⟨#[]⟩), (.string ⟨#[]⟩)]) 32 rfl Try.underlying22 info26 rfl (by decide) (by omega) v425 y424 l0 _ _ _ (fun k_ => k_ ≠ gb422) (fun _ => False) rfl rfl ?aO ?aR (fun _ _ h => h) (fun _ h => h.elim) ?aF ?aB ?aS ?aL ?_; (case aR => repeat (first | exact (Kd.C_below HR0.out HB.out) | (with_reducible refine Kd.C_alloc ?_ _) | (with_reducible refine Kd.C_drewN ?_ _) | (with_reducible refine Kd.C_drew ?_))); (case aB => exact (by repeat (first | (with_reducible first | exact HB.out | apply below_alloc | apply pw_below_drewN | apply below_drew1 | refine below_set ?_ GE422.out) | exact HB.out))); (case aF => exact (fun k_ hk => Kd.freshB (g := gb422) (o := .cells #[.string a1_0, .string a1_1] 26 (0, 0)) (by (with_reducible repeat (first | refine blk_drewN ?_ _ | refine blk_drew ?_ | refine blk_alloc ?_ _)); exact BK422.out) k_ hk)); (case aO => exact (by (with_reducible repeat (first | apply Kd.R_alloc | apply Kd.R_drewN | apply Kd.R_drew)); exact Kd.R_mono HO426.out (fun _ hk => hk.2))); (case aS => exact (below_size (by repeat (first | (with_reducible first | exact HB.out | apply below_alloc | apply pw_below_drewN | apply below_drew1 | refine below_set ?_ GE422.out) | exact HB.out)))); (case aL => have := LMc5.out; omega); intro v428 w17 ho hb hg hat; rw [← Ny427.out] at ho; have n0_ := Aside0.mk (blk_grown (g := gb422) (o := .cells #[.string a1_0, .string a1_1] 26 (0, 0)) (by (with_reducible repeat (first | refine blk_drewN ?_ _ | refine blk_drew ?_ | refine blk_alloc ?_ _)); exact BK422.out) hg (Kd.R_away HO426.out (fun _ hk => hk.2))); have n1_ := Aside0.mk (hb); have n2_ := Aside0.mk (ho); clear BK422; clear HB; clear HO426; have BK422 := n0_; have HB := n1_; have HO429 := n2_; clear n0_ n1_ n2_; clear ho hb hg hat; have hcz18_0 : w17.cell? ⟨gb422, 0, none⟩ = some (.string a1_0) := (blk_cell BK422.out 0).trans rfl; have hcz18_1 : w17.cell? ⟨gb422, 1, none⟩ = some (.string a1_1) := (blk_cell BK422.out 1).trans rfl; have hfz18_0 := blk_frozen BK422.out 0; have hfz18_1 := blk_frozen BK422.out 1; obtain ⟨Ao19, co19, eo19⟩ := Kd.R_slice HO429.out; subst eo19) | ((with_reducible refine gate_callee (f := 14) rfl ?_); refine goesL_ (some 29) rfl rfl Try.func14 (by kernel_rfl) rfl #[.slice Ao19 y427.length co19, .agg #[.string a1_0, .string a1_1]] rfl (by (try simp only [List.map_toArray, List.map_cons, List.map_nil]); first | done | rfl | (simp only [List.length_drop, List.length_take]; rfl)) ?_; (with_reducible refine (attr_Set.calls k _ _ y427 a1_0 a1_1 t430 t433 _ ?side1 ?side2 A6.out).mono ?_); (case side1 => repeat (first | exact (Kd.R_reads' HO429.out).2.2 | (with_reducible refine Kd.C_alloc ?_ _) | (with_reducible refine Kd.C_drewN ?_ _) | (with_reducible refine Kd.C_drew ?_))); (case side2 => exact (Kd.R_reads' HO429.out).2.1); rintro e w20 ⟨v431, rfl, ho0, hb⟩; refine ⟨_, rfl, ?_⟩; have n0_ := Aside0.mk (Kd.R_elder' (by (with_reducible repeat (first | apply Kd.R_alloc | apply Kd.R_drewN | apply Kd.R_drew)); exact HO429.out) (Kd.R_base ho0) hb); have n1_ := Aside0.mk (Kd.R_lower (Kd.R_newB (Kd.R_new' ho0 (Kd.R_lt (by (with_reducible repeat (first | apply Kd.R_alloc | apply Kd.R_drewN | apply Kd.R_drew)); exact HO429.out))) (g := gb422) (o := .cells #[.string a1_0, .string a1_1] 26 (0, 0)) (by (with_reducible repeat (first | refine blk_drewN ?_ _ | refine blk_drew ?_ | refine blk_alloc ?_ _)); exact BK422.out)) (below_size (by repeat (first | (with_reducible first | exact HB.out | apply below_alloc | apply pw_below_drewN | apply below_drew1 | refine below_set ?_ GE422.out) | exact HB.out)))); have n2_ := Aside0.mk (blk_below (g := gb422) (o := .cells #[.string a1_0, .string a1_1] 26 (0, 0)) (by (with_reducible repeat (first | refine blk_drewN ?_ _ | refine blk_drew ?_ | refine blk_alloc ?_ _)); exact BK422.out) hb); have n3_ := Aside0.mk (below_step (by repeat (first | (with_reducible first | exact HB.out | apply below_alloc | apply pw_below_drewN | apply below_drew1 | refine below_set ?_ GE422.out) | exact HB.out)) hb); clear HO429; clear BK422; clear HB; have HO429 := n0_; have HO432 := n1_; have BK422 := n2_; have HB := n3_; clear n0_ n1_ n2_ n3_; (try clear hb); (try clear hb2); (try clear hk); (try clear hi); (try clear ho0); have hcz21_0 : w20.cell? ⟨gb422, 0, none⟩ = some (.string a1_0) := (blk_cell BK422.out 0).trans rfl; have hcz21_1 : w20.cell? ⟨gb422, 1, none⟩ = some (.string a1_1) := (blk_cell BK422.out 1).trans rfl; have hfz21_0 := blk_frozen BK422.out 0; have hfz21_1 := blk_frozen BK422.out 1) | ((with_reducible refine gate_callee (f := 16) rfl ?_); refine goesL_ (some 35) rfl rfl Try.func16 (by kernel_rfl) rfl #[.slice A0 l0.length c0, .agg #[.string a1_0, .string a1_1]] rfl (by (try simp only [List.map_toArray, List.map_cons, List.map_nil]); first | done | rfl | (simp only [List.length_drop, List.length_take]; rfl)) ?_; (with_reducible refine (undercroftref13_Set.calls k _ _ l0 a1_0 a1_1 t434 t437 _ ?side1 ?side2 A7.out).mono ?_); (case side1 => repeat (first | exact (Kd.C_below HR0.out HB.out) | (with_reducible refine Kd.C_alloc ?_ _) | (with_reducible refine Kd.C_drewN ?_ _) | (with_reducible refine Kd.C_drew ?_))); (case side2 => exact HC0.out); rintro e w22 ⟨v435, rfl, ho0, hb⟩; refine ⟨_, rfl, ?_⟩; have n0_ := Aside0.mk (Kd.R_elder' (by (with_reducible repeat (first | apply Kd.R_alloc | apply Kd.R_drewN | apply Kd.R_drew)); exact HO429.out) (Kd.R_base ho0) hb); have n1_ := Aside0.mk (Kd.R_elder' (by (with_reducible repeat (first | apply Kd.R_alloc | apply Kd.R_drewN | apply Kd.R_drew)); exact HO432.out) (Kd.R_base ho0) hb); have n2_ := Aside0.mk (Kd.R_lower (Kd.R_newB (Kd.R_new' (Kd.R_new' ho0 (Kd.R_lt (by (with_reducible repeat (first | apply Kd.R_alloc | apply Kd.R_drewN | apply Kd.R_drew)); exact HO429.out))) (Kd.R_lt (by (with_reducible repeat (first | apply Kd.R_alloc | apply Kd.R_drewN | apply Kd.R_drew)); exact HO432.out))) (g := gb422) (o := .cells #[.string a1_0, .string a1_1] 26 (0, 0)) (by (with_reducible repeat (first | refine blk_drewN ?_ _ | refine blk_drew ?_ | refine blk_alloc ?_ _)); exact BK422.out)) (below_size (by repeat (first | (with_reducible first | exact HB.out | apply below_alloc | apply pw_below_drewN | apply below_drew1 | refine below_set ?_ GE422.out) | exact HB.out)))); have n3_ := Aside0.mk (blk_below (g := gb422) (o := .cells #[.string a1_0, .string a1_1] 26 (0, 0)) (by (with_reducible repeat (first | refine blk_drewN ?_ _ | refine blk_drew ?_ | refine blk_alloc ?_ _)); exact BK422.out) hb); have n4_ := Aside0.mk (below_step (by repeat (first | (with_reducible first | exact HB.out | apply below_alloc | apply pw_below_drewN | apply below_drew1 | refine below_set ?_ GE422.out) | exact HB.out)) hb); clear HO429; clear HO432; clear BK422; clear HB; have HO429 := n0_; have HO432 := n1_; have HO436 := n2_; have BK422 := n3_; have HB := n4_; clear n0_ n1_ n2_ n3_ n4_; (try clear hb); (try clear hb2); (try clear hk); (try clear hi); (try clear ho0); have hcz23_0 : w22.cell? ⟨gb422, 0, none⟩ = some (.string a1_0) := (blk_cell BK422.out 0).trans rfl; have hcz23_1 : w22.cell? ⟨gb422, 1, none⟩ = some (.string a1_1) := (blk_cell BK422.out 1).trans rfl; have hfz23_0 := blk_frozen BK422.out 0; have hfz23_1 := blk_frozen BK422.out 1) | ((with_reducible refine gate_callee (f := 17) rfl ?_); refine goesL_ (some 42) rfl rfl Try.func17 (by kernel_rfl) rfl #[.slice Ao19 y427.length co19, .string a1_0] rfl (by (try simp only [List.map_toArray, List.map_cons, List.map_nil]); first | done | rfl | (simp only [List.length_drop, List.length_take]; rfl)) ?_; (with_reducible refine (attr_Drop.calls k _ _ y427 a1_0 t438 t439 _ ?side1 ?side2 A8.out).mono ?_); (case side1 => repeat (first | exact (Kd.R_reads' HO429.out).2.2 | (with_reducible refine Kd.C_alloc ?_ _) | (with_reducible refine Kd.C_drewN ?_ _) | (with_reducible refine Kd.C_drew ?_))); (case side2 => exact (Kd.R_reads' HO429.out).2.1); rintro e w24 ⟨v440, rfl, ho0, hb⟩; refine ⟨_, rfl, ?_⟩; have n0_ := Aside0.mk (Kd.R_elder' (by (with_reducible repeat (first | apply Kd.R_alloc | apply Kd.R_drewN | apply Kd.R_drew)); exact HO429.out) (Kd.R_base ho0) hb); have n1_ := Aside0.mk (Kd.R_elder' (by (with_reducible repeat (first | apply Kd.R_alloc | apply Kd.R_drewN | apply Kd.R_drew)); exact HO432.out) (Kd.R_base ho0) hb); have n2_ := Aside0.mk (Kd.R_elder' (by (with_reducible repeat (first | apply Kd.R_alloc | apply Kd.R_drewN | apply Kd.R_drew)); exact HO436.out) (Kd.R_base ho0) hb); have n3_ := Aside0.mk (Kd.R_lower (Kd.R_newB (Kd.R_new' (Kd.R_new' (Kd.R_new' ho0 (Kd.R_lt (by (with_reducible repeat (first | apply Kd.R_alloc | apply Kd.R_drewN | apply Kd.R_drew)); exact HO429.out))) (Kd.R_lt (by (with_reducible repeat (first | apply Kd.R_alloc | apply Kd.R_drewN | apply Kd.R_drew)); exact HO432.out))) (Kd.R_lt (by (with_reducible repeat (first | apply Kd.R_alloc | apply Kd.R_drewN | apply Kd.R_drew)); exact HO436.out))) (g := gb422) (o := .cells #[.string a1_0, .string a1_1] 26 (0, 0)) (by (with_reducible repeat (first | refine blk_drewN ?_ _ | refine blk_drew ?_ | refine blk_alloc ?_ _)); exact BK422.out)) (below_size (by repeat (first | (with_reducible first | exact HB.out | apply below_alloc | apply pw_below_drewN | apply below_drew1 | refine below_set ?_ GE422.out) | exact HB.out)))); have n4_ := Aside0.mk (blk_below (g := gb422) (o := .cells #[.string a1_0, .string a1_1] 26 (0, 0)) (by (with_reducible repeat (first | refine blk_drewN ?_ _ | refine blk_drew ?_ | refine blk_alloc ?_ _)); exact BK422.out) hb); have n5_ := Aside0.mk (below_step (by repeat (first | (with_reducible first | exact HB.out | apply below_alloc | apply pw_below_drewN | apply below_drew1 | refine below_set ?_ GE422.out) | exact HB.out)) hb); clear HO429; clear HO432; clear HO436; clear BK422; clear HB; have HO429 := n0_; have HO432 := n1_; have HO436 := n2_; have HO441 := n3_; have BK422 := n4_; have HB := n5_; clear n0_ n1_ n2_ n3_ n4_ n5_; (try clear hb); (try clear hb2); (try clear hk); (try clear hi); (try clear ho0); have hcz25_0 : w24.cell? ⟨gb422, 0, none⟩ = some (.string a1_0) := (blk_cell BK422.out 0).trans rfl; have hcz25_1 : w24.cell? ⟨gb422, 1, none⟩ = some (.string a1_1) := (blk_cell BK422.out 1).trans rfl; have hfz25_0 := blk_frozen BK422.out 0; have hfz25_1 := blk_frozen BK422.out 1) | ((with_reducible refine gate_callee (f := 18) rfl ?_); refine goesL_ (some 49) rfl rfl Try.func18 (by kernel_rfl) rfl #[.slice A0 l0.length c0, .string a1_0] rfl (by (try simp only [List.map_toArray, List.map_cons, List.map_nil]); first | done | rfl | (simp only [List.length_drop, List.length_take]; rfl)) ?_; (with_reducible refine (undercroftref13_Drop.calls k _ _ l0 a1_0 t442 t443 _ ?side1 ?side2 A9.out).mono ?_); (case side1 => repeat (first | exact (Kd.C_below HR0.out HB.out) | (with_reducible refine Kd.C_alloc ?_ _) | (with_reducible refine Kd.C_drewN ?_ _) | (with_reducible refine Kd.C_drew ?_))); (case side2 => exact HC0.out); rintro e w26 ⟨v444, rfl, ho0, hb⟩; refine ⟨_, rfl, ?_⟩; have n0_ := Aside0.mk (Kd.R_elder' (by (with_reducible repeat (first | apply Kd.R_alloc | apply Kd.R_drewN | apply Kd.R_drew)); exact HO429.out) (Kd.R_base ho0) hb); have n1_ := Aside0.mk (Kd.R_elder' (by (with_reducible repeat (first | apply Kd.R_alloc | apply Kd.R_drewN | apply Kd.R_drew)); exact HO432.out) (Kd.R_base ho0) hb); have n2_ := Aside0.mk (Kd.R_elder' (by (with_reducible repeat (first | apply Kd.R_alloc | apply Kd.R_drewN | apply Kd.R_drew)); exact HO436.out) (Kd.R_base ho0) hb); have n3_ := Aside0.mk (Kd.R_elder' (by (with_reducible repeat (first | apply Kd.R_alloc | apply Kd.R_drewN | apply Kd.R_drew)); exact HO441.out) (Kd.R_base ho0) hb); have n4_ := Aside0.mk (Kd.R_lower (Kd.R_newB (Kd.R_new' (Kd.R_new' (Kd.R_new' (Kd.R_new' ho0 (Kd.R_lt (by (with_reducible repeat (first | apply Kd.R_alloc | apply Kd.R_drewN | apply Kd.R_drew)); exact HO429.out))) (Kd.R_lt (by (with_reducible repeat (first | apply Kd.R_alloc | apply Kd.R_drewN | apply Kd.R_drew)); exact HO432.out))) (Kd.R_lt (by (with_reducible repeat (first | apply Kd.R_alloc | apply Kd.R_drewN | apply Kd.R_drew)); exact HO436.out))) (Kd.R_lt (by (with_reducible repeat (first | apply Kd.R_alloc | apply Kd.R_drewN | apply Kd.R_drew)); exact HO441.out))) (g := gb422) (o := .cells #[.string a1_0, .string a1_1] 26 (0, 0)) (by (with_reducible repeat (first | refine blk_drewN ?_ _ | refine blk_drew ?_ | refine blk_alloc ?_ _)); exact BK422.out)) (below_size (by repeat (first | (with_reducible first | exact HB.out | apply below_alloc | apply pw_below_drewN | apply below_drew1 | refine below_set ?_ GE422.out) | exact HB.out)))); have n5_ := Aside0.mk (blk_below (g := gb422) (o := .cells #[.string a1_0, .string a1_1] 26 (0, 0)) (by (with_reducible repeat (first | refine blk_drewN ?_ _ | refine blk_drew ?_ | refine blk_alloc ?_ _)); exact BK422.out) hb); have n6_ := Aside0.mk (below_step (by repeat (first | (with_reducible first | exact HB.out | apply below_alloc | apply pw_below_drewN | apply below_drew1 | refine below_set ?_ GE422.out) | exact HB.out)) hb); clear HO429; clear HO432; clear HO436; clear HO441; clear BK422; clear HB; have HO429 := n0_; have HO432 := n1_; have HO436 := n2_; have HO441 := n3_; have HO445 := n4_; have BK422 := n5_; have HB := n6_; clear n0_ n1_ n2_ n3_ n4_ n5_ n6_; (try clear hb); (try clear hb2); (try clear hk); (try clear hi); (try clear ho0); have hcz27_0 : w26.cell? ⟨gb422, 0, none⟩ = some (.string a1_0) := (blk_cell BK422.out 0).trans rfl; have hcz27_1 : w26.cell? ⟨gb422, 1, none⟩ = some (.string a1_1) := (blk_cell BK422.out 1).trans rfl; have hfz27_0 := blk_frozen BK422.out 0; have hfz27_1 := blk_frozen BK422.out 1) | ((with_reducible refine gate_callee (f := 19) rfl ?_); refine goesL_ (some 56) rfl rfl Try.func19 (by kernel_rfl) rfl #[.slice Ao19 y427.length co19, .string a1_0] rfl (by (try simp only [List.map_toArray, List.map_cons, List.map_nil]); first | done | rfl | (simp only [List.length_drop, List.length_take]; rfl)) ?_; (with_reducible refine (attr_Get.calls k _ _ y427 a1_0 t446 t447 _ ?side1 ?side2 A10.out).mono ?_); (case side1 => repeat (first | exact (Kd.R_reads' HO429.out).2.2 | (with_reducible refine Kd.C_alloc ?_ _) | (with_reducible refine Kd.C_drewN ?_ _) | (with_reducible refine Kd.C_drew ?_))); (case side2 => exact (Kd.R_reads' HO429.out).2.1); rintro e w28 ⟨rfl, hb⟩; refine ⟨_, rfl, ?_⟩; have n0_ := Aside0.mk (Kd.R_below (by (with_reducible repeat (first | apply Kd.R_alloc | apply Kd.R_drewN | apply Kd.R_drew)); exact HO429.out) hb); have n1_ := Aside0.mk (Kd.R_below (by (with_reducible repeat (first | apply Kd.R_alloc | apply Kd.R_drewN | apply Kd.R_drew)); exact HO432.out) hb); have n2_ := Aside0.mk (Kd.R_below (by (with_reducible repeat (first | apply Kd.R_alloc | apply Kd.R_drewN | apply Kd.R_drew)); exact HO436.out) hb); have n3_ := Aside0.mk (Kd.R_below (by (with_reducible repeat (first | apply Kd.R_alloc | apply Kd.R_drewN | apply Kd.R_drew)); exact HO441.out) hb); have n4_ := Aside0.mk (Kd.R_below (by (with_reducible repeat (first | apply Kd.R_alloc | apply Kd.R_drewN | apply Kd.R_drew)); exact HO445.out) hb); have n5_ := Aside0.mk (blk_below (g := gb422) (o := .cells #[.string a1_0, .string a1_1] 26 (0, 0)) (by (with_reducible repeat (first | refine blk_drewN ?_ _ | refine blk_drew ?_ | refine blk_alloc ?_ _)); exact BK422.out) hb); have n6_ := Aside0.mk (below_step (by repeat (first | (with_reducible first | exact HB.out | apply below_alloc | apply pw_below_drewN | apply below_drew1 | refine below_set ?_ GE422.out) | exact HB.out)) hb); clear HO429; clear HO432; clear HO436; clear HO441; clear HO445; clear BK422; clear HB; have HO429 := n0_; have HO432 := n1_; have HO436 := n2_; have HO441 := n3_; have HO445 := n4_; have BK422 := n5_; have HB := n6_; clear n0_ n1_ n2_ n3_ n4_ n5_ n6_; (try clear hb); (try clear hb2); (try clear hk); (try clear hi); have hcz29_0 : w28.cell? ⟨gb422, 0, none⟩ = some (.string a1_0) := (blk_cell BK422.out 0).trans rfl; have hcz29_1 : w28.cell? ⟨gb422, 1, none⟩ = some (.string a1_1) := (blk_cell BK422.out 1).trans rfl; have hfz29_0 := blk_frozen BK422.out 0; have hfz29_1 := blk_frozen BK422.out 1) | ((with_reducible refine gate_callee (f := 20) rfl ?_); refine goesL_ (some 63) rfl rfl Try.func20 (by kernel_rfl) rfl #[.slice A0 l0.length c0, .string a1_0] rfl (by (try simp only [List.map_toArray, List.map_cons, List.map_nil]); first | done | rfl | (simp only [List.length_drop, List.length_take]; rfl)) ?_; (with_reducible refine (undercroftref13_Get.calls k _ _ l0 a1_0 t448 t449 _ ?side1 ?side2 A11.out).mono ?_); (case side1 => repeat (first | exact (Kd.C_below HR0.out HB.out) | (with_reducible refine Kd.C_alloc ?_ _) | (with_reducible refine Kd.C_drewN ?_ _) | (with_reducible refine Kd.C_drew ?_))); (case side2 => exact HC0.out); rintro e w30 ⟨rfl, hb⟩; refine ⟨_, rfl, ?_⟩; have n0_ := Aside0.mk (Kd.R_below (by (with_reducible repeat (first | apply Kd.R_alloc | apply Kd.R_drewN | apply Kd.R_drew)); exact HO429.out) hb); have n1_ := Aside0.mk (Kd.R_below (by (with_reducible repeat (first | apply Kd.R_alloc | apply Kd.R_drewN | apply Kd.R_drew)); exact HO432.out) hb); have n2_ := Aside0.mk (Kd.R_below (by (with_reducible repeat (first | apply Kd.R_alloc | apply Kd.R_drewN | apply Kd.R_drew)); exact HO436.out) hb); have n3_ := Aside0.mk (Kd.R_below (by (with_reducible repeat (first | apply Kd.R_alloc | apply Kd.R_drewN | apply Kd.R_drew)); exact HO441.out) hb); have n4_ := Aside0.mk (Kd.R_below (by (with_reducible repeat (first | apply Kd.R_alloc | apply Kd.R_drewN | apply Kd.R_drew)); exact HO445.out) hb); have n5_ := Aside0.mk (blk_below (g := gb422) (o := .cells #[.string a1_0, .string a1_1] 26 (0, 0)) (by (with_reducible repeat (first | refine blk_drewN ?_ _ | refine blk_drew ?_ | refine blk_alloc ?_ _)); exact BK422.out) hb); have n6_ := Aside0.mk (below_step (by repeat (first | (with_reducible first | exact HB.out | apply below_alloc | apply pw_below_drewN | apply below_drew1 | refine below_set ?_ GE422.out) | exact HB.out)) hb); clear HO429; clear HO432; clear HO436; clear HO441; clear HO445; clear BK422; clear HB; have HO429 := n0_; have HO432 := n1_; have HO436 := n2_; have HO441 := n3_; have HO445 := n4_; have BK422 := n5_; have HB := n6_; clear n0_ n1_ n2_ n3_ n4_ n5_ n6_; (try clear hb); (try clear hb2); (try clear hk); (try clear hi)))
      (try simp only [Act.put, List.setIfInBounds_toArray, List.set_cons_zero, List.set_cons_succ])
      go_cut [18] (fun v18 wc => ∃ (kq : Nat) (x18_11 : Bool), v18 = .bool x18_11 ∧ Aside0 (undercroftlaw13_AttrTurns.j0 kq l0 y427 t430 t438 x18_11 = some r) ∧ Aside0 (kq ≤ k) ∧ Aside0 (Kd.R k26 26 wc w.heap.size (fun k_ => some k_ ≠ (v431 : Value).ownBlock ∧ some k_ ≠ (v440 : Value).ownBlock ∧ k_ ≠ gb422) (.slice Ao19 y427.length co19) y427) ∧ Aside0 (Kd.R k26 26 wc w.heap.size (fun k_ => some k_ ≠ ((.slice Ao19 y427.length co19) : Value).ownBlock ∧ some k_ ≠ (v440 : Value).ownBlock ∧ k_ ≠ gb422) v431 t430) ∧ Aside0 (Kd.R k26 26 wc w.heap.size (fun k_ => some k_ ≠ ((.slice Ao19 y427.length co19) : Value).ownBlock ∧ some k_ ≠ (v431 : Value).ownBlock ∧ k_ ≠ gb422) v440 t438) ∧ Aside0 (wc.heap[gb422]? = some (.cells #[.string a1_0, .string a1_1] 26 (0, 0))) ∧ Aside0 (Below w.heap.size w wc))
      case first =>
        have H := HC12.out
        clear HC12
        by_cases c31 : t433 = t437
        · rw [if_pos c31] at H
          have c31b0 : (t433 == t437) = true := beq_iff_eq.mpr c31
          have c31b1 : (t433 != t437) = false := bne_eq_false_iff_eq.mpr c31
          clear c31
          (first | rw [c31b0] | (simp only [i64_w, i32_w]; rw [c31b0]) | skip)
          replace H := Option.bind_eq_some_iff.mp H
          obtain ⟨t450, A320, H⟩ := H
          replace H : (if t450 = true then (if t439 = t443 then ((undercroftref13_Same.f k t438 t442).bind fun t451 => (if t451 = true then (if t446.toList = t448.toList then (undercroftlaw13_AttrTurns.j0 k l0 y427 t430 t438 (t447 == t449)) else (undercroftlaw13_AttrTurns.j0 k l0 y427 t430 t438 false)) else (undercroftlaw13_AttrTurns.j0 k l0 y427 t430 t438 false))) else (undercroftlaw13_AttrTurns.j0 k l0 y427 t430 t438 false)) else (undercroftlaw13_AttrTurns.j0 k l0 y427 t430 t438 false)) = some r := H
          have A32 := Aside0.mk A320
          clear A320
          by_cases c33 : t450 = true
          · subst c33
            have H1 : (if t439 = t443 then ((undercroftref13_Same.f k t438 t442).bind fun t451 => (if t451 = true then (if t446.toList = t448.toList then (undercroftlaw13_AttrTurns.j0 k l0 y427 t430 t438 (t447 == t449)) else (undercroftlaw13_AttrTurns.j0 k l0 y427 t430 t438 false)) else (undercroftlaw13_AttrTurns.j0 k l0 y427 t430 t438 false))) else (undercroftlaw13_AttrTurns.j0 k l0 y427 t430 t438 false)) = some r := by rw [if_pos rfl] at H; exact H
            clear H
            have H := H1
            clear H1
            by_cases c34 : t439 = t443
            · rw [if_pos c34] at H
              have c34b0 : (t439 == t443) = true := beq_iff_eq.mpr c34
              have c34b1 : (t439 != t443) = false := bne_eq_false_iff_eq.mpr c34
              clear c34
              replace H := Option.bind_eq_some_iff.mp H
              obtain ⟨t451, A350, H⟩ := H
              replace H : (if t451 = true then (if t446.toList = t448.toList then (undercroftlaw13_AttrTurns.j0 k l0 y427 t430 t438 (t447 == t449)) else (undercroftlaw13_AttrTurns.j0 k l0 y427 t430 t438 false)) else (undercroftlaw13_AttrTurns.j0 k l0 y427 t430 t438 false)) = some r := H
              have A35 := Aside0.mk A350
              clear A350
              by_cases c36 : t451 = true
              · subst c36
                have H1 : (if t446.toList = t448.toList then (undercroftlaw13_AttrTurns.j0 k l0 y427 t430 t438 (t447 == t449)) else (undercroftlaw13_AttrTurns.j0 k l0 y427 t430 t438 false)) = some r := by rw [if_pos rfl] at H; exact H
                clear H
                have H := H1
                clear H1
                by_cases c37 : t446.toList = t448.toList
                · rw [if_pos c37] at H
                  have c37b0 : (t446.toList == t448.toList) = true := beq_iff_eq.mpr c37
                  have c37b1 : (t446.toList != t448.toList) = false := bne_eq_false_iff_eq.mpr c37
                  clear c37
                  have H' := Aside0.mk H
                  clear H
                  obtain ⟨Ao38, co38, eo38⟩ := Kd.R_slice HO432.out
                  subst eo38
                  obtain ⟨Ao39, co39, eo39⟩ := Kd.R_slice HO436.out
                  subst eo39
                  go_wp2_with (first | (go_at_call 15; (with_reducible refine (undercroftref13_Same.calls k _ _ t430 _ _ t434 true _ ?side1 ?side2 ?side3 ?side4 A32.out).mono ?_); (case side1 => repeat (first | exact (Kd.R_reads' HO432.out).2.2 | (with_reducible refine Kd.C_alloc ?_ _) | (with_reducible refine Kd.C_drewN ?_ _) | (with_reducible refine Kd.C_drew ?_))); (case side2 => exact (Kd.R_reads' HO432.out).2.1); (case side3 => repeat (first | exact (Kd.R_reads' HO436.out).2.2 | (with_reducible refine Kd.C_alloc ?_ _) | (with_reducible refine Kd.C_drewN ?_ _) | (with_reducible refine Kd.C_drew ?_))); (case side4 => exact (Kd.R_reads' HO436.out).2.1); rintro e w' ⟨rfl, ⟨nd, rfl⟩⟩; obtain ⟨Ao40, co40, eo40⟩ := Kd.R_slice HO441.out; subst eo40; obtain ⟨Ao41, co41, eo41⟩ := Kd.R_slice HO445.out; subst eo41) | (go_at_call 15; (with_reducible refine (undercroftref13_Same.calls k _ _ t438 _ _ t442 true _ ?side1 ?side2 ?side3 ?side4 A35.out).mono ?_); (case side1 => repeat (first | exact (Kd.R_reads' HO441.out).2.2 | (with_reducible refine Kd.C_alloc ?_ _) | (with_reducible refine Kd.C_drewN ?_ _) | (with_reducible refine Kd.C_drew ?_))); (case side2 => exact (Kd.R_reads' HO441.out).2.1); (case side3 => repeat (first | exact (Kd.R_reads' HO445.out).2.2 | (with_reducible refine Kd.C_alloc ?_ _) | (with_reducible refine Kd.C_drewN ?_ _) | (with_reducible refine Kd.C_drew ?_))); (case side4 => exact (Kd.R_reads' HO445.out).2.1); rintro e w' ⟨rfl, ⟨nd, rfl⟩⟩))
                  go_meet
                  case rel => exact ⟨_, ((t447 == t449)), (by first | rfl | (simp; done) | (simp [*]; done)), H', ⟨by first | omega | exact Nat.le_refl _⟩, ⟨by (with_reducible repeat (first | apply Kd.R_alloc | apply Kd.R_drewN | apply Kd.R_drew)); exact Kd.R_mono HO429.out (fun _ hk => ⟨hk.1.1.1.2, ⟨hk.1.2, hk.1.1.1.1⟩⟩)⟩, ⟨by (with_reducible repeat (first | apply Kd.R_alloc | apply Kd.R_drewN | apply Kd.R_drew)); exact Kd.R_mono HO432.out (fun _ hk => ⟨hk.1.1.1.1.2, ⟨hk.1.2, hk.1.1.1.2⟩⟩)⟩, ⟨by (with_reducible repeat (first | apply Kd.R_alloc | apply Kd.R_drewN | apply Kd.R_drew)); exact Kd.R_mono HO441.out (fun _ hk => ⟨hk.1.1.1.1.2, ⟨hk.1.1.1.2, hk.1.2⟩⟩)⟩, ⟨by (with_reducible repeat (first | refine blk_drewN ?_ _ | refine blk_drew ?_ | refine blk_alloc ?_ _)); exact BK422.out⟩, ⟨by repeat (first | (with_reducible first | exact HB.out | apply below_alloc | apply pw_below_drewN | apply below_drew1 | refine below_set ?_ GE422.out) | exact HB.out)⟩⟩
                · rw [if_neg c37] at H
                  have c37b0 : (t446.toList == t448.toList) = false := beq_eq_false_iff_ne.mpr c37
                  have c37b1 : (t446.toList != t448.toList) = true := bne_iff_ne.mpr c37
                  have H' := Aside0.mk H
                  clear H
                  obtain ⟨Ao42, co42, eo42⟩ := Kd.R_slice HO432.out
                  subst eo42
                  obtain ⟨Ao43, co43, eo43⟩ := Kd.R_slice HO436.out
                  subst eo43
                  go_wp2_with (first | (go_at_call 15; (with_reducible refine (undercroftref13_Same.calls k _ _ t430 _ _ t434 true _ ?side1 ?side2 ?side3 ?side4 A32.out).mono ?_); (case side1 => repeat (first | exact (Kd.R_reads' HO432.out).2.2 | (with_reducible refine Kd.C_alloc ?_ _) | (with_reducible refine Kd.C_drewN ?_ _) | (with_reducible refine Kd.C_drew ?_))); (case side2 => exact (Kd.R_reads' HO432.out).2.1); (case side3 => repeat (first | exact (Kd.R_reads' HO436.out).2.2 | (with_reducible refine Kd.C_alloc ?_ _) | (with_reducible refine Kd.C_drewN ?_ _) | (with_reducible refine Kd.C_drew ?_))); (case side4 => exact (Kd.R_reads' HO436.out).2.1); rintro e w' ⟨rfl, ⟨nd, rfl⟩⟩; obtain ⟨Ao44, co44, eo44⟩ := Kd.R_slice HO441.out; subst eo44; obtain ⟨Ao45, co45, eo45⟩ := Kd.R_slice HO445.out; subst eo45) | (go_at_call 15; (with_reducible refine (undercroftref13_Same.calls k _ _ t438 _ _ t442 true _ ?side1 ?side2 ?side3 ?side4 A35.out).mono ?_); (case side1 => repeat (first | exact (Kd.R_reads' HO441.out).2.2 | (with_reducible refine Kd.C_alloc ?_ _) | (with_reducible refine Kd.C_drewN ?_ _) | (with_reducible refine Kd.C_drew ?_))); (case side2 => exact (Kd.R_reads' HO441.out).2.1); (case side3 => repeat (first | exact (Kd.R_reads' HO445.out).2.2 | (with_reducible refine Kd.C_alloc ?_ _) | (with_reducible refine Kd.C_drewN ?_ _) | (with_reducible refine Kd.C_drew ?_))); (case side4 => exact (Kd.R_reads' HO445.out).2.1); rintro e w' ⟨rfl, ⟨nd, rfl⟩⟩))
                  go_meet
                  case rel => exact ⟨_, (false), (by first | rfl | (simp; done) | (simp [*]; done)), H', ⟨by first | omega | exact Nat.le_refl _⟩, ⟨by (with_reducible repeat (first | apply Kd.R_alloc | apply Kd.R_drewN | apply Kd.R_drew)); exact Kd.R_mono HO429.out (fun _ hk => ⟨hk.1.1.1.2, ⟨hk.1.2, hk.1.1.1.1⟩⟩)⟩, ⟨by (with_reducible repeat (first | apply Kd.R_alloc | apply Kd.R_drewN | apply Kd.R_drew)); exact Kd.R_mono HO432.out (fun _ hk => ⟨hk.1.1.1.1.2, ⟨hk.1.2, hk.1.1.1.2⟩⟩)⟩, ⟨by (with_reducible repeat (first | apply Kd.R_alloc | apply Kd.R_drewN | apply Kd.R_drew)); exact Kd.R_mono HO441.out (fun _ hk => ⟨hk.1.1.1.1.2, ⟨hk.1.1.1.2, hk.1.2⟩⟩)⟩, ⟨by (with_reducible repeat (first | refine blk_drewN ?_ _ | refine blk_drew ?_ | refine blk_alloc ?_ _)); exact BK422.out⟩, ⟨by repeat (first | (with_reducible first | exact HB.out | apply below_alloc | apply pw_below_drewN | apply below_drew1 | refine below_set ?_ GE422.out) | exact HB.out)⟩⟩
              · replace c36 := Bool.eq_false_iff.mpr c36
                subst c36
                have H1 : (undercroftlaw13_AttrTurns.j0 k l0 y427 t430 t438 false) = some r := by rw [if_neg (show ¬ (false = true) by decide)] at H; exact H
                clear H
                have H := H1
                clear H1
                have H' := Aside0.mk H
                clear H
                obtain ⟨Ao46, co46, eo46⟩ := Kd.R_slice HO432.out
                subst eo46
                obtain ⟨Ao47, co47, eo47⟩ := Kd.R_slice HO436.out
                subst eo47
                go_wp2_with (first | (go_at_call 15; (with_reducible refine (undercroftref13_Same.calls k _ _ t430 _ _ t434 true _ ?side1 ?side2 ?side3 ?side4 A32.out).mono ?_); (case side1 => repeat (first | exact (Kd.R_reads' HO432.out).2.2 | (with_reducible refine Kd.C_alloc ?_ _) | (with_reducible refine Kd.C_drewN ?_ _) | (with_reducible refine Kd.C_drew ?_))); (case side2 => exact (Kd.R_reads' HO432.out).2.1); (case side3 => repeat (first | exact (Kd.R_reads' HO436.out).2.2 | (with_reducible refine Kd.C_alloc ?_ _) | (with_reducible refine Kd.C_drewN ?_ _) | (with_reducible refine Kd.C_drew ?_))); (case side4 => exact (Kd.R_reads' HO436.out).2.1); rintro e w' ⟨rfl, ⟨nd, rfl⟩⟩; obtain ⟨Ao48, co48, eo48⟩ := Kd.R_slice HO441.out; subst eo48; obtain ⟨Ao49, co49, eo49⟩ := Kd.R_slice HO445.out; subst eo49) | (go_at_call 15; (with_reducible refine (undercroftref13_Same.calls k _ _ t438 _ _ t442 false _ ?side1 ?side2 ?side3 ?side4 A35.out).mono ?_); (case side1 => repeat (first | exact (Kd.R_reads' HO441.out).2.2 | (with_reducible refine Kd.C_alloc ?_ _) | (with_reducible refine Kd.C_drewN ?_ _) | (with_reducible refine Kd.C_drew ?_))); (case side2 => exact (Kd.R_reads' HO441.out).2.1); (case side3 => repeat (first | exact (Kd.R_reads' HO445.out).2.2 | (with_reducible refine Kd.C_alloc ?_ _) | (with_reducible refine Kd.C_drewN ?_ _) | (with_reducible refine Kd.C_drew ?_))); (case side4 => exact (Kd.R_reads' HO445.out).2.1); rintro e w' ⟨rfl, ⟨nd, rfl⟩⟩))
                go_meet
                case rel => exact ⟨_, (false), (by first | rfl | (simp; done) | (simp [*]; done)), H', ⟨by first | omega | exact Nat.le_refl _⟩, ⟨by (with_reducible repeat (first | apply Kd.R_alloc | apply Kd.R_drewN | apply Kd.R_drew)); exact Kd.R_mono HO429.out (fun _ hk => ⟨hk.1.1.1.2, ⟨hk.1.2, hk.1.1.1.1⟩⟩)⟩, ⟨by (with_reducible repeat (first | apply Kd.R_alloc | apply Kd.R_drewN | apply Kd.R_drew)); exact Kd.R_mono HO432.out (fun _ hk => ⟨hk.1.1.1.1.2, ⟨hk.1.2, hk.1.1.1.2⟩⟩)⟩, ⟨by (with_reducible repeat (first | apply Kd.R_alloc | apply Kd.R_drewN | apply Kd.R_drew)); exact Kd.R_mono HO441.out (fun _ hk => ⟨hk.1.1.1.1.2, ⟨hk.1.1.1.2, hk.1.2⟩⟩)⟩, ⟨by (with_reducible repeat (first | refine blk_drewN ?_ _ | refine blk_drew ?_ | refine blk_alloc ?_ _)); exact BK422.out⟩, ⟨by repeat (first | (with_reducible first | exact HB.out | apply below_alloc | apply pw_below_drewN | apply below_drew1 | refine below_set ?_ GE422.out) | exact HB.out)⟩⟩
            · rw [if_neg c34] at H
              have c34b0 : (t439 == t443) = false := beq_eq_false_iff_ne.mpr c34
              have c34b1 : (t439 != t443) = true := bne_iff_ne.mpr c34
              have H' := Aside0.mk H
              clear H
              obtain ⟨Ao50, co50, eo50⟩ := Kd.R_slice HO432.out
              subst eo50
              obtain ⟨Ao51, co51, eo51⟩ := Kd.R_slice HO436.out
              subst eo51
              go_wp2_with (first | (go_at_call 15; (with_reducible refine (undercroftref13_Same.calls k _ _ t430 _ _ t434 true _ ?side1 ?side2 ?side3 ?side4 A32.out).mono ?_); (case side1 => repeat (first | exact (Kd.R_reads' HO432.out).2.2 | (with_reducible refine Kd.C_alloc ?_ _) | (with_reducible refine Kd.C_drewN ?_ _) | (with_reducible refine Kd.C_drew ?_))); (case side2 => exact (Kd.R_reads' HO432.out).2.1); (case side3 => repeat (first | exact (Kd.R_reads' HO436.out).2.2 | (with_reducible refine Kd.C_alloc ?_ _) | (with_reducible refine Kd.C_drewN ?_ _) | (with_reducible refine Kd.C_drew ?_))); (case side4 => exact (Kd.R_reads' HO436.out).2.1); rintro e w' ⟨rfl, ⟨nd, rfl⟩⟩))
              go_meet
              case rel => exact ⟨_, (false), (by first | rfl | (simp; done) | (simp [*]; done)), H', ⟨by first | omega | exact Nat.le_refl _⟩, ⟨by (with_reducible repeat (first | apply Kd.R_alloc | apply Kd.R_drewN | apply Kd.R_drew)); exact Kd.R_mono HO429.out (fun _ hk => ⟨hk.1.1.1.2, ⟨hk.1.2, hk.1.1.1.1⟩⟩)⟩, ⟨by (with_reducible repeat (first | apply Kd.R_alloc | apply Kd.R_drewN | apply Kd.R_drew)); exact Kd.R_mono HO432.out (fun _ hk => ⟨hk.1.1.1.1.2, ⟨hk.1.2, hk.1.1.1.2⟩⟩)⟩, ⟨by (with_reducible repeat (first | apply Kd.R_alloc | apply Kd.R_drewN | apply Kd.R_drew)); exact Kd.R_mono HO441.out (fun _ hk => ⟨hk.1.1.1.1.2, ⟨hk.1.1.1.2, hk.1.2⟩⟩)⟩, ⟨by (with_reducible repeat (first | refine blk_drewN ?_ _ | refine blk_drew ?_ | refine blk_alloc ?_ _)); exact BK422.out⟩, ⟨by repeat (first | (with_reducible first | exact HB.out | apply below_alloc | apply pw_below_drewN | apply below_drew1 | refine below_set ?_ GE422.out) | exact HB.out)⟩⟩
          · replace c33 := Bool.eq_false_iff.mpr c33
            subst c33
            have H1 : (undercroftlaw13_AttrTurns.j0 k l0 y427 t430 t438 false) = some r := by rw [if_neg (show ¬ (false = true) by decide)] at H; exact H
            clear H
            have H := H1
            clear H1
            have H' := Aside0.mk H
            clear H
            obtain ⟨Ao52, co52, eo52⟩ := Kd.R_slice HO432.out
            subst eo52
            obtain ⟨Ao53, co53, eo53⟩ := Kd.R_slice HO436.out
            subst eo53
            go_wp2_with (first | (go_at_call 15; (with_reducible refine (undercroftref13_Same.calls k _ _ t430 _ _ t434 false _ ?side1 ?side2 ?side3 ?side4 A32.out).mono ?_); (case side1 => repeat (first | exact (Kd.R_reads' HO432.out).2.2 | (with_reducible refine Kd.C_alloc ?_ _) | (with_reducible refine Kd.C_drewN ?_ _) | (with_reducible refine Kd.C_drew ?_))); (case side2 => exact (Kd.R_reads' HO432.out).2.1); (case side3 => repeat (first | exact (Kd.R_reads' HO436.out).2.2 | (with_reducible refine Kd.C_alloc ?_ _) | (with_reducible refine Kd.C_drewN ?_ _) | (with_reducible refine Kd.C_drew ?_))); (case side4 => exact (Kd.R_reads' HO436.out).2.1); rintro e w' ⟨rfl, ⟨nd, rfl⟩⟩))
            go_meet
            case rel => exact ⟨_, (false), (by first | rfl | (simp; done) | (simp [*]; done)), H', ⟨by first | omega | exact Nat.le_refl _⟩, ⟨by (with_reducible repeat (first | apply Kd.R_alloc | apply Kd.R_drewN | apply Kd.R_drew)); exact Kd.R_mono HO429.out (fun _ hk => ⟨hk.1.1.1.2, ⟨hk.1.2, hk.1.1.1.1⟩⟩)⟩, ⟨by (with_reducible repeat (first | apply Kd.R_alloc | apply Kd.R_drewN | apply Kd.R_drew)); exact Kd.R_mono HO432.out (fun _ hk => ⟨hk.1.1.1.1.2, ⟨hk.1.2, hk.1.1.1.2⟩⟩)⟩, ⟨by (with_reducible repeat (first | apply Kd.R_alloc | apply Kd.R_drewN | apply Kd.R_drew)); exact Kd.R_mono HO441.out (fun _ hk => ⟨hk.1.1.1.1.2, ⟨hk.1.1.1.2, hk.1.2⟩⟩)⟩, ⟨by (with_reducible repeat (first | refine blk_drewN ?_ _ | refine blk_drew ?_ | refine blk_alloc ?_ _)); exact BK422.out⟩, ⟨by repeat (first | (with_reducible first | exact HB.out | apply below_alloc | apply pw_below_drewN | apply below_drew1 | refine below_set ?_ GE422.out) | exact HB.out)⟩⟩
        · rw [if_neg c31] at H
          have c31b0 : (t433 == t437) = false := beq_eq_false_iff_ne.mpr c31
          have c31b1 : (t433 != t437) = true := bne_iff_ne.mpr c31
          (first | rw [c31b0] | (simp only [i64_w, i32_w]; rw [c31b0]) | skip)
          have H' := Aside0.mk H
          clear H
          go_wp2
          go_meet
          case rel => exact ⟨_, (false), (by first | rfl | (simp; done) | (simp [*]; done)), H', ⟨by first | omega | exact Nat.le_refl _⟩, ⟨by (with_reducible repeat (first | apply Kd.R_alloc | apply Kd.R_drewN | apply Kd.R_drew)); exact Kd.R_mono HO429.out (fun _ hk => ⟨hk.1.1.1.2, ⟨hk.1.2, hk.1.1.1.1⟩⟩)⟩, ⟨by (with_reducible repeat (first | apply Kd.R_alloc | apply Kd.R_drewN | apply Kd.R_drew)); exact Kd.R_mono HO432.out (fun _ hk => ⟨hk.1.1.1.1.2, ⟨hk.1.2, hk.1.1.1.2⟩⟩)⟩, ⟨by (with_reducible repeat (first | apply Kd.R_alloc | apply Kd.R_drewN | apply Kd.R_drew)); exact Kd.R_mono HO441.out (fun _ hk => ⟨hk.1.1.1.1.2, ⟨hk.1.1.1.2, hk.1.2⟩⟩)⟩, ⟨by (with_reducible repeat (first | refine blk_drewN ?_ _ | refine blk_drew ?_ | refine blk_alloc ?_ _)); exact BK422.out⟩, ⟨by repeat (first | (with_reducible first | exact HB.out | apply below_alloc | apply pw_below_drewN | apply below_drew1 | refine below_set ?_ GE422.out) | exact HB.out)⟩⟩
      case rest =>
        clear HC12
        try clear c1
        try clear c2
        try clear p2
        try clear c3
        try clear c4
        try clear c5
        try clear c13
        try clear c14
        try clear c16
        try clear c17
        try clear c18
        try clear c19
        try clear c20
        try clear c31
        try clear c31b0
        try clear c31b1
        try clear c33
        try clear c34
        try clear c34b0
        try clear c34b1
        try clear c36
        try clear c37
        try clear c37b0
        try clear c37b1
        try clear hcz18_0
        try clear hcz18_1
        try clear hcz21_0
        try clear hcz21_1
        try clear hcz23_0
        try clear hcz23_1
        try clear hcz25_0
        try clear hcz25_1
        try clear hcz27_0
        try clear hcz27_1
        try clear hcz29_0
        try clear hcz29_1
        try clear hfz18_0
        try clear hfz18_1
        try clear hfz21_0
        try clear hfz21_1
        try clear hfz23_0
        try clear hfz23_1
        try clear hfz25_0
        try clear hfz25_1
        try clear hfz27_0
        try clear hfz27_1
        try clear hfz29_0
        try clear hfz29_1
        obtain ⟨kq, x18_11, rfl, HA, HJ11, HO_5, HO_6, HO_10, BK422, HB⟩ := hcut
        cases kq with
        | zero => exact absurd HA.out (by intro h_; cases h_)
        | succ kj11 =>
          have H := HA.out
          clear HA
          simp only [undercroftlaw13_AttrTurns.j0] at H
          have H' := Aside0.mk H
          clear H
          go_wp2
          go_loopg [19] kj11 (fun kq v19 w' => ∃ (x6_2 : List (S26)) (x19_2 : Int) (x423000_2 : ByteArray) (x423001_2 : ByteArray), v19 = .int .i64 x19_2 ∧ Aside0 (undercroftlaw13_AttrTurns.l0 kq l0 y427 x6_2 t438 x18_11 x19_2 = some r) ∧ Aside0 (kq ≤ kj11) ∧ Aside0 (Kd.R k26 26 w' w.heap.size (fun k_ => some k_ ≠ (v431 : Value).ownBlock ∧ some k_ ≠ (v440 : Value).ownBlock ∧ k_ ≠ gb422) (.slice Ao19 y427.length co19) y427) ∧ Aside0 (Kd.R k26 26 w' w.heap.size (fun k_ => some k_ ≠ ((.slice Ao19 y427.length co19) : Value).ownBlock ∧ some k_ ≠ (v440 : Value).ownBlock ∧ k_ ≠ gb422) v431 x6_2) ∧ Aside0 (Kd.R k26 26 w' w.heap.size (fun k_ => some k_ ≠ ((.slice Ao19 y427.length co19) : Value).ownBlock ∧ some k_ ≠ (v431 : Value).ownBlock ∧ k_ ≠ gb422) v440 t438) ∧ Aside0 (w'.heap[gb422]? = some (.cells #[.string x423000_2, .string x423001_2] 26 (0, 0))) ∧ Aside0 (Below w.heap.size w w'))
          case atStart => exact ⟨(t430), (0), (a1_0), (a1_1), (by first | rfl | (simp; done) | (simp [*]; done)), H', ⟨Nat.le_refl _⟩, ⟨by (with_reducible repeat (first | apply Kd.R_alloc | apply Kd.R_drewN | apply Kd.R_drew)); exact HO_5.out⟩, ⟨by (with_reducible repeat (first | apply Kd.R_alloc | apply Kd.R_drewN | apply Kd.R_drew)); exact HO_6.out⟩, ⟨by (with_reducible repeat (first | apply Kd.R_alloc | apply Kd.R_drewN | apply Kd.R_drew)); exact HO_10.out⟩, ⟨by (with_reducible repeat (first | refine blk_drewN ?_ _ | refine blk_drew ?_ | refine blk_alloc ?_ _)); exact BK422.out⟩, ⟨by repeat (first | (with_reducible first | exact HB.out | apply below_alloc | apply pw_below_drewN | apply below_drew1 | refine below_set ?_ GE422.out) | exact HB.out)⟩⟩
          case round =>
            clear H'
            try clear c1
            try clear c2
            try clear p2
            try clear c3
            try clear c4
            try clear c5
            try clear c13
            try clear c14
            try clear c16
            try clear c17
            try clear c18
            try clear c19
            try clear c20
            try clear c31
            try clear c31b0
            try clear c31b1
            try clear c33
            try clear c34
            try clear c34b0
            try clear c34b1
            try clear c36
            try clear c37
            try clear c37b0
            try clear c37b1
            try clear hcz18_0
            try clear hcz18_1
            try clear hcz21_0
            try clear hcz21_1
            try clear hcz23_0
            try clear hcz23_1
            try clear hcz25_0
            try clear hcz25_1
            try clear hcz27_0
            try clear hcz27_1
            try clear hcz29_0
            try clear hcz29_1
            try clear hfz18_0
            try clear hfz18_1
            try clear hfz21_0
            try clear hfz21_1
            try clear hfz23_0
            try clear hfz23_1
            try clear hfz25_0
            try clear hfz25_1
            try clear hfz27_0
            try clear hfz27_1
            try clear hfz29_0
            try clear hfz29_1
            try clear p2
            obtain ⟨x6_2, x19_2, x423000_2, x423001_2, rfl, HA, HK2, HO_5, HO_6, HO_10, BK422, HB⟩ := hrel
            cases gk with
            | zero => exact absurd HA.out (by intro h_; cases h_)
            | succ k2 =>
              have H := HA.out
              clear HA
              simp only [undercroftlaw13_AttrTurns.l0] at H
              by_cases c54 : x19_2 < (x6_2.length : Int)
              · rw [if_pos c54] at H
                have c54b0 : decide (x19_2 < (x6_2.length : Int)) = true := decide_eq_true c54
                clear c54
                by_cases c55 : 0 ≤ x19_2
                · rw [if_pos c55] at H
                  have c55b0 : decide (0 ≤ x19_2) = true := decide_eq_true c55
                  clear c55
                  obtain ⟨y452, hy452⟩ : ∃ y_ : List (S26), y_ = (x6_2.set (x19_2 : Int).toNat (⟨(⟨#[]⟩ : ByteArray), (⟨#[]⟩ : ByteArray)⟩ : S26)) := ⟨_, rfl⟩
                  replace H : (undercroftlaw13_AttrTurns.l0 k2 l0 y427 y452 t438 x18_11 (wrap64 (x19_2 + 1))) = some r := by first | (rw [hy452]; with_reducible exact H) | (have H2_ := (Option.bind_some _ _).symm.trans H; rw [hy452]; with_reducible exact H2_) | (have H2_ := (Option.bind_some _ _).symm.trans H; with_reducible exact H2_) | with_reducible exact H | (rw [hy452]; exact H) | exact H
                  have Ny452 := Aside0.mk hy452
                  clear hy452
                  have H' := Aside0.mk H
                  clear H
                  obtain ⟨Ao57, co57, eo57⟩ := Kd.R_slice HO_6.out
                  subst eo57
                  have p56 : 0 ≤ (x19_2 : Int) := of_decide_eq_true (by first | (with_reducible assumption) | assumption)
                  have q56 : (x19_2 : Int) < ((x6_2.length : Int) : Int) := of_decide_eq_true (by first | (with_reducible assumption) | assumption)
                  obtain ⟨go56, co56, eo56, gb56, gl56, cl56, HG56⟩ := Kd.R_form HO_6.out (by omega)
                  (first | cases eo56 | (injection eo56 with ea_ en_ ec_; (first | subst ea_ | (injection ea_ with ea_; subst ea_)); subst ec_; clear en_))
                  have GB56 := Aside0.mk gb56
                  have GG56 := Aside0.mk HG56
                  clear gb56 gl56 HG56
                  obtain ⟨ce56, hcl56, hM56, hcc56, hfr56⟩ := Kd.R_elem HO_6.out z26 (x19_2 : Int) p56 q56
                  obtain rfl := k26_openM hM56
                  have hx56_0 : wr.cell? ⟨go56, (x19_2 : Int).toNat * 2, none⟩ = some (.string ((rd_T26 x6_2 x19_2).f0)) := hcc56 0 _ rfl
                  have hx56_1 : wr.cell? ⟨go56, (x19_2 : Int).toNat * 2 + 1, none⟩ = some (.string ((rd_T26 x6_2 x19_2).f1)) := hcc56 1 _ rfl
                  have hf56_0 : wr.frozen? ⟨go56, (x19_2 : Int).toNat * 2, none⟩ = false := hfr56 0
                  have hf56_1 : wr.frozen? ⟨go56, (x19_2 : Int).toNat * 2 + 1, none⟩ = false := hfr56 1
                  clear hcl56 hcc56 hfr56 hM56
                  replace p56 := eq_true p56
                  replace q56 := eq_true q56
                  have HX58 := Aside0.mk (show Kd.R k26 26 wr w.heap.size (fun k_ => some k_ ≠ (.slice Ao19 y427.length co19 : Value).ownBlock ∧ some k_ ≠ (v440 : Value).ownBlock ∧ k_ ≠ gb422) (.slice (some ⟨go56, 0, none⟩) x6_2.length co57) x6_2 from (by (with_reducible repeat (first | apply Kd.R_alloc | apply Kd.R_drewN | apply Kd.R_drew)); exact HO_6.out))
                  obtain ⟨ce58, hcl58, hM58, hcc58, hfr58⟩ := Kd.R_elem HX58.out z26 (x19_2 : Int) (of_decide_eq_true (by first | (with_reducible assumption) | assumption)) (by have h_ : (x19_2 : Int) < ((x6_2.length : Int) : Int) := of_decide_eq_true (by first | (with_reducible assumption) | assumption); first | exact h_ | (have e_ := (Kd.R_reads' HO_6.out).1; omega) | simpa using h_)
                  obtain rfl := k26_openM hM58
                  have HP58 := Kd.R_seg HX58.out (x19_2 : Int) (of_decide_eq_true (by first | (with_reducible assumption) | assumption)) (by have h_ : (x19_2 : Int) < ((x6_2.length : Int) : Int) := of_decide_eq_true (by first | (with_reducible assumption) | assumption); first | exact h_ | (have e_ := (Kd.R_reads' HO_6.out).1; omega) | simpa using h_) (seg := [.string (⟨#[]⟩ : ByteArray), .string (⟨#[]⟩ : ByteArray)]) (j := 0) hcl58 hcc58 (show 2 ≤ 2 from by decide) (x' := (⟨(⟨#[]⟩ : ByteArray), (⟨#[]⟩ : ByteArray)⟩ : S26)) (k26_mkM _ _ _ (⟨(⟨#[]⟩ : ByteArray), (⟨#[]⟩ : ByteArray)⟩ : S26) ) (fun _ hk => hk)
                  have hx58_0 := hcc58 0 _ rfl
                  (try simp only [show (k26).sz = 2 from rfl, Nat.mul_one, Nat.add_zero] at hx58_0)
                  have hf58_0 := hfr58 0
                  (try simp only [show (k26).sz = 2 from rfl, Nat.mul_one, Nat.add_zero] at hf58_0)
                  have hx58_1 := hcc58 1 _ rfl
                  (try simp only [show (k26).sz = 2 from rfl, Nat.mul_one, Nat.add_zero] at hx58_1)
                  have hf58_1 := hfr58 1
                  (try simp only [show (k26).sz = 2 from rfl, Nat.mul_one, Nat.add_zero] at hf58_1)
                  clear hcl58 hcc58 hfr58 hM58
                  go_wp2_with (first | ((with_reducible refine gate_store (t := 26) (p := 103) rfl ?_); refine store_event (t := 26) (p := 103) (v := ?vo_w59) (w1 := ((wr.setCell ⟨go56, (x19_2 : Int).toNat * 2, none⟩ (.string (⟨#[]⟩ : ByteArray))).setCell ⟨go56, (x19_2 : Int).toNat * 2 + 1, none⟩ (.string (⟨#[]⟩ : ByteArray)))) ?hg ?ho ?hn ?hr ?_; (case ho => rfl); (case hg => rfl); (case hn => rfl); (case hr => first | (go_simp; done) | (go_simp; rfl)); intro w59 hw; have hg : wr.grownBy w59 (some go56) := (by rw [hw]; exact HP58.2); have hp_ : Kd.R k26 26 w59 w.heap.size (fun k_ => some k_ ≠ (.slice Ao19 y427.length co19 : Value).ownBlock ∧ some k_ ≠ (v440 : Value).ownBlock ∧ k_ ≠ gb422) (.slice (some ⟨go56, 0, none⟩) x6_2.length co57) y452 := (by rw [hw, Ny452.out]; exact HP58.1); clear HP58; have n0_ := Aside0.mk (Kd.R_after (v := (.slice (some ⟨go56, 0, none⟩) x6_2.length co57)) (v1 := (.slice (some ⟨go56, 0, none⟩) x6_2.length co57)) (ok := (fun k_ => some k_ ≠ (v440 : Value).ownBlock ∧ k_ ≠ gb422)) (by (with_reducible repeat (first | apply Kd.R_alloc | apply Kd.R_drewN | apply Kd.R_drew)); exact Kd.R_mono HO_5.out (fun _ hk => ⟨⟨hk.2.1, hk.2.2⟩, hk.1⟩)) hg (.inl rfl)); have n1_ := Aside0.mk (hp_); have n2_ := Aside0.mk (Kd.R_after (v := (.slice (some ⟨go56, 0, none⟩) x6_2.length co57)) (v1 := (.slice (some ⟨go56, 0, none⟩) x6_2.length co57)) (ok := (fun k_ => some k_ ≠ (.slice Ao19 y427.length co19 : Value).ownBlock ∧ k_ ≠ gb422)) (by (with_reducible repeat (first | apply Kd.R_alloc | apply Kd.R_drewN | apply Kd.R_drew)); exact Kd.R_mono HO_10.out (fun _ hk => ⟨⟨hk.1, hk.2.2⟩, hk.2.1⟩)) hg (.inl rfl)); have n3_ := Aside0.mk (blk_grown (g := gb422) (o := .cells #[.string x423000_2, .string x423001_2] 26 (0, 0)) (by (with_reducible repeat (first | refine blk_drewN ?_ _ | refine blk_drew ?_ | refine blk_alloc ?_ _)); exact BK422.out) hg (Kd.R_away HO_6.out (fun _ hk => hk.2.2))); have n4_ := Aside0.mk ((by rw [hw]; exact below_set (below_set (HB.out) GB56.out) GB56.out : Below w.heap.size w w59)); clear HO_5; clear HO_6; clear HO_10; clear BK422; clear HB; have HO_5 := n0_; have HO_6 := n1_; have HO_10 := n2_; have BK422 := n3_; have HB := n4_; clear n0_ n1_ n2_ n3_ n4_; clear hg hw hp_))
                  go_roundg k2
                  case measure => have := HJ11.out; have := HK2.out; omega
                  case rel => exact ⟨(y452), (wrap64 (x19_2 + 1)), (x423000_2), (x423001_2), (by first | rfl | (simp; done) | (simp [*]; done)), H', ⟨by have := HJ11.out; have := HK2.out; omega⟩, ⟨by (with_reducible repeat (first | apply Kd.R_alloc | apply Kd.R_drewN | apply Kd.R_drew)); exact Kd.R_mono HO_5.out (fun _ hk => ⟨hk.2, ⟨hk.1.1, hk.1.2⟩⟩)⟩, ⟨by (with_reducible repeat (first | apply Kd.R_alloc | apply Kd.R_drewN | apply Kd.R_drew)); exact HO_6.out⟩, ⟨by (with_reducible repeat (first | apply Kd.R_alloc | apply Kd.R_drewN | apply Kd.R_drew)); exact Kd.R_mono HO_10.out (fun _ hk => ⟨hk.1.1, ⟨hk.2, hk.1.2⟩⟩)⟩, ⟨by (with_reducible repeat (first | refine blk_drewN ?_ _ | refine blk_drew ?_ | refine blk_alloc ?_ _)); exact BK422.out⟩, ⟨by repeat (first | (with_reducible first | exact HB.out | apply below_alloc | apply pw_below_drewN | apply below_drew1 | refine below_set ?_ GE422.out) | exact HB.out)⟩⟩
                · rw [if_neg c55] at H
                  exact absurd H (by simp)
              · rw [if_neg c54] at H
                have c54b0 : decide (x19_2 < (x6_2.length : Int)) = false := decide_eq_false c54
                clear c54
                have H' := Aside0.mk H
                clear H
                obtain ⟨Ao60, co60, eo60⟩ := Kd.R_slice HO_6.out
                subst eo60
                go_wp2
                go_loopg [20] k2 (fun kq v20 w' => ∃ (x10_3 : List (S26)) (x20_3 : Int) (x423000_3 : ByteArray) (x423001_3 : ByteArray), v20 = .int .i64 x20_3 ∧ Aside0 (undercroftlaw13_AttrTurns.l1 kq l0 y427 x10_3 x18_11 x20_3 = some r) ∧ Aside0 (kq ≤ k2) ∧ Aside0 (Kd.R k26 26 w' w.heap.size (fun k_ => some k_ ≠ (v440 : Value).ownBlock ∧ k_ ≠ gb422) (.slice Ao19 y427.length co19) y427) ∧ Aside0 (Kd.R k26 26 w' w.heap.size (fun k_ => some k_ ≠ ((.slice Ao19 y427.length co19) : Value).ownBlock ∧ k_ ≠ gb422) v440 x10_3) ∧ Aside0 (w'.heap[gb422]? = some (.cells #[.string x423000_3, .string x423001_3] 26 (0, 0))) ∧ Aside0 (Below w.heap.size w w'))
                case atStart => exact ⟨(t438), (0), (x423000_2), (x423001_2), (by first | rfl | (simp; done) | (simp [*]; done)), H', ⟨Nat.le_refl _⟩, ⟨by (with_reducible repeat (first | apply Kd.R_alloc | apply Kd.R_drewN | apply Kd.R_drew)); exact Kd.R_mono HO_5.out (fun _ hk => ⟨hk.2.1, hk.2.2⟩)⟩, ⟨by (with_reducible repeat (first | apply Kd.R_alloc | apply Kd.R_drewN | apply Kd.R_drew)); exact Kd.R_mono HO_10.out (fun _ hk => ⟨hk.1, hk.2.2⟩)⟩, ⟨by (with_reducible repeat (first | refine blk_drewN ?_ _ | refine blk_drew ?_ | refine blk_alloc ?_ _)); exact BK422.out⟩, ⟨by repeat (first | (with_reducible first | exact HB.out | apply below_alloc | apply pw_below_drewN | apply below_drew1 | refine below_set ?_ GE422.out) | exact HB.out)⟩⟩
                case round =>
                  clear H'
                  try clear c1
                  try clear c2
                  try clear p2
                  try clear c3
                  try clear c4
                  try clear c5
                  try clear p5
                  try clear q5
                  try clear hx5
                  try clear hf5
                  try clear p6
                  try clear c13
                  try clear c14
                  try clear c16
                  try clear c17
                  try clear c18
                  try clear c19
                  try clear c20
                  try clear c31
                  try clear c31b0
                  try clear c31b1
                  try clear c33
                  try clear c34
                  try clear c34b0
                  try clear c34b1
                  try clear c36
                  try clear c37
                  try clear c37b0
                  try clear c37b1
                  try clear c54
                  try clear c54b0
                  try clear c55
                  try clear c55b0
                  try clear c56
                  try clear p56
                  try clear q56
                  try clear hx56
                  try clear hf56
                  try clear c58
                  try clear hx58
                  try clear hf58
                  try clear hcz18_0
                  try clear hcz18_1
                  try clear hcz21_0
                  try clear hcz21_1
                  try clear hcz23_0
                  try clear hcz23_1
                  try clear hcz25_0
                  try clear hcz25_1
                  try clear hcz27_0
                  try clear hcz27_1
                  try clear hcz29_0
                  try clear hcz29_1
                  try clear hfz18_0
                  try clear hfz18_1
                  try clear hfz21_0
                  try clear hfz21_1
                  try clear hfz23_0
                  try clear hfz23_1
                  try clear hfz25_0
                  try clear hfz25_1
                  try clear hfz27_0
                  try clear hfz27_1
                  try clear hfz29_0
                  try clear hfz29_1
                  try clear hx56_0
                  try clear hx56_1
                  try clear hx58_0
                  try clear hx58_1
                  try clear p2
                  try clear p56
                  try clear q56
                  obtain ⟨x10_3, x20_3, x423000_3, x423001_3, rfl, HA, HK3, HO_5, HO_10, BK422, HB⟩ := hrel
                  cases gk with
                  | zero => exact absurd HA.out (by intro h_; cases h_)
                  | succ k3 =>
                    have H := HA.out
                    clear HA
                    simp only [undercroftlaw13_AttrTurns.l1] at H
                    by_cases c61 : x20_3 < (x10_3.length : Int)
                    · rw [if_pos c61] at H
                      have c61b0 : decide (x20_3 < (x10_3.length : Int)) = true := decide_eq_true c61
                      clear c61
                      by_cases c62 : 0 ≤ x20_3
                      · rw [if_pos c62] at H
                        have c62b0 : decide (0 ≤ x20_3) = true := decide_eq_true c62
                        clear c62
                        obtain ⟨y453, hy453⟩ : ∃ y_ : List (S26), y_ = (x10_3.set (x20_3 : Int).toNat (⟨(⟨#[]⟩ : ByteArray), (⟨#[]⟩ : ByteArray)⟩ : S26)) := ⟨_, rfl⟩
                        replace H : (undercroftlaw13_AttrTurns.l1 k3 l0 y427 y453 x18_11 (wrap64 (x20_3 + 1))) = some r := by first | (rw [hy453]; with_reducible exact H) | (have H2_ := (Option.bind_some _ _).symm.trans H; rw [hy453]; with_reducible exact H2_) | (have H2_ := (Option.bind_some _ _).symm.trans H; with_reducible exact H2_) | with_reducible exact H | (rw [hy453]; exact H) | exact H
                        have Ny453 := Aside0.mk hy453
                        clear hy453
                        have H' := Aside0.mk H
                        clear H
                        obtain ⟨Ao64, co64, eo64⟩ := Kd.R_slice HO_10.out
                        subst eo64
                        have p63 : 0 ≤ (x20_3 : Int) := of_decide_eq_true (by first | (with_reducible assumption) | assumption)
                        have q63 : (x20_3 : Int) < ((x10_3.length : Int) : Int) := of_decide_eq_true (by first | (with_reducible assumption) | assumption)
                        obtain ⟨go63, co63, eo63, gb63, gl63, cl63, HG63⟩ := Kd.R_form HO_10.out (by omega)
                        (first | cases eo63 | (injection eo63 with ea_ en_ ec_; (first | subst ea_ | (injection ea_ with ea_; subst ea_)); subst ec_; clear en_))
                        have GB63 := Aside0.mk gb63
                        have GG63 := Aside0.mk HG63
                        clear gb63 gl63 HG63
                        obtain ⟨ce63, hcl63, hM63, hcc63, hfr63⟩ := Kd.R_elem HO_10.out z26 (x20_3 : Int) p63 q63
                        obtain rfl := k26_openM hM63
                        have hx63_0 : wr.cell? ⟨go63, (x20_3 : Int).toNat * 2, none⟩ = some (.string ((rd_T26 x10_3 x20_3).f0)) := hcc63 0 _ rfl
                        have hx63_1 : wr.cell? ⟨go63, (x20_3 : Int).toNat * 2 + 1, none⟩ = some (.string ((rd_T26 x10_3 x20_3).f1)) := hcc63 1 _ rfl
                        have hf63_0 : wr.frozen? ⟨go63, (x20_3 : Int).toNat * 2, none⟩ = false := hfr63 0
                        have hf63_1 : wr.frozen? ⟨go63, (x20_3 : Int).toNat * 2 + 1, none⟩ = false := hfr63 1
                        clear hcl63 hcc63 hfr63 hM63
                        replace p63 := eq_true p63
                        replace q63 := eq_true q63
                        have HX65 := Aside0.mk (show Kd.R k26 26 wr w.heap.size (fun k_ => some k_ ≠ (.slice Ao19 y427.length co19 : Value).ownBlock ∧ k_ ≠ gb422) (.slice (some ⟨go63, 0, none⟩) x10_3.length co64) x10_3 from (by (with_reducible repeat (first | apply Kd.R_alloc | apply Kd.R_drewN | apply Kd.R_drew)); exact HO_10.out))
                        obtain ⟨ce65, hcl65, hM65, hcc65, hfr65⟩ := Kd.R_elem HX65.out z26 (x20_3 : Int) (of_decide_eq_true (by first | (with_reducible assumption) | assumption)) (by have h_ : (x20_3 : Int) < ((x10_3.length : Int) : Int) := of_decide_eq_true (by first | (with_reducible assumption) | assumption); first | exact h_ | (have e_ := (Kd.R_reads' HO_10.out).1; omega) | simpa using h_)
                        obtain rfl := k26_openM hM65
                        have HP65 := Kd.R_seg HX65.out (x20_3 : Int) (of_decide_eq_true (by first | (with_reducible assumption) | assumption)) (by have h_ : (x20_3 : Int) < ((x10_3.length : Int) : Int) := of_decide_eq_true (by first | (with_reducible assumption) | assumption); first | exact h_ | (have e_ := (Kd.R_reads' HO_10.out).1; omega) | simpa using h_) (seg := [.string (⟨#[]⟩ : ByteArray), .string (⟨#[]⟩ : ByteArray)]) (j := 0) hcl65 hcc65 (show 2 ≤ 2 from by decide) (x' := (⟨(⟨#[]⟩ : ByteArray), (⟨#[]⟩ : ByteArray)⟩ : S26)) (k26_mkM _ _ _ (⟨(⟨#[]⟩ : ByteArray), (⟨#[]⟩ : ByteArray)⟩ : S26) ) (fun _ hk => hk)
                        have hx65_0 := hcc65 0 _ rfl
                        (try simp only [show (k26).sz = 2 from rfl, Nat.mul_one, Nat.add_zero] at hx65_0)
                        have hf65_0 := hfr65 0
                        (try simp only [show (k26).sz = 2 from rfl, Nat.mul_one, Nat.add_zero] at hf65_0)
                        have hx65_1 := hcc65 1 _ rfl
                        (try simp only [show (k26).sz = 2 from rfl, Nat.mul_one, Nat.add_zero] at hx65_1)
                        have hf65_1 := hfr65 1
                        (try simp only [show (k26).sz = 2 from rfl, Nat.mul_one, Nat.add_zero] at hf65_1)
                        clear hcl65 hcc65 hfr65 hM65
                        go_wp2_with (first | ((with_reducible refine gate_store (t := 26) (p := 113) rfl ?_); refine store_event (t := 26) (p := 113) (v := ?vo_w66) (w1 := ((wr.setCell ⟨go63, (x20_3 : Int).toNat * 2, none⟩ (.string (⟨#[]⟩ : ByteArray))).setCell ⟨go63, (x20_3 : Int).toNat * 2 + 1, none⟩ (.string (⟨#[]⟩ : ByteArray)))) ?hg ?ho ?hn ?hr ?_; (case ho => rfl); (case hg => rfl); (case hn => rfl); (case hr => first | (go_simp; done) | (go_simp; rfl)); intro w66 hw; have hg : wr.grownBy w66 (some go63) := (by rw [hw]; exact HP65.2); have hp_ : Kd.R k26 26 w66 w.heap.size (fun k_ => some k_ ≠ (.slice Ao19 y427.length co19 : Value).ownBlock ∧ k_ ≠ gb422) (.slice (some ⟨go63, 0, none⟩) x10_3.length co64) y453 := (by rw [hw, Ny453.out]; exact HP65.1); clear HP65; have n0_ := Aside0.mk (Kd.R_after (v := (.slice (some ⟨go63, 0, none⟩) x10_3.length co64)) (v1 := (.slice (some ⟨go63, 0, none⟩) x10_3.length co64)) (ok := (fun k_ => k_ ≠ gb422)) (by (with_reducible repeat (first | apply Kd.R_alloc | apply Kd.R_drewN | apply Kd.R_drew)); exact Kd.R_mono HO_5.out (fun _ hk => ⟨hk.2, hk.1⟩)) hg (.inl rfl)); have n1_ := Aside0.mk (hp_); have n2_ := Aside0.mk (blk_grown (g := gb422) (o := .cells #[.string x423000_3, .string x423001_3] 26 (0, 0)) (by (with_reducible repeat (first | refine blk_drewN ?_ _ | refine blk_drew ?_ | refine blk_alloc ?_ _)); exact BK422.out) hg (Kd.R_away HO_10.out (fun _ hk => hk.2))); have n3_ := Aside0.mk ((by rw [hw]; exact below_set (below_set (HB.out) GB63.out) GB63.out : Below w.heap.size w w66)); clear HO_5; clear HO_10; clear BK422; clear HB; have HO_5 := n0_; have HO_10 := n1_; have BK422 := n2_; have HB := n3_; clear n0_ n1_ n2_ n3_; clear hg hw hp_))
                        go_roundg k3
                        case measure => have := HJ11.out; have := HK2.out; have := HK3.out; omega
                        case rel => exact ⟨(y453), (wrap64 (x20_3 + 1)), (x423000_3), (x423001_3), (by first | rfl | (simp; done) | (simp [*]; done)), H', ⟨by have := HJ11.out; have := HK2.out; have := HK3.out; omega⟩, ⟨by (with_reducible repeat (first | apply Kd.R_alloc | apply Kd.R_drewN | apply Kd.R_drew)); exact Kd.R_mono HO_5.out (fun _ hk => ⟨hk.2, hk.1⟩)⟩, ⟨by (with_reducible repeat (first | apply Kd.R_alloc | apply Kd.R_drewN | apply Kd.R_drew)); exact HO_10.out⟩, ⟨by (with_reducible repeat (first | refine blk_drewN ?_ _ | refine blk_drew ?_ | refine blk_alloc ?_ _)); exact BK422.out⟩, ⟨by repeat (first | (with_reducible first | exact HB.out | apply below_alloc | apply pw_below_drewN | apply below_drew1 | refine below_set ?_ GE422.out) | exact HB.out)⟩⟩
                      · rw [if_neg c62] at H
                        exact absurd H (by simp)
                    · rw [if_neg c61] at H
                      have c61b0 : decide (x20_3 < (x10_3.length : Int)) = false := decide_eq_false c61
                      clear c61
                      by_cases c67 : x18_11 = true
                      · subst c67
                        have H1 : ((undercroftref13_Same.f k3 y427 l0).bind fun t454 => (some t454)) = some r := by rw [if_pos rfl] at H; exact H
                        clear H
                        have H := H1
                        clear H1
                        replace H := Option.bind_eq_some_iff.mp H
                        obtain ⟨t454, A680, H⟩ := H
                        replace H : (some t454) = some r := H
                        have A68 := Aside0.mk A680
                        clear A680
                        obtain rfl := Option.some.inj H
                        obtain ⟨Ao69, co69, eo69⟩ := Kd.R_slice HO_10.out
                        subst eo69
                        go_wp2_with (first | (go_at_call 15; (with_reducible refine (undercroftref13_Same.calls k3 _ _ y427 _ _ l0 t454 _ ?side1 ?side2 ?side3 ?side4 A68.out).mono ?_); (case side1 => repeat (first | exact (Kd.R_reads' HO_5.out).2.2 | (with_reducible refine Kd.C_alloc ?_ _) | (with_reducible refine Kd.C_drewN ?_ _) | (with_reducible refine Kd.C_drew ?_))); (case side2 => exact (Kd.R_reads' HO_5.out).2.1); (case side3 => repeat (first | exact (Kd.C_below HR0.out HB.out) | (with_reducible refine Kd.C_alloc ?_ _) | (with_reducible refine Kd.C_drewN ?_ _) | (with_reducible refine Kd.C_drew ?_))); (case side4 => exact HC0.out); rintro e w' ⟨rfl, ⟨nd, rfl⟩⟩))
                        go_ret
                        exact ⟨by first | rfl | (simp [errW_none, errW_some] <;> rfl) | (simp [*, errW_none, errW_some] <;> rfl), by repeat (first | (with_reducible first | exact HB.out | apply below_alloc | apply pw_below_drewN | apply below_drew1 | refine below_set ?_ GE422.out) | exact HB.out)⟩
                      · replace c67 := Bool.eq_false_iff.mpr c67
                        subst c67
                        have H1 : (some false) = some r := by rw [if_neg (show ¬ (false = true) by decide)] at H; exact H
                        clear H
                        have H := H1
                        clear H1
                        obtain rfl := Option.some.inj H
                        obtain ⟨Ao70, co70, eo70⟩ := Kd.R_slice HO_10.out
                        subst eo70
                        go_wp2
                        go_ret
                        exact ⟨by first | rfl | (simp [errW_none, errW_some] <;> rfl) | (simp [*, errW_none, errW_some] <;> rfl), by repeat (first | (with_reducible first | exact HB.out | apply below_alloc | apply pw_below_drewN | apply below_drew1 | refine below_set ?_ GE422.out) | exact HB.out)⟩
    · rw [if_neg c5] at H
      exact absurd H (by simp)
  · replace c4 := Bool.eq_false_iff.mpr c4
    subst c4
    have H1 : (some false) = some r := by rw [if_neg (show ¬ (false = true) by decide)] at H; exact H
    clear H
    have H := H1
    clear H1
    obtain rfl := Option.some.inj H
    go_enter Try.func4, Try.ntmps4
    go_wp2_with (first | ((with_reducible refine gate_dst (N := 3) rfl ?_); refine box_event ?hg (N := 3) ?hd (cs := #[.string a1_0, .string a1_1]) (t := 26) ?hr ?_; (case hd => rfl); (case hg => rfl); (case hr => first | (go_simp; done) | (go_simp; rfl)); intro gb422 hg w71 hbox hb; have n0_ := Aside0.mk (below_step (by repeat (first | (with_reducible first | exact HB.out | apply below_alloc | apply pw_below_drewN | apply below_drew1) | exact HB.out)) hb); have n1_ := Aside0.mk (hbox); have n2_ := Aside0.mk ((by rw [hg]; exact (below_size (by repeat (first | (with_reducible first | exact HB.out | apply below_alloc | apply pw_below_drewN | apply below_drew1) | exact HB.out))) : w.heap.size ≤ gb422)); have n3_ := Aside0.mk ((by rw [hg]; exact (below_size (by repeat (first | (with_reducible first | exact HB.out | apply below_alloc | apply pw_below_drewN | apply below_drew1) | exact HB.out))) : w.heap.size ≤ gb422)); clear HB; have HB := n0_; have BK422 := n1_; have GW422 := n2_; have GE422 := n3_; clear n0_ n1_ n2_ n3_; clear hb hbox hg) | ((with_reducible refine gate_callee (f := 13) rfl ?_); refine goesL_ (some 21) rfl rfl Try.func13 (by kernel_rfl) rfl #[] rfl (by (try simp only [List.map_toArray, List.map_cons, List.map_nil]); first | done | rfl | (simp only [List.length_drop, List.length_take]; rfl)) ?_; (with_reducible refine (undercroftlaw13_alive.calls k  false _ A3.out).mono ?_); rintro e w72 ⟨rfl, hb⟩; refine ⟨_, rfl, ?_⟩; have n0_ := Aside0.mk (blk_below (g := gb422) (o := .cells #[.string a1_0, .string a1_1] 26 (0, 0)) (by (with_reducible repeat (first | refine blk_drewN ?_ _ | refine blk_drew ?_ | refine blk_alloc ?_ _)); exact BK422.out) hb); have n1_ := Aside0.mk (below_step (by repeat (first | (with_reducible first | exact HB.out | apply below_alloc | apply pw_below_drewN | apply below_drew1 | refine below_set ?_ GE422.out) | exact HB.out)) hb); clear BK422; clear HB; have BK422 := n0_; have HB := n1_; clear n0_ n1_; (try clear hb); (try clear hb2); (try clear hk); (try clear hi)))
    go_ret
    exact ⟨by first | rfl | (simp [errW_none, errW_some] <;> rfl) | (simp [*, errW_none, errW_some] <;> rfl), by repeat (first | (with_reducible first | exact HB.out | apply below_alloc | apply pw_below_drewN | apply below_drew1 | refine below_set ?_ GE422.out) | exact HB.out)⟩
end Go.Proofs.Ytffaggckhneakaa.Pr
end
section
namespace Go.Proofs.Ytffaggckhneakaa.At
open Go.RowKit Go.Proofs.YtffaggckhneakaaW.PrintWords Go.Proofs.YtffaggckhneakaaW.PrintMore Go.Proofs.Ytffaggckhneakaa.Pr Go.Proofs.Ytffaggckhneakaa.Od Go.Proofs.Ytffaggckhneakaa.Cr
set_option linter.unusedVariables false
set_option linter.unusedSimpArgs false
theorem turns_l1 (l : List E) (hl : l.length ≤ 4398046510976) : ∀ (n i : Nat) (c : List E), i + n = c.length → c.length < 4398046511104 → Ev (fun k => undercroftlaw13_AttrTurns.l1 k l l c true (i : Int)) true := by
  intro n
  induction n with
  | zero =>
    intro i c hi hc
    refine Ev.succ ?_
    simp only [undercroftlaw13_AttrTurns.l1, if_neg (show ¬((i : Int) < (c.length : Int)) by omega), if_true]
    exact Ev.bind (same_ev l (by omega)) (Ev.now _)
  | succ n ih =>
    intro i c hi hc
    refine Ev.succ ?_
    simp only [undercroftlaw13_AttrTurns.l1, if_pos (show ((i : Int) < (c.length : Int)) by omega), if_pos (show (0 : Int) ≤ (i : Int) by omega), w64 (show -9223372036854775808 ≤ (i : Int) + 1 by omega) (by omega)]
    exact ih (i + 1) _ (by rw [List.length_set]; omega) (by rw [List.length_set]; exact hc)
theorem turns_l0 (l c : List E) (hl : l.length ≤ 4398046510976) (hc : c.length < 4398046511104) : ∀ (n i : Nat) (a : List E), i + n = a.length → a.length < 4398046511104 → Ev (fun k => undercroftlaw13_AttrTurns.l0 k l l a c true (i : Int)) true := by
  intro n
  induction n with
  | zero =>
    intro i a hi ha
    refine Ev.succ ?_
    simp only [undercroftlaw13_AttrTurns.l0, if_neg (show ¬((i : Int) < (a.length : Int)) by omega)]
    exact turns_l1 l hl c.length 0 c (by omega) hc
  | succ n ih =>
    intro i a hi ha
    refine Ev.succ ?_
    simp only [undercroftlaw13_AttrTurns.l0, if_pos (show ((i : Int) < (a.length : Int)) by omega), if_pos (show (0 : Int) ≤ (i : Int) by omega), w64 (show -9223372036854775808 ≤ (i : Int) + 1 by omega) (by omega)]
    exact ih (i + 1) _ (by rw [List.length_set]; omega) (by rw [List.length_set]; exact ha)
theorem AttrTurns (l : List E) (a b : ByteArray) (hl : Fits l) : ∃ k, undercroftlaw13_AttrTurns.f k l a b = some true := by
  refine Ev.rounds ?_
  unfold Fits at hl
  unfold undercroftlaw13_AttrTurns.f
  refine Ev.bind alive_ev ?_
  simp only [if_true, bs, List.length_nil, Nat.zero_add, List.nil_append, if_pos (show l.length < 4398046511104 by omega)]
  obtain ⟨x, rfl, rfl⟩ : ∃ x : E, x.f0 = a ∧ x.f1 = b := ⟨⟨a, b⟩, rfl, rfl⟩
  have hsl : (setR l x).1.length ≤ l.length + 1 := setR_len
  have hdl : (dropR l x.f0.data.toList).1.length ≤ l.length := dropR_len
  refine Ev.bind (set_ev l x (by omega)) ?_
  refine Ev.bind (rset_ev l x (by omega)) ?_
  refine Ev.bind (drop_ev l x.f0 (by omega)) ?_
  refine Ev.bind (rdrop_ev l x.f0 (by omega)) ?_
  refine Ev.bind (get_ev l x.f0 (by omega)) ?_
  refine Ev.bind (rget_ev l x.f0 (by omega)) ?_
  simp only [if_true]
  refine Ev.bind (same_ev (setR l x).1 (by omega)) ?_
  simp only [if_true]
  refine Ev.bind (same_ev (dropR l x.f0.data.toList).1 (by omega)) ?_
  simp only [if_true, beq_self_eq_true]
  refine Ev.succ ?_
  simp only [undercroftlaw13_AttrTurns.j0]
  exact turns_l0 l _ hl (by omega) _ 0 _ (Nat.zero_add _) (by omega)
end Go.Proofs.Ytffaggckhneakaa.At
end
section
namespace Go.Proofs.Ytffaggckhneakaa.attrTurns
open Go.ChangeShapes Go.WideShapes Go.ChangeAt Go.RowKit Go.Proofs.YtffaggckhneakaaW.PrintWords Go.Proofs.Ytffaggckhneakaa.Pr Go.Proofs.Ytffaggckhneakaa.Op Go.Joins
open Go.ChangeMaps (open_string shut_string)
set_option linter.unusedVariables false
theorem own : ownKnob Try.prog.godebug = none := by kernel_rfl
theorem laidOut : laidOutB Try.prog = true := by kernel_rfl
set_option maxRecDepth 100000 in
theorem contract (H : Type) (enc : TypeId × Value → H) (W : World) (base : Nat) (args : Array Value) (ds gs : List (DataW H)) (before : List MemPlace)
    (hval : ∀ (j : Nat) t v, Try.f4.params[j]? = some t → args[j]? = some v → Value.okWide Try.prog W .any base t v)
    (hW : DataW.Whole enc Try.prog Try.f4.params.toList Rows.attrTurnsSpec.vars false W args.toList ds gs before)
    (hsz : (DataW.weightsEach Try.prog (Try.f4.params.toList ++ Rows.attrTurnsSpec.plain.varTypes Try.prog) (ds ++ gs)).all (· ≤ reachBytes) = true) :
    Calls Try.prog 4 args W fun e W' => ∃ v, e = .returned v ∧ Rows.attrTurnsSpec.post enc Try.prog Try.f4 false true false false W args v W' := by
  have hW' := hW
  obtain ⟨p, q, hA0, hV, rfl, hfz, hnd⟩ := hW
  have hA : DataW.TrodAll enc Try.prog W 0 (fun _ => true) true Try.f4.params.toList args.toList ds p := hA0
  rw [Try.params4] at hA hval hsz
  obtain ⟨v0, vs0, d0, ds0, p0, q0, hargs, rfl, rfl, h0, r0⟩ := trodAll_cons hA
  obtain ⟨v1, vs1, d1, ds1, p1, q1, rfl, rfl, rfl, h1, r1⟩ := trodAll_cons r0
  obtain ⟨rfl, rfl, rfl⟩ := trodAll_nil r1
  obtain rfl : args = #[v0, v1] := by cases args; simp_all
  obtain ⟨rfl, rfl⟩ := trodVars_none hV
  have lt0 : ∀ x ∈ p0, x.block < W.heap.size := by obtain ⟨m, hm⟩ := h0; exact DataW.trod_lt m _ _ _ hm
  have k0 := h0
  obtain ⟨A0, l0, c0, rfl, hc0, hr0, hs0⟩ := arg_slice Try.underlying22 At.o26 (hval 0 22 v0 rfl rfl) h0 hsz (j := 0) (t := 22) rfl rfl
  have lt1 : ∀ x ∈ p1, x.block < W.heap.size := by obtain ⟨m, hm⟩ := h1; exact DataW.trod_lt m _ _ _ hm
  have k1 := h1
  obtain ⟨x1, z1, y10, y11, n1, rfl, rfl, rfl, g1, e1⟩ := open_agg2 Try.underlying26 (by kernel_rfl) (by kernel_rfl) (hval 1 26 v1 rfl rfl) h1
  obtain ⟨a1_0, hx10, _, w1_0⟩ := DataW.trod_string Try.underlying9 g1
  obtain rfl : x1 = .string a1_0 := by simpa using hx10
  obtain ⟨a1_1, hx11, _, w1_1⟩ := DataW.trod_string Try.underlying9 e1
  obtain rfl : z1 = .string a1_1 := by simpa using hx11
  clear hA0
  obtain ⟨k, hk⟩ := At.AttrTurns l0 a1_0 a1_1 hs0
  refine (undercroftlaw13_AttrTurns.calls k A0 c0 l0 a1_0 a1_1 true W hr0 hc0 hk).mono fun e W' ⟨he, bel⟩ => ?_
  subst he
  exact ⟨_, rfl, _, _, _, [], _, [], hW', trodAll_mk1 (shut_bool Try.underlying4 _), (trodAll_cons_mk (Below.trod laidOut (by kernel_rfl) (of_decide_eq_true (by kernel_rfl)) k0 bel lt0) (trodAll_cons_mk (Below.trod laidOut (by kernel_rfl) (of_decide_eq_true (by kernel_rfl)) k1 bel lt1) trodAll_mk0)), rfl, bel.frame _, fun h => by cases h⟩
set_option maxRecDepth 100000 in
theorem lifted (os : Os) (started : os.Started) (H : Type) (enc : TypeId × Value → H) :
    ReturnsInHanded {} Try.checked os 4 .any (Rows.attrTurnsSpec.pre6 enc Try.prog Try.f4 Rows.attrTurnsRow.domain false) (Rows.attrTurnsSpec.post enc Try.prog Try.f4 false true false false) := by
  refine returnsInHanded_of_change_sized (C := Try.checked) own started (by kernel_rfl) Try.func4
    (ChangeSpec.witness6 (enc := enc) (C := Try.checked) false ⟨#[], #[.slice none 0 0, .agg #[.string ByteArray.empty, .string ByteArray.empty]], []⟩ 8 (by kernel_rfl) (by kernel_rfl) (by kernel_rfl) (by kernel_rfl)) ?_
  intro W base args ds gs before hval hW _ hsz _
  exact contract H enc W base args ds gs before hval hW hsz
theorem over : Rows.attrTurnsRow.holds Try.pinned (OpenSpec.ofChange Rows.attrTurnsSpec) :=
  OpenClaim.holds_of_wide 4 Try.f4 rfl rfl rfl rfl rfl rfl rfl ⟨rfl, rfl, rfl, rfl, rfl⟩ rfl rfl rfl rfl rfl (by kernel_rfl) Try.func4 (by kernel_rfl)
    (of_decide_eq_true (by kernel_rfl)) (by unfold Func.isWrapper; first | (rw [if_pos (by decide +kernel)]; kernel_rfl) | (rw [if_neg (by decide +kernel)]; exact ⟨rfl, rfl⟩))
    (fun os started H enc _ => lifted os started H enc)
theorem proved : Rows.AttrTurnsSaid := over
end Go.Proofs.Ytffaggckhneakaa.attrTurns
namespace Go.Proofs.Ytffaggckhneakaa
theorem attrTurns_holds : Rows.AttrTurnsSaid := attrTurns.proved
end Go.Proofs.Ytffaggckhneakaa
end
