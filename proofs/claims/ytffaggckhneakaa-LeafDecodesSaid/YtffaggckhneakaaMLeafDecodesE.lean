/- MLeafDecodes: this session's texts for the one law, put together (part 5 of 5): what its program computes, function by function, and that this answers true; the row stands at the end of the last part. Conditions: those that each theorem names; the last theorem has none. -/
import Derived.Test.YtffaggckhneakaaRows
import Derived.WalkKit
import Derived.ProofKit
import Derived.OpenShut
import Derived.ShutString
import Derived.ChangeOld
import Derived.Below
import Derived.SizedLaws
import Derived.Test.YtffaggckhneakaaMLeafDecodesD
section
namespace Go.Proofs.Ytffaggckhneakaa.Pr
open Go.RowKit Go.Proofs.YtffaggckhneakaaW.PrintWords Go.Proofs.YtffaggckhneakaaW.PrintLast Go.Proofs.YtffaggckhneakaaW.PrintMore
attribute [local go_sem] max2_int min2_int max_two min_two max_three min_three max_four min_four
attribute [local go_sem] Go.Proofs.Ytffaggckhneakaa.Hl.str_geq Go.Proofs.Ytffaggckhneakaa.Hl.str_gtr Go.Proofs.Ytffaggckhneakaa.Hl.str_leq
set_option linter.unusedVariables false
set_option linter.unusedSimpArgs false
mutual
def undercroftref11_Encode.l0 : Nat → List (S54) → List Int → Int → Option (List Int × Int)
  | 0, _, _, _ => none
  | k + 1, x0, x6, x7 => if x7 < (x0.length : Int) then (if 0 ≤ x7 then ((undercroftref01_Bytes.f k (IntKind.u64.wrap ((rd_T54 x0 x7).f1)) 4).bind fun t155 => (if x6.length + t155.length < 140737488355328 then ((some (x6 ++ t155 : List Int)).bind fun y158 => (if y158.length < 140737488355328 then ((some (y158 ++ [((((rd_T54 x0 x7).f0).size : Int)) % 256] : List Int)).bind fun y162 => (if y162.length + ((rd_T54 x0 x7).f0).size < 140737488355328 then (undercroftref11_Encode.l0 k x0 (y162 ++ bytesOf ((rd_T54 x0 x7).f0)) (wrap64 (x7 + 1))) else (none))) else (none))) else (none))) else (none)) else (undercroftref11_Encode.l1 k x6)
def undercroftref11_Encode.l1 : Nat → List Int → Option (List Int × Int)
  | 0, _ => none
  | k + 1, x6 => if (x6.length : Int) < 252 then (if x6.length < 140737488355328 then (undercroftref11_Encode.l1 k (x6 ++ [0])) else (none)) else ((undercroftref01_Sum.f k x6).bind fun t172 => ((undercroftref01_Bytes.f k (IntKind.u64.wrap (t172)) 4).bind fun t173 => (if x6.length + t173.length < 140737488355328 then (some ((x6 ++ t173), 0)) else (none))))
end
def undercroftref11_Encode.f (k : Nat) (l0 : List (S54)) : Option (List Int × Int) := (undercroftref11_Size.f k l0).bind fun bt143 => (if bt143.2 = 0 then (if bt143.1 > 248 then (some (([] : List Int), 9)) else ((undercroftref01_Bytes.f k (IntKind.u64.wrap ((l0.length : Int))) 2).bind fun t145 => ((undercroftref01_Bytes.f k (IntKind.u64.wrap (bt143.1)) 2).bind fun t148 => (if t145.length + t148.length < 140737488355328 then (undercroftref11_Encode.l0 k l0 (t145 ++ t148) 0) else (none))))) else (some (([] : List Int), bt143.2)))
set_option maxHeartbeats 8000000 in
set_option maxRecDepth 100000 in
theorem undercroftref11_Encode.calls (k : Nat) (A0 : Option Addr) (c0 : Nat) (l0 : List (S54)) (r1 : List Int) (r2 : Int) (w : World) (hr0 : Kd.C k54 w A0 l0.length l0) (hc0 : l0.length ≤ c0) (h : undercroftref11_Encode.f k l0 = some (r1, r2)) :
    Calls Try.prog 24 #[.slice A0 l0.length c0] w fun e w' => ∃ v0_ : Value, e = .returned (.tuple #[v0_, .int .i64 r2]) ∧ Kd.R (Kd.int .u8) 5 w' w.heap.size (fun _ => True) v0_ r1 ∧ Below w.heap.size w w' := by
  have HR0 := Aside0.mk hr0
  have HC0 := Aside0.mk hc0
  clear hr0 hc0
  have HB := Aside0.mk (Below.refl w.heap.size w)
  have H : ((undercroftref11_Size.f k l0).bind fun bt143 => (if bt143.2 = 0 then (if bt143.1 > 248 then (some (([] : List Int), 9)) else ((undercroftref01_Bytes.f k (IntKind.u64.wrap ((l0.length : Int))) 2).bind fun t145 => ((undercroftref01_Bytes.f k (IntKind.u64.wrap (bt143.1)) 2).bind fun t148 => (if t145.length + t148.length < 140737488355328 then (undercroftref11_Encode.l0 k l0 (t145 ++ t148) 0) else (none))))) else (some (([] : List Int), bt143.2)))) = some (r1, r2) := h
  clear h
  replace H := Option.bind_eq_some_iff.mp H
  obtain ⟨⟨t143, t144⟩, A20, H⟩ := H
  replace H : (if t144 = 0 then (if t143 > 248 then (some (([] : List Int), 9)) else ((undercroftref01_Bytes.f k (IntKind.u64.wrap ((l0.length : Int))) 2).bind fun t145 => ((undercroftref01_Bytes.f k (IntKind.u64.wrap (t143)) 2).bind fun t148 => (if t145.length + t148.length < 140737488355328 then (undercroftref11_Encode.l0 k l0 (t145 ++ t148) 0) else (none))))) else (some (([] : List Int), t144))) = some (r1, r2) := H
  have A2 := Aside0.mk A20
  clear A20
  by_cases c3 : t144 = 0
  · rw [if_pos c3] at H
    have c3b0 : (t144 == 0) = true := beq_iff_eq.mpr c3
    have c3b1 : (t144 != 0) = false := bne_eq_false_iff_eq.mpr c3
    clear c3
    by_cases c4 : t143 > 248
    · rw [if_pos c4] at H
      have c4b0 : decide (248 < t143) = true := decide_eq_true c4
      clear c4
      simp only [Option.some.injEq, Prod.mk.injEq] at H
      obtain ⟨rfl, rfl⟩ := H
      go_enter Try.func24, Try.ntmps24
      go_wp2_with (first | ((with_reducible refine gate_callee (f := 26) rfl ?_); refine goesL_ (some 10) rfl rfl Try.func26 (by kernel_rfl) rfl #[.slice A0 l0.length c0] rfl (by (try simp only [List.map_toArray, List.map_cons, List.map_nil]); first | done | rfl | (simp only [List.length_drop, List.length_take]; rfl)) ?_; (with_reducible refine (undercroftref11_Size.calls k _ _ l0 t143 t144 _ ?side1 ?side2 A2.out).mono ?_); (case side1 => repeat (first | exact HR0.out | (with_reducible refine Kd.C_alloc ?_ _) | (with_reducible refine Kd.C_drewN ?_ _) | (with_reducible refine Kd.C_drew ?_))); (case side2 => exact HC0.out); rintro e w5 ⟨rfl, hb⟩; refine ⟨_, rfl, ?_⟩; have n0_ := Aside0.mk (below_step (by repeat (first | (with_reducible first | exact HB.out | apply below_alloc | apply pw_below_drewN | apply below_drew1) | exact HB.out)) hb); clear HB; have HB := n0_; clear n0_; (try clear hb); (try clear hb2); (try clear hk); (try clear hi)))
      go_ret2
      exact ⟨_, by first | rfl | (simp [errW_none, errW_some] <;> rfl) | (simp [*, errW_none, errW_some] <;> rfl), by first | exact Kd.R_nil _ _ _ _ _ | exact Kd.N_nil _ _ _ _ _ | exact Kd.V_nil _ _ _ _ _ | exact Kd.Q_nil _ _ _ _ _ | exact Kd.S_nil _ _ _ _ _, by repeat (first | (with_reducible first | exact HB.out | apply below_alloc | apply pw_below_drewN | apply below_drew1) | exact HB.out)⟩
    · rw [if_neg c4] at H
      have c4b0 : decide (248 < t143) = false := decide_eq_false c4
      clear c4
      replace H := Option.bind_eq_some_iff.mp H
      obtain ⟨t145, A60, H⟩ := H
      replace H : ((undercroftref01_Bytes.f k (IntKind.u64.wrap (t143)) 2).bind fun t148 => (if t145.length + t148.length < 140737488355328 then (undercroftref11_Encode.l0 k l0 (t145 ++ t148) 0) else (none))) = some (r1, r2) := H
      have A6 := Aside0.mk A60
      clear A60
      replace H := Option.bind_eq_some_iff.mp H
      obtain ⟨t148, A70, H⟩ := H
      replace H : (if t145.length + t148.length < 140737488355328 then (undercroftref11_Encode.l0 k l0 (t145 ++ t148) 0) else (none)) = some (r1, r2) := H
      have A7 := Aside0.mk A70
      clear A70
      by_cases c8 : t145.length + t148.length < 140737488355328
      · rw [if_pos c8] at H
        have LMc8 := Aside0.mk c8
        clear c8
        obtain ⟨y151, hy151⟩ : ∃ y_ : List Int, y_ = (t145 ++ t148) := ⟨_, rfl⟩
        replace H : (undercroftref11_Encode.l0 k l0 y151 0) = some (r1, r2) := by first | (rw [hy151]; with_reducible exact H) | (have H2_ := (Option.bind_some _ _).symm.trans H; rw [hy151]; with_reducible exact H2_) | (have H2_ := (Option.bind_some _ _).symm.trans H; with_reducible exact H2_) | with_reducible exact H | (rw [hy151]; exact H) | exact H
        have Ny151 := Aside0.mk hy151
        clear hy151
        have H' := Aside0.mk H
        clear H
        go_enter Try.func24, Try.ntmps24
        go_wp2_with (first | ((with_reducible refine gate_callee (f := 26) rfl ?_); refine goesL_ (some 10) rfl rfl Try.func26 (by kernel_rfl) rfl #[.slice A0 l0.length c0] rfl (by (try simp only [List.map_toArray, List.map_cons, List.map_nil]); first | done | rfl | (simp only [List.length_drop, List.length_take]; rfl)) ?_; (with_reducible refine (undercroftref11_Size.calls k _ _ l0 t143 t144 _ ?side1 ?side2 A2.out).mono ?_); (case side1 => repeat (first | exact HR0.out | (with_reducible refine Kd.C_alloc ?_ _) | (with_reducible refine Kd.C_drewN ?_ _) | (with_reducible refine Kd.C_drew ?_))); (case side2 => exact HC0.out); rintro e w9 ⟨rfl, hb⟩; refine ⟨_, rfl, ?_⟩; have n0_ := Aside0.mk (below_step (by repeat (first | (with_reducible first | exact HB.out | apply below_alloc | apply pw_below_drewN | apply below_drew1) | exact HB.out)) hb); clear HB; have HB := n0_; clear n0_; (try clear hb); (try clear hb2); (try clear hk); (try clear hi)) | ((with_reducible refine gate_callee (f := 48) rfl ?_); refine goesL_ (some 21) rfl rfl Try.func48 (by kernel_rfl) rfl #[.int .u64 (IntKind.u64.wrap ((l0.length : Int))), .int .i64 2] rfl (by (try simp only [List.map_toArray, List.map_cons, List.map_nil]); first | done | rfl | (simp only [List.length_drop, List.length_take]; rfl)) ?_; (with_reducible refine (undercroftref01_Bytes.calls k (IntKind.u64.wrap ((l0.length : Int))) 2 t145 _ A6.out).mono ?_); rintro e w10 ⟨v146, rfl, ho0, hb⟩; refine ⟨_, rfl, ?_⟩; have n0_ := Aside0.mk (Kd.R_lower ho0 (below_size (by repeat (first | (with_reducible first | exact HB.out | apply below_alloc | apply pw_below_drewN | apply below_drew1) | exact HB.out)))); have n1_ := Aside0.mk (below_step (by repeat (first | (with_reducible first | exact HB.out | apply below_alloc | apply pw_below_drewN | apply below_drew1) | exact HB.out)) hb); clear HB; have HO147 := n0_; have HB := n1_; clear n0_ n1_; (try clear hb); (try clear hb2); (try clear hk); (try clear hi); (try clear ho0)) | ((with_reducible refine gate_callee (f := 48) rfl ?_); refine goesL_ (some 24) rfl rfl Try.func48 (by kernel_rfl) rfl #[.int .u64 (IntKind.u64.wrap (t143)), .int .i64 2] rfl (by (try simp only [List.map_toArray, List.map_cons, List.map_nil]); first | done | rfl | (simp only [List.length_drop, List.length_take]; rfl)) ?_; (with_reducible refine (undercroftref01_Bytes.calls k (IntKind.u64.wrap (t143)) 2 t148 _ A7.out).mono ?_); rintro e w11 ⟨v149, rfl, ho0, hb⟩; refine ⟨_, rfl, ?_⟩; have n0_ := Aside0.mk (Kd.R_elder' (by (with_reducible repeat (first | apply Kd.R_alloc | apply Kd.R_drewN | apply Kd.R_drew)); exact HO147.out) (Kd.R_base ho0) hb); have n1_ := Aside0.mk (Kd.R_lower (Kd.R_new' ho0 (Kd.R_lt (by (with_reducible repeat (first | apply Kd.R_alloc | apply Kd.R_drewN | apply Kd.R_drew)); exact HO147.out))) (below_size (by repeat (first | (with_reducible first | exact HB.out | apply below_alloc | apply pw_below_drewN | apply below_drew1) | exact HB.out)))); have n2_ := Aside0.mk (below_step (by repeat (first | (with_reducible first | exact HB.out | apply below_alloc | apply pw_below_drewN | apply below_drew1) | exact HB.out)) hb); clear HO147; clear HB; have HO147 := n0_; have HO150 := n1_; have HB := n2_; clear n0_ n1_ n2_; (try clear hb); (try clear hb2); (try clear hk); (try clear hi); (try clear ho0); obtain ⟨Ao13, co13, eo13⟩ := Kd.R_slice HO150.out; subst eo13) | ((with_reducible refine gate_builtin (b := .append) (xs := #[.tmp 21, .tmp 24]) rfl ?_); at_builtin; refine Kd.R_append_rows (Kd.int .u8) (w0 := w) w.heap.size rfl (.tmp 21) (.tmp 24) 37 5 (.int .u8 0) 1 rfl Try.underlying37 info5 rfl (by decide) (by omega) v146 t145 t148 _ _ _ (fun k_ => some k_ ≠ (.slice Ao13 t148.length co13 : Value).ownBlock) (fun _ => False) rfl rfl ?aO ?aR (fun _ _ h => h) (fun _ h => h.elim) ?aF ?aB ?aS ?aL ?_; (case aR => repeat (first | exact (Kd.R_reads' HO150.out).2.2 | (with_reducible refine Kd.C_alloc ?_ _) | (with_reducible refine Kd.C_drewN ?_ _) | (with_reducible refine Kd.C_drew ?_))); (case aB => exact (by repeat (first | (with_reducible first | exact HB.out | apply below_alloc | apply pw_below_drewN | apply below_drew1) | exact HB.out))); (case aF => exact (fun k_ hk => Kd.fresh' (Kd.R_lt (by (with_reducible repeat (first | apply Kd.R_alloc | apply Kd.R_drewN | apply Kd.R_drew)); exact HO150.out)) k_ hk)); (case aO => exact (by (with_reducible repeat (first | apply Kd.R_alloc | apply Kd.R_drewN | apply Kd.R_drew)); exact Kd.R_mono HO147.out (fun _ hk => hk.2))); (case aS => exact (below_size (by repeat (first | (with_reducible first | exact HB.out | apply below_alloc | apply pw_below_drewN | apply below_drew1) | exact HB.out)))); (case aL => have := LMc8.out; omega); intro v152 w12 ho hb hg hat; rw [← Ny151.out] at ho; have n0_ := Aside0.mk (Kd.R_after (ok := (fun _ => True)) (by (with_reducible repeat (first | apply Kd.R_alloc | apply Kd.R_drewN | apply Kd.R_drew)); exact HO150.out) hg hat); have n1_ := Aside0.mk (hb); have n2_ := Aside0.mk (ho); clear HO150; clear HB; clear HO147; have HO150 := n0_; have HB := n1_; have HO153 := n2_; clear n0_ n1_ n2_; clear ho hb hg hat))
        go_loopg [6, 7] k (fun kq v6 v7 w' => ∃ (x6_1 : List Int) (x7_1 : Int), v7 = .int .i64 x7_1 ∧ Aside0 (undercroftref11_Encode.l0 kq l0 x6_1 x7_1 = some (r1, r2)) ∧ Aside0 (kq ≤ k) ∧ Aside0 (Kd.R (Kd.int .u8) 5 w' w.heap.size (fun _ => True) v6 x6_1) ∧ Aside0 (Below w.heap.size w w'))
        case atStart => exact ⟨(y151), (0), (by first | rfl | (simp; done) | (simp [*]; done)), H', ⟨Nat.le_refl _⟩, ⟨by (with_reducible repeat (first | apply Kd.R_alloc | apply Kd.R_drewN | apply Kd.R_drew)); exact Kd.R_mono HO153.out (fun _ hk => trivial)⟩, ⟨by repeat (first | (with_reducible first | exact HB.out | apply below_alloc | apply pw_below_drewN | apply below_drew1) | exact HB.out)⟩⟩
        case round =>
          clear H'
          try clear c2
          try clear p2
          try clear c3
          try clear c3b0
          try clear c3b1
          try clear c4
          try clear c4b0
          try clear c8
          obtain ⟨x6_1, x7_1, rfl, HA, HK1, HO_6, HB⟩ := hrel
          cases gk with
          | zero => exact absurd HA.out (by intro h_; cases h_)
          | succ k1 =>
            have H := HA.out
            clear HA
            simp only [undercroftref11_Encode.l0] at H
            by_cases c14 : x7_1 < (l0.length : Int)
            · rw [if_pos c14] at H
              have c14b0 : decide (x7_1 < (l0.length : Int)) = true := decide_eq_true c14
              clear c14
              by_cases c15 : 0 ≤ x7_1
              · rw [if_pos c15] at H
                have c15b0 : decide (0 ≤ x7_1) = true := decide_eq_true c15
                clear c15
                replace H := Option.bind_eq_some_iff.mp H
                obtain ⟨t155, A160, H⟩ := H
                replace H : (if x6_1.length + t155.length < 140737488355328 then ((some (x6_1 ++ t155 : List Int)).bind fun y158 => (if y158.length < 140737488355328 then ((some (y158 ++ [((((rd_T54 l0 x7_1).f0).size : Int)) % 256] : List Int)).bind fun y162 => (if y162.length + ((rd_T54 l0 x7_1).f0).size < 140737488355328 then (undercroftref11_Encode.l0 k1 l0 (y162 ++ bytesOf ((rd_T54 l0 x7_1).f0)) (wrap64 (x7_1 + 1))) else (none))) else (none))) else (none)) = some (r1, r2) := H
                have A16 := Aside0.mk A160
                clear A160
                by_cases c17 : x6_1.length + t155.length < 140737488355328
                · rw [if_pos c17] at H
                  have LMc17 := Aside0.mk c17
                  clear c17
                  obtain ⟨y158, hy158⟩ : ∃ y_ : List Int, y_ = (x6_1 ++ t155) := ⟨_, rfl⟩
                  replace H : (if y158.length < 140737488355328 then ((some (y158 ++ [((((rd_T54 l0 x7_1).f0).size : Int)) % 256] : List Int)).bind fun y162 => (if y162.length + ((rd_T54 l0 x7_1).f0).size < 140737488355328 then (undercroftref11_Encode.l0 k1 l0 (y162 ++ bytesOf ((rd_T54 l0 x7_1).f0)) (wrap64 (x7_1 + 1))) else (none))) else (none)) = some (r1, r2) := by first | (rw [hy158]; with_reducible exact H) | (have H2_ := (Option.bind_some _ _).symm.trans H; rw [hy158]; with_reducible exact H2_) | (have H2_ := (Option.bind_some _ _).symm.trans H; with_reducible exact H2_) | with_reducible exact H | (rw [hy158]; exact H) | exact H
                  have Ny158 := Aside0.mk hy158
                  clear hy158
                  by_cases c18 : y158.length < 140737488355328
                  · rw [if_pos c18] at H
                    have LMc18 := Aside0.mk c18
                    clear c18
                    obtain ⟨y162, hy162⟩ : ∃ y_ : List Int, y_ = (y158 ++ [((((rd_T54 l0 x7_1).f0).size : Int)) % 256]) := ⟨_, rfl⟩
                    replace H : (if y162.length + ((rd_T54 l0 x7_1).f0).size < 140737488355328 then (undercroftref11_Encode.l0 k1 l0 (y162 ++ bytesOf ((rd_T54 l0 x7_1).f0)) (wrap64 (x7_1 + 1))) else (none)) = some (r1, r2) := by first | (rw [hy162]; with_reducible exact H) | (have H2_ := (Option.bind_some _ _).symm.trans H; rw [hy162]; with_reducible exact H2_) | (have H2_ := (Option.bind_some _ _).symm.trans H; with_reducible exact H2_) | with_reducible exact H | (rw [hy162]; exact H) | exact H
                    have Ny162 := Aside0.mk hy162
                    clear hy162
                    by_cases c19 : y162.length + ((rd_T54 l0 x7_1).f0).size < 140737488355328
                    · rw [if_pos c19] at H
                      have LMc19 := Aside0.mk c19
                      clear c19
                      obtain ⟨y166, hy166⟩ : ∃ y_ : List Int, y_ = (y162 ++ bytesOf ((rd_T54 l0 x7_1).f0)) := ⟨_, rfl⟩
                      replace H : (undercroftref11_Encode.l0 k1 l0 y166 (wrap64 (x7_1 + 1))) = some (r1, r2) := by first | (rw [hy166]; with_reducible exact H) | (have H2_ := (Option.bind_some _ _).symm.trans H; rw [hy166]; with_reducible exact H2_) | (have H2_ := (Option.bind_some _ _).symm.trans H; with_reducible exact H2_) | with_reducible exact H | (rw [hy166]; exact H) | exact H
                      have Ny166 := Aside0.mk hy166
                      clear hy166
                      have H' := Aside0.mk H
                      clear H
                      have p154 : 0 ≤ (x7_1 : Int) := of_decide_eq_true (by first | (with_reducible assumption) | assumption)
                      have q154 : x7_1 < (l0.length : Int) := of_decide_eq_true (by first | (with_reducible assumption) | assumption)
                      obtain ⟨ad154, e154, hx154_0, hx154_1⟩ := at_T54 HR0.out x7_1 p154 q154
                      cases e154
                      replace hx154_0 := (HB.out.cell (World.block_lt_of_cell? w _ hx154_0)).trans hx154_0
                      replace hx154_1 := (HB.out.cell (World.block_lt_of_cell? w _ hx154_1)).trans hx154_1
                      replace p154 := eq_true p154
                      replace q154 := eq_true q154
                      go_wp2_with (first | ((with_reducible refine gate_callee (f := 48) rfl ?_); refine goesL_ (some 39) rfl rfl Try.func48 (by kernel_rfl) rfl #[.int .u64 (IntKind.u64.wrap ((rd_T54 l0 x7_1).f1)), .int .i64 4] rfl (by (try simp only [List.map_toArray, List.map_cons, List.map_nil]); first | done | rfl | (simp only [List.length_drop, List.length_take]; rfl)) ?_; (with_reducible refine (undercroftref01_Bytes.calls k1 (IntKind.u64.wrap ((rd_T54 l0 x7_1).f1)) 4 t155 _ A16.out).mono ?_); rintro e w20 ⟨v156, rfl, ho0, hb⟩; refine ⟨_, rfl, ?_⟩; have n0_ := Aside0.mk (Kd.R_elder' (by (with_reducible repeat (first | apply Kd.R_alloc | apply Kd.R_drewN | apply Kd.R_drew)); exact HO_6.out) (Kd.R_base ho0) hb); have n1_ := Aside0.mk (Kd.R_lower (Kd.R_new' ho0 (Kd.R_lt (by (with_reducible repeat (first | apply Kd.R_alloc | apply Kd.R_drewN | apply Kd.R_drew)); exact HO_6.out))) (below_size (by repeat (first | (with_reducible first | exact HB.out | apply below_alloc | apply pw_below_drewN | apply below_drew1) | exact HB.out)))); have n2_ := Aside0.mk (below_step (by repeat (first | (with_reducible first | exact HB.out | apply below_alloc | apply pw_below_drewN | apply below_drew1) | exact HB.out)) hb); clear HO_6; clear HB; have HO_6 := n0_; have HO157 := n1_; have HB := n2_; clear n0_ n1_ n2_; (try clear hb); (try clear hb2); (try clear hk); (try clear hi); (try clear ho0); obtain ⟨Ao22, co22, eo22⟩ := Kd.R_slice HO157.out; subst eo22) | ((with_reducible refine gate_builtin (b := .append) (xs := #[.tmp 32, .tmp 39]) rfl ?_); at_builtin; refine Kd.R_append_rows (Kd.int .u8) (w0 := w) w.heap.size rfl (.tmp 32) (.tmp 39) 37 5 (.int .u8 0) 1 rfl Try.underlying37 info5 rfl (by decide) (by omega) u6 x6_1 t155 _ _ _ (fun k_ => some k_ ≠ (.slice Ao22 t155.length co22 : Value).ownBlock) (fun _ => False) rfl rfl ?aO ?aR (fun _ _ h => h) (fun _ h => h.elim) ?aF ?aB ?aS ?aL ?_; (case aR => repeat (first | exact (Kd.R_reads' HO157.out).2.2 | (with_reducible refine Kd.C_alloc ?_ _) | (with_reducible refine Kd.C_drewN ?_ _) | (with_reducible refine Kd.C_drew ?_))); (case aB => exact (by repeat (first | (with_reducible first | exact HB.out | apply below_alloc | apply pw_below_drewN | apply below_drew1) | exact HB.out))); (case aF => exact (fun k_ hk => Kd.fresh' (Kd.R_lt (by (with_reducible repeat (first | apply Kd.R_alloc | apply Kd.R_drewN | apply Kd.R_drew)); exact HO157.out)) k_ hk)); (case aO => exact (by (with_reducible repeat (first | apply Kd.R_alloc | apply Kd.R_drewN | apply Kd.R_drew)); exact Kd.R_mono HO_6.out (fun _ hk => hk.2))); (case aS => exact (below_size (by repeat (first | (with_reducible first | exact HB.out | apply below_alloc | apply pw_below_drewN | apply below_drew1) | exact HB.out)))); (case aL => have := LMc17.out; omega); intro v159 w21 ho hb hg hat; rw [← Ny158.out] at ho; have n0_ := Aside0.mk (Kd.R_after (ok := (fun _ => True)) (by (with_reducible repeat (first | apply Kd.R_alloc | apply Kd.R_drewN | apply Kd.R_drew)); exact HO157.out) hg hat); have n1_ := Aside0.mk (hb); have n2_ := Aside0.mk (ho); clear HO157; clear HB; clear HO_6; have HO157 := n0_; have HB := n1_; have HO160 := n2_; clear n0_ n1_ n2_; clear ho hb hg hat; have p161 : 0 ≤ (x7_1 : Int) := of_decide_eq_true (by first | (with_reducible assumption) | assumption); have q161 : x7_1 < (l0.length : Int) := of_decide_eq_true (by first | (with_reducible assumption) | assumption); obtain ⟨ad161, e161, hx161_0, hx161_1⟩ := at_T54 HR0.out x7_1 p161 q161; obtain rfl : ad154 = ad161 := (by injection e161); replace hx161_0 := (HB.out.cell (World.block_lt_of_cell? w _ hx161_0)).trans hx161_0; replace hx161_1 := (HB.out.cell (World.block_lt_of_cell? w _ hx161_1)).trans hx161_1; replace p161 := eq_true p161; replace q161 := eq_true q161) | ((with_reducible refine gate_builtin (b := .append) (xs := #[.tmp 41, .tmp 49]) rfl ?_); at_builtin; refine Kd.R_append (Kd.int .u8) (w0 := w) w.heap.size rfl (.tmp 41) (.tmp 49) 37 5 (.int .u8 0) 1 rfl Try.underlying37 info5 rfl (by decide) (by omega) v159 y158 (((((rd_T54 l0 x7_1).f0).size : Int)) % 256) [.int .u8 (((((rd_T54 l0 x7_1).f0).size : Int)) % 256)] (fun k_ => some k_ ≠ (.slice Ao22 t155.length co22 : Value).ownBlock) (fun _ => False) rfl rfl ?aP (fun _ hk => hk.elim) ?aF ?aO ?aB ?aS ?aL ?_; (case aP => exact rfl); (case aB => exact (by repeat (first | (with_reducible first | exact HB.out | apply below_alloc | apply pw_below_drewN | apply below_drew1) | exact HB.out))); (case aF => exact (fun k_ hk => Kd.fresh' (Kd.R_lt (by (with_reducible repeat (first | apply Kd.R_alloc | apply Kd.R_drewN | apply Kd.R_drew)); exact HO157.out)) k_ hk)); (case aO => exact (by (with_reducible repeat (first | apply Kd.R_alloc | apply Kd.R_drewN | apply Kd.R_drew)); exact HO160.out)); (case aS => exact (below_size (by repeat (first | (with_reducible first | exact HB.out | apply below_alloc | apply pw_below_drewN | apply below_drew1) | exact HB.out)))); (case aL => have := LMc18.out; omega); intro v163 w23 ho hb hg hat; rw [← Ny162.out] at ho; have n0_ := Aside0.mk (Kd.R_after (ok := (fun _ => True)) (by (with_reducible repeat (first | apply Kd.R_alloc | apply Kd.R_drewN | apply Kd.R_drew)); exact HO157.out) hg hat); have n1_ := Aside0.mk (hb); have n2_ := Aside0.mk (ho); clear HO157; clear HB; clear HO160; have HO157 := n0_; have HB := n1_; have HO164 := n2_; clear n0_ n1_ n2_; clear ho hb hg hat; have p165 : 0 ≤ (x7_1 : Int) := of_decide_eq_true (by first | (with_reducible assumption) | assumption); have q165 : x7_1 < (l0.length : Int) := of_decide_eq_true (by first | (with_reducible assumption) | assumption); obtain ⟨ad165, e165, hx165_0, hx165_1⟩ := at_T54 HR0.out x7_1 p165 q165; obtain rfl : ad154 = ad165 := (by injection e165); replace hx165_0 := (HB.out.cell (World.block_lt_of_cell? w _ hx165_0)).trans hx165_0; replace hx165_1 := (HB.out.cell (World.block_lt_of_cell? w _ hx165_1)).trans hx165_1; replace p165 := eq_true p165; replace q165 := eq_true q165) | (at_builtin; refine Go.Proofs.Ytffaggckhneakaa.Hl.R_append_str (w0 := w) w.heap.size rfl (.tmp 51) _ 37 9 5 rfl Try.underlying37 Try.underlying9 info5 v163 y162 ((rd_T54 l0 x7_1).f0) (fun k_ => some k_ ≠ (.slice Ao22 t155.length co22 : Value).ownBlock) rfl rfl ?aO ?aF ?aB ?aS ?aL ?_; (case aB => exact (by repeat (first | (with_reducible first | exact HB.out | apply below_alloc | apply pw_below_drewN | apply below_drew1) | exact HB.out))); (case aF => exact (fun k_ hk => Kd.fresh' (Kd.R_lt (by (with_reducible repeat (first | apply Kd.R_alloc | apply Kd.R_drewN | apply Kd.R_drew)); exact HO157.out)) k_ hk)); (case aO => exact (by (with_reducible repeat (first | apply Kd.R_alloc | apply Kd.R_drewN | apply Kd.R_drew)); exact HO164.out)); (case aS => exact (below_size (by repeat (first | (with_reducible first | exact HB.out | apply below_alloc | apply pw_below_drewN | apply below_drew1) | exact HB.out)))); (case aL => have := LMc19.out; omega); intro v167 w24 ho hb hg hat; rw [← Ny166.out] at ho; have n0_ := Aside0.mk (Kd.R_after (ok := (fun _ => True)) (by (with_reducible repeat (first | apply Kd.R_alloc | apply Kd.R_drewN | apply Kd.R_drew)); exact HO157.out) hg hat); have n1_ := Aside0.mk (hb); have n2_ := Aside0.mk (ho); clear HO157; clear HB; clear HO164; have HO157 := n0_; have HB := n1_; have HO168 := n2_; clear n0_ n1_ n2_; clear ho hb hg hat))
                      go_roundg k1
                      case measure => have := HK1.out; omega
                      case rel => exact ⟨(y166), (wrap64 (x7_1 + 1)), (by first | rfl | (simp; done) | (simp [*]; done)), H', ⟨by have := HK1.out; omega⟩, ⟨by (with_reducible repeat (first | apply Kd.R_alloc | apply Kd.R_drewN | apply Kd.R_drew)); exact Kd.R_mono HO168.out (fun _ hk => trivial)⟩, ⟨by repeat (first | (with_reducible first | exact HB.out | apply below_alloc | apply pw_below_drewN | apply below_drew1) | exact HB.out)⟩⟩
                    · rw [if_neg c19] at H
                      exact absurd H (by simp)
                  · rw [if_neg c18] at H
                    exact absurd H (by simp)
                · rw [if_neg c17] at H
                  exact absurd H (by simp)
              · rw [if_neg c15] at H
                exact absurd H (by simp)
            · rw [if_neg c14] at H
              have c14b0 : decide (x7_1 < (l0.length : Int)) = false := decide_eq_false c14
              clear c14
              have H' := Aside0.mk H
              clear H
              go_wp2
              go_loopg [6] k1 (fun kq v6 w' => ∃ (x6_2 : List Int), Aside0 (undercroftref11_Encode.l1 kq x6_2 = some (r1, r2)) ∧ Aside0 (kq ≤ k1) ∧ Aside0 (Kd.R (Kd.int .u8) 5 w' w.heap.size (fun _ => True) v6 x6_2) ∧ Aside0 (Below w.heap.size w w'))
              case atStart => exact ⟨(x6_1), H', ⟨Nat.le_refl _⟩, ⟨by (with_reducible repeat (first | apply Kd.R_alloc | apply Kd.R_drewN | apply Kd.R_drew)); exact HO_6.out⟩, ⟨by repeat (first | (with_reducible first | exact HB.out | apply below_alloc | apply pw_below_drewN | apply below_drew1) | exact HB.out)⟩⟩
              case round =>
                clear H'
                try clear c1
                try clear p1
                try clear q1
                try clear hx1
                try clear c2
                try clear p2
                try clear c3
                try clear c3b0
                try clear c3b1
                try clear c4
                try clear c4b0
                try clear p6
                try clear c8
                try clear c14
                try clear c14b0
                try clear c15
                try clear c15b0
                try clear p15
                try clear q15
                try clear hx15
                try clear p16
                try clear q16
                try clear hx16
                try clear c17
                try clear c18
                try clear c19
                try clear c24
                try clear hx154_0
                try clear hx154_1
                try clear hx161_0
                try clear hx161_1
                try clear hx165_0
                try clear hx165_1
                try clear p154
                try clear p161
                try clear p165
                try clear p2
                try clear q154
                try clear q161
                try clear q165
                obtain ⟨x6_2, HA, HK2, HO_6, HB⟩ := hrel
                cases gk with
                | zero => exact absurd HA.out (by intro h_; cases h_)
                | succ k2 =>
                  have H := HA.out
                  clear HA
                  unfold undercroftref11_Encode.l1 at H
                  by_cases c25 : (x6_2.length : Int) < 252
                  · rw [if_pos c25] at H
                    have c25b0 : decide ((x6_2.length : Int) < 252) = true := decide_eq_true c25
                    have c25b1 : decide (x6_2.length < 252) = true := decide_eq_true (by omega)
                    clear c25
                    by_cases c26 : x6_2.length < 140737488355328
                    · rw [if_pos c26] at H
                      have LMc26 := Aside0.mk c26
                      clear c26
                      obtain ⟨y169, hy169⟩ : ∃ y_ : List Int, y_ = (x6_2 ++ [0]) := ⟨_, rfl⟩
                      replace H : (undercroftref11_Encode.l1 k2 y169) = some (r1, r2) := by first | (rw [hy169]; with_reducible exact H) | (have H2_ := (Option.bind_some _ _).symm.trans H; rw [hy169]; with_reducible exact H2_) | (have H2_ := (Option.bind_some _ _).symm.trans H; with_reducible exact H2_) | with_reducible exact H | (rw [hy169]; exact H) | exact H
                      have Ny169 := Aside0.mk hy169
                      clear hy169
                      have H' := Aside0.mk H
                      clear H
                      obtain ⟨Ao27, co27, eo27⟩ := Kd.R_slice HO_6.out
                      subst eo27
                      go_wp2_with (first | ((with_reducible refine gate_builtin (b := .append) (xs := #[.tmp 61, .tmp 62]) rfl ?_); at_builtin; refine Kd.R_append (Kd.int .u8) (w0 := w) w.heap.size rfl (.tmp 61) (.tmp 62) 37 5 (.int .u8 0) 1 rfl Try.underlying37 info5 rfl (by decide) (by omega) (.slice Ao27 x6_2.length co27) x6_2 0 [.int .u8 0] (fun _ => True) (fun _ => False) rfl rfl ?aP (fun _ hk => hk.elim) ?aF ?aO ?aB ?aS ?aL ?_; (case aP => exact rfl); (case aB => exact (by repeat (first | (with_reducible first | exact HB.out | apply below_alloc | apply pw_below_drewN | apply below_drew1) | exact HB.out))); (case aF => exact (fun _ _ => trivial)); (case aO => exact (by (with_reducible repeat (first | apply Kd.R_alloc | apply Kd.R_drewN | apply Kd.R_drew)); exact HO_6.out)); (case aS => exact (below_size (by repeat (first | (with_reducible first | exact HB.out | apply below_alloc | apply pw_below_drewN | apply below_drew1) | exact HB.out)))); (case aL => have := LMc26.out; omega); intro v170 w28 ho hb hg hat; rw [← Ny169.out] at ho; have n0_ := Aside0.mk (hb); have n1_ := Aside0.mk (ho); clear HB; clear HO_6; have HB := n0_; have HO171 := n1_; clear n0_ n1_; clear ho hb hg hat))
                      go_roundg k2
                      case measure => have := HK1.out; have := HK2.out; omega
                      case rel => exact ⟨(y169), H', ⟨by have := HK1.out; have := HK2.out; omega⟩, ⟨by (with_reducible repeat (first | apply Kd.R_alloc | apply Kd.R_drewN | apply Kd.R_drew)); exact HO171.out⟩, ⟨by repeat (first | (with_reducible first | exact HB.out | apply below_alloc | apply pw_below_drewN | apply below_drew1) | exact HB.out)⟩⟩
                    · rw [if_neg c26] at H
                      exact absurd H (by simp)
                  · rw [if_neg c25] at H
                    have c25b0 : decide ((x6_2.length : Int) < 252) = false := decide_eq_false c25
                    have c25b1 : decide (x6_2.length < 252) = false := decide_eq_false (by omega)
                    clear c25
                    replace H := Option.bind_eq_some_iff.mp H
                    obtain ⟨t172, A290, H⟩ := H
                    replace H : ((undercroftref01_Bytes.f k2 (IntKind.u64.wrap (t172)) 4).bind fun t173 => (if x6_2.length + t173.length < 140737488355328 then (some ((x6_2 ++ t173), 0)) else (none))) = some (r1, r2) := H
                    have A29 := Aside0.mk A290
                    clear A290
                    replace H := Option.bind_eq_some_iff.mp H
                    obtain ⟨t173, A300, H⟩ := H
                    replace H : (if x6_2.length + t173.length < 140737488355328 then (some ((x6_2 ++ t173), 0)) else (none)) = some (r1, r2) := H
                    have A30 := Aside0.mk A300
                    clear A300
                    by_cases c31 : x6_2.length + t173.length < 140737488355328
                    · rw [if_pos c31] at H
                      have LMc31 := Aside0.mk c31
                      clear c31
                      obtain ⟨y176, hy176⟩ : ∃ y_ : List Int, y_ = (x6_2 ++ t173) := ⟨_, rfl⟩
                      replace H : (some (y176, 0)) = some (r1, r2) := by first | (rw [hy176]; with_reducible exact H) | (have H2_ := (Option.bind_some _ _).symm.trans H; rw [hy176]; with_reducible exact H2_) | (have H2_ := (Option.bind_some _ _).symm.trans H; with_reducible exact H2_) | with_reducible exact H | (rw [hy176]; exact H) | exact H
                      have Ny176 := Aside0.mk hy176
                      clear hy176
                      simp only [Option.some.injEq, Prod.mk.injEq] at H
                      obtain ⟨rfl, rfl⟩ := H
                      obtain ⟨Ao32, co32, eo32⟩ := Kd.R_slice HO_6.out
                      subst eo32
                      go_wp2_with (first | ((with_reducible refine gate_callee (f := 49) rfl ?_); refine goesL_ (some 66) rfl rfl Try.func49 (by kernel_rfl) rfl #[.slice Ao32 x6_2.length co32] rfl (by (try simp only [List.map_toArray, List.map_cons, List.map_nil]); first | done | rfl | (simp only [List.length_drop, List.length_take]; rfl)) ?_; (with_reducible refine (undercroftref01_Sum.calls k2 _ _ x6_2 t172 _ ?side1 ?side2 A29.out).mono ?_); (case side1 => repeat (first | exact (Kd.R_reads' HO_6.out).2.2 | (with_reducible refine Kd.C_alloc ?_ _) | (with_reducible refine Kd.C_drewN ?_ _) | (with_reducible refine Kd.C_drew ?_))); (case side2 => exact (Kd.R_reads' HO_6.out).2.1); rintro e w' ⟨rfl, ⟨nd, rfl⟩⟩; refine ⟨_, rfl, ?_⟩) | ((with_reducible refine gate_callee (f := 48) rfl ?_); refine goesL_ (some 68) rfl rfl Try.func48 (by kernel_rfl) rfl #[.int .u64 (IntKind.u64.wrap (t172)), .int .i64 4] rfl (by (try simp only [List.map_toArray, List.map_cons, List.map_nil]); first | done | rfl | (simp only [List.length_drop, List.length_take]; rfl)) ?_; (with_reducible refine (undercroftref01_Bytes.calls k2 (IntKind.u64.wrap (t172)) 4 t173 _ A30.out).mono ?_); rintro e w33 ⟨v174, rfl, ho0, hb⟩; refine ⟨_, rfl, ?_⟩; have n0_ := Aside0.mk (Kd.R_elder' (by (with_reducible repeat (first | apply Kd.R_alloc | apply Kd.R_drewN | apply Kd.R_drew)); exact HO_6.out) (Kd.R_base ho0) hb); have n1_ := Aside0.mk (Kd.R_lower (Kd.R_new' ho0 (Kd.R_lt (by (with_reducible repeat (first | apply Kd.R_alloc | apply Kd.R_drewN | apply Kd.R_drew)); exact HO_6.out))) (below_size (by repeat (first | (with_reducible first | exact HB.out | apply below_alloc | apply pw_below_drewN | apply below_drew1) | exact HB.out)))); have n2_ := Aside0.mk (below_step (by repeat (first | (with_reducible first | exact HB.out | apply below_alloc | apply pw_below_drewN | apply below_drew1) | exact HB.out)) hb); clear HO_6; clear HB; have HO_6 := n0_; have HO175 := n1_; have HB := n2_; clear n0_ n1_ n2_; (try clear hb); (try clear hb2); (try clear hk); (try clear hi); (try clear ho0); obtain ⟨Ao35, co35, eo35⟩ := Kd.R_slice HO175.out; subst eo35) | ((with_reducible refine gate_builtin (b := .append) (xs := #[.tmp 64, .tmp 68]) rfl ?_); at_builtin; refine Kd.R_append_rows (Kd.int .u8) (w0 := w) w.heap.size rfl (.tmp 64) (.tmp 68) 37 5 (.int .u8 0) 1 rfl Try.underlying37 info5 rfl (by decide) (by omega) (.slice Ao32 x6_2.length co32) x6_2 t173 _ _ _ (fun k_ => some k_ ≠ (.slice Ao35 t173.length co35 : Value).ownBlock) (fun _ => False) rfl rfl ?aO ?aR (fun _ _ h => h) (fun _ h => h.elim) ?aF ?aB ?aS ?aL ?_; (case aR => repeat (first | exact (Kd.R_reads' HO175.out).2.2 | (with_reducible refine Kd.C_alloc ?_ _) | (with_reducible refine Kd.C_drewN ?_ _) | (with_reducible refine Kd.C_drew ?_))); (case aB => exact (by repeat (first | (with_reducible first | exact HB.out | apply below_alloc | apply pw_below_drewN | apply below_drew1) | exact HB.out))); (case aF => exact (fun k_ hk => Kd.fresh' (Kd.R_lt (by (with_reducible repeat (first | apply Kd.R_alloc | apply Kd.R_drewN | apply Kd.R_drew)); exact HO175.out)) k_ hk)); (case aO => exact (by (with_reducible repeat (first | apply Kd.R_alloc | apply Kd.R_drewN | apply Kd.R_drew)); exact Kd.R_mono HO_6.out (fun _ hk => hk.2))); (case aS => exact (below_size (by repeat (first | (with_reducible first | exact HB.out | apply below_alloc | apply pw_below_drewN | apply below_drew1) | exact HB.out)))); (case aL => have := LMc31.out; omega); intro v177 w34 ho hb hg hat; rw [← Ny176.out] at ho; have n0_ := Aside0.mk (Kd.R_after (ok := (fun _ => True)) (by (with_reducible repeat (first | apply Kd.R_alloc | apply Kd.R_drewN | apply Kd.R_drew)); exact HO175.out) hg hat); have n1_ := Aside0.mk (hb); have n2_ := Aside0.mk (ho); clear HO175; clear HB; clear HO_6; have HO175 := n0_; have HB := n1_; have HO178 := n2_; clear n0_ n1_ n2_; clear ho hb hg hat))
                      go_ret2
                      exact ⟨_, by first | rfl | (simp [errW_none, errW_some] <;> rfl) | (simp [*, errW_none, errW_some] <;> rfl), by (with_reducible repeat (first | apply Kd.R_alloc | apply Kd.R_drewN | apply Kd.R_drew)); exact Kd.R_mono HO178.out (fun _ hk => trivial), by repeat (first | (with_reducible first | exact HB.out | apply below_alloc | apply pw_below_drewN | apply below_drew1) | exact HB.out)⟩
                    · rw [if_neg c31] at H
                      exact absurd H (by simp)
      · rw [if_neg c8] at H
        exact absurd H (by simp)
  · rw [if_neg c3] at H
    have c3b0 : (t144 == 0) = false := beq_eq_false_iff_ne.mpr c3
    have c3b1 : (t144 != 0) = true := bne_iff_ne.mpr c3
    simp only [Option.some.injEq, Prod.mk.injEq] at H
    obtain ⟨rfl, rfl⟩ := H
    go_enter Try.func24, Try.ntmps24
    go_wp2_with (first | ((with_reducible refine gate_callee (f := 26) rfl ?_); refine goesL_ (some 10) rfl rfl Try.func26 (by kernel_rfl) rfl #[.slice A0 l0.length c0] rfl (by (try simp only [List.map_toArray, List.map_cons, List.map_nil]); first | done | rfl | (simp only [List.length_drop, List.length_take]; rfl)) ?_; (with_reducible refine (undercroftref11_Size.calls k _ _ l0 t143 t144 _ ?side1 ?side2 A2.out).mono ?_); (case side1 => repeat (first | exact HR0.out | (with_reducible refine Kd.C_alloc ?_ _) | (with_reducible refine Kd.C_drewN ?_ _) | (with_reducible refine Kd.C_drew ?_))); (case side2 => exact HC0.out); rintro e w36 ⟨rfl, hb⟩; refine ⟨_, rfl, ?_⟩; have n0_ := Aside0.mk (below_step (by repeat (first | (with_reducible first | exact HB.out | apply below_alloc | apply pw_below_drewN | apply below_drew1) | exact HB.out)) hb); clear HB; have HB := n0_; clear n0_; (try clear hb); (try clear hb2); (try clear hk); (try clear hi)))
    go_ret2
    exact ⟨_, by first | rfl | (simp [errW_none, errW_some] <;> rfl) | (simp [*, errW_none, errW_some] <;> rfl), by first | exact Kd.R_nil _ _ _ _ _ | exact Kd.N_nil _ _ _ _ _ | exact Kd.V_nil _ _ _ _ _ | exact Kd.Q_nil _ _ _ _ _ | exact Kd.S_nil _ _ _ _ _, by repeat (first | (with_reducible first | exact HB.out | apply below_alloc | apply pw_below_drewN | apply below_drew1) | exact HB.out)⟩
end Go.Proofs.Ytffaggckhneakaa.Pr
end
section
namespace Go.Proofs.Ytffaggckhneakaa.Pr
open Go.RowKit Go.Proofs.YtffaggckhneakaaW.PrintWords Go.Proofs.YtffaggckhneakaaW.PrintLast Go.Proofs.YtffaggckhneakaaW.PrintMore
attribute [local go_sem] max2_int min2_int max_two min_two max_three min_three max_four min_four
attribute [local go_sem] Go.Proofs.Ytffaggckhneakaa.Hl.str_geq Go.Proofs.Ytffaggckhneakaa.Hl.str_gtr Go.Proofs.Ytffaggckhneakaa.Hl.str_leq
set_option linter.unusedVariables false
set_option linter.unusedSimpArgs false
def undercroftref01_Number.l0 : Nat → List Int → Int → Int → Option (Int × Bool)
  | 0, _, _, _ => none
  | k + 1, x0, x4, x5 => if x5 < (x0.length : Int) then (if 0 ≤ x5 then (if 0 ≤ (wrap64 (8 * x5)) then (undercroftref01_Number.l0 k x0 (Go.bits .or .u64 x4 (shl .u64 (IntKind.u64.wrap (rd x0 x5)) (wrap64 (8 * x5)))) (wrap64 (x5 + 1))) else (none)) else (none)) else (some (x4, true))
def undercroftref01_Number.f (k : Nat) (l0 : List Int) : Option (Int × Bool) := if (l0.length : Int) > 8 then (some (0, false)) else (undercroftref01_Number.l0 k l0 0 0)
set_option maxHeartbeats 8000000 in
set_option maxRecDepth 100000 in
theorem undercroftref01_Number.calls (k : Nat) (A0 : Option Addr) (c0 : Nat) (l0 : List Int) (r1 : Int) (r2 : Bool) (w : World) (hr0 : Kd.C (Kd.int .u8) w A0 l0.length l0) (hc0 : l0.length ≤ c0) (h : undercroftref01_Number.f k l0 = some (r1, r2)) :
    Calls Try.prog 67 #[.slice A0 l0.length c0] w fun e w' => e = .returned (.tuple #[.int .u64 r1, .bool r2]) ∧ Drawn0 w w' := by
  have HR0 := Aside0.mk hr0
  have HC0 := Aside0.mk hc0
  clear hr0 hc0
  have H : (if (l0.length : Int) > 8 then (some (0, false)) else (undercroftref01_Number.l0 k l0 0 0)) = some (r1, r2) := h
  clear h
  by_cases c2 : (l0.length : Int) > 8
  · rw [if_pos c2] at H
    have c2b0 : decide (8 < (l0.length : Int)) = true := decide_eq_true c2
    have c2b1 : decide (8 < l0.length) = true := decide_eq_true (by omega)
    clear c2
    simp only [Option.some.injEq, Prod.mk.injEq] at H
    obtain ⟨rfl, rfl⟩ := H
    go_enter Try.func67, Try.ntmps67
    go_wp2
    go_ret2
    exact ⟨by first | rfl | (simp; done) | (simp [*]; done), by repeat (first | exact Drawn0.refl _ | apply Drawn0.step)⟩
  · rw [if_neg c2] at H
    have c2b0 : decide (8 < (l0.length : Int)) = false := decide_eq_false c2
    have c2b1 : decide (8 < l0.length) = false := decide_eq_false (by omega)
    clear c2
    have H' := Aside0.mk H
    clear H
    go_enter Try.func67, Try.ntmps67
    go_wp2
    go_loopg [4, 5] k (fun kq v4 v5 w' => ∃ (x4_1 : Int) (x5_1 : Int), v4 = .int .u64 x4_1 ∧ v5 = .int .i64 x5_1 ∧ Aside0 (undercroftref01_Number.l0 kq l0 x4_1 x5_1 = some (r1, r2)) ∧ Aside0 (kq ≤ k) ∧ Drawn0 w w')
    case atStart => exact ⟨(0), (0), (by first | rfl | (simp; done) | (simp [*]; done)), (by first | rfl | (simp; done) | (simp [*]; done)), H', ⟨Nat.le_refl _⟩, by repeat (first | exact Drawn0.refl _ | apply Drawn0.step)⟩
    case round =>
      clear H'
      try clear c2
      try clear c2b0
      try clear c2b1
      try clear p2
      obtain ⟨x4_1, x5_1, rfl, rfl, HA, HK1, ⟨m1, rfl⟩⟩ := hrel
      cases gk with
      | zero => exact absurd HA.out (by intro h_; cases h_)
      | succ k1 =>
        have H := HA.out
        clear HA
        simp only [undercroftref01_Number.l0] at H
        by_cases c3 : x5_1 < (l0.length : Int)
        · rw [if_pos c3] at H
          have c3b0 : decide (x5_1 < (l0.length : Int)) = true := decide_eq_true c3
          clear c3
          by_cases c4 : 0 ≤ x5_1
          · rw [if_pos c4] at H
            have c4b0 : decide (0 ≤ x5_1) = true := decide_eq_true c4
            clear c4
            obtain ⟨ji5, hji5⟩ : ∃ j_ : Int, (wrap64 (8 * x5_1)) = j_ := ⟨_, rfl⟩
            replace H : (if 0 ≤ (ji5) then (undercroftref01_Number.l0 k1 l0 (Go.bits .or .u64 x4_1 (shl .u64 (IntKind.u64.wrap (rd l0 x5_1)) (ji5))) (wrap64 (x5_1 + 1))) else (none)) = some (r1, r2) := by first | (rw [hji5] at H; exact H) | (simp only [hji5] at H ⊢; exact H)
            have hji5w : (IntKind.i64.wrap (8 * x5_1)) = ji5 := (i64_w _).trans hji5
            (try rw [hji5] at c2b0)
            (try rw [hji5] at c2b1)
            (try rw [hji5] at c3b0)
            (try rw [hji5] at c4b0)
            by_cases c6 : 0 ≤ (ji5)
            · rw [if_pos c6] at H
              have c6b0 := eq_true c6
              have c6b1 : decide (0 ≤ (ji5)) = true := decide_eq_true c6
              clear c6
              obtain ⟨ji7, hji7⟩ : ∃ j_ : Int, (shl .u64 (IntKind.u64.wrap (rd l0 x5_1)) (ji5)) = j_ := ⟨_, rfl⟩
              replace H : (undercroftref01_Number.l0 k1 l0 (Go.bits .or .u64 x4_1 (ji7)) (wrap64 (x5_1 + 1))) = some (r1, r2) := by first | (rw [hji7] at H; exact H) | (simp only [hji7] at H ⊢; exact H)
              have hji7_ : (IntKind.u64.wrap ((IntKind.u64.wrap (rd l0 x5_1)) * 2 ^ min (ji5).toNat 64)) = ji7 := hji7
              have hji7z : (ji5) ≤ 64 → (IntKind.u64.wrap ((IntKind.u64.wrap (rd l0 x5_1)) * 2 ^ (ji5).toNat)) = ji7 := shl_small hji7
              have H' := Aside0.mk H
              clear H
              have p203 : 0 ≤ (x5_1 : Int) := of_decide_eq_true (by first | (with_reducible assumption) | assumption)
              have q203 : x5_1 < (l0.length : Int) := of_decide_eq_true (by first | (with_reducible assumption) | assumption)
              obtain ⟨ad203, e203, hx203_0⟩ := Kd.at_int HR0.out x5_1 p203 q203
              cases e203
              replace p203 := eq_true p203
              replace q203 := eq_true q203
              go_wp2
              go_roundg k1
              case measure => have := HK1.out; omega
              case rel => exact ⟨(Go.bits .or .u64 x4_1 (ji7)), (wrap64 (x5_1 + 1)), (by first | rfl | (simp; done) | (simp only [← hji7] <;> (first | rfl | simp)) | (simp [*]; done)), (by first | rfl | (simp; done) | (simp [*]; done)), H', ⟨by have := HK1.out; omega⟩, by repeat (first | exact Drawn0.refl _ | apply Drawn0.step)⟩
            · rw [if_neg c6] at H
              exact absurd H (by simp)
          · rw [if_neg c4] at H
            exact absurd H (by simp)
        · rw [if_neg c3] at H
          have c3b0 : decide (x5_1 < (l0.length : Int)) = false := decide_eq_false c3
          clear c3
          simp only [Option.some.injEq, Prod.mk.injEq] at H
          obtain ⟨rfl, rfl⟩ := H
          go_wp2
          go_ret2
          exact ⟨by first | rfl | (simp; done) | (simp [*]; done), by repeat (first | exact Drawn0.refl _ | apply Drawn0.step)⟩
end Go.Proofs.Ytffaggckhneakaa.Pr
end
section
namespace Go.Proofs.Ytffaggckhneakaa.Pr
open Go.RowKit Go.Proofs.YtffaggckhneakaaW.PrintWords Go.Proofs.YtffaggckhneakaaW.PrintLast Go.Proofs.YtffaggckhneakaaW.PrintMore
attribute [local go_sem] max2_int min2_int max_two min_two max_three min_three max_four min_four
attribute [local go_sem] Go.Proofs.Ytffaggckhneakaa.Hl.str_geq Go.Proofs.Ytffaggckhneakaa.Hl.str_gtr Go.Proofs.Ytffaggckhneakaa.Hl.str_leq
set_option linter.unusedVariables false
set_option linter.unusedSimpArgs false
def undercroftref01_At.f (k : Nat) (l0 : List Int) (a1 : Int) (a2 : Int) : Option (Int) := if 0 ≤ a1 then (if a1 ≤ (wrap64 (a1 + a2)) then (if (wrap64 (a1 + a2)) ≤ (l0.length : Int) then ((undercroftref01_Number.f k ((l0.take ((wrap64 (a1 + a2)) : Int).toNat).drop (a1 : Int).toNat)).bind fun bt205 => (some (wrap64 (bt205.1)))) else (none)) else (none)) else (none)
set_option maxHeartbeats 8000000 in
set_option maxRecDepth 100000 in
theorem undercroftref01_At.calls (k : Nat) (A0 : Option Addr) (c0 : Nat) (l0 : List Int) (a1 : Int) (a2 : Int) (r : Int) (w : World) (hr0 : Kd.C (Kd.int .u8) w A0 l0.length l0) (hc0 : l0.length ≤ c0) (h : undercroftref01_At.f k l0 a1 a2 = some r) :
    Calls Try.prog 57 #[.slice A0 l0.length c0, .int .i64 a1, .int .i64 a2] w fun e w' => e = .returned (.int .i64 r) ∧ Drawn0 w w' := by
  have HR0 := Aside0.mk hr0
  have HC0 := Aside0.mk hc0
  clear hr0 hc0
  have H : (if 0 ≤ a1 then (if a1 ≤ (wrap64 (a1 + a2)) then (if (wrap64 (a1 + a2)) ≤ (l0.length : Int) then ((undercroftref01_Number.f k ((l0.take ((wrap64 (a1 + a2)) : Int).toNat).drop (a1 : Int).toNat)).bind fun bt205 => (some (wrap64 (bt205.1)))) else (none)) else (none)) else (none)) = some r := h
  clear h
  by_cases c4 : 0 ≤ a1
  · rw [if_pos c4] at H
    have c4b0 := eq_true c4
    have c4b1 : decide (0 ≤ a1) = true := decide_eq_true c4
    clear c4
    by_cases c5 : a1 ≤ (wrap64 (a1 + a2))
    · rw [if_pos c5] at H
      have c5b0 := eq_true c5
      have c5b1 : decide (a1 ≤ (wrap64 (a1 + a2))) = true := decide_eq_true c5
      by_cases c6 : (wrap64 (a1 + a2)) ≤ (l0.length : Int)
      · rw [if_pos c6] at H
        have c6b0 := eq_true c6
        have c6b1 : decide ((wrap64 (a1 + a2)) ≤ (l0.length : Int)) = true := decide_eq_true c6
        replace H := Option.bind_eq_some_iff.mp H
        obtain ⟨⟨t205, t206⟩, A70, H⟩ := H
        replace H : (some (wrap64 (t205))) = some r := H
        have A7 := Aside0.mk A70
        clear A70
        obtain rfl := Option.some.inj H
        obtain ⟨i08, hi08, _, hsz8, _⟩ := info_parts info5
        obtain ⟨A8, hcut8, hA8, hC8⟩ := print_mid_of (P := Try.prog) (Value.int .u8) 0 37 5 .i64 .i64 Try.underlying37 hi08 hsz8 A0 c0 l0 a1 (wrap64 (a1 + a2)) (of_decide_eq_true (by first | (with_reducible assumption) | assumption)) (by first | omega | exact of_decide_eq_true (by first | (with_reducible assumption) | assumption)) (of_decide_eq_true (by first | (with_reducible assumption) | assumption)) HC0.out
        have HR204 := Aside0.mk (Kd.C_of_reads (h1 := fun _ => rfl) (hA8 _ (Kd.reads_of_C HR0.out)))
        have HC204 := Aside0.mk hC8
        clear hA8 hC8 hi08 hsz8
        go_enter Try.func57, Try.ntmps57
        go_wp2_with (first | ((with_reducible refine gate_callee (f := 67) rfl ?_); refine goesL_ (some 16) rfl rfl Try.func67 (by kernel_rfl) rfl #[.slice A8 ((l0.take ((wrap64 (a1 + a2)) : Int).toNat).drop (a1 : Int).toNat).length (c0 - a1.toNat)] rfl (by (try simp only [List.map_toArray, List.map_cons, List.map_nil]); first | done | (rw [show ((l0.take ((wrap64 (a1 + a2)) : Int).toNat).drop (a1 : Int).toNat).length = ((wrap64 (a1 + a2)).toNat - a1.toNat) from (by rw [List.length_drop, List.length_take]; have h_ : ((wrap64 (a1 + a2)) : Int) ≤ (l0.length : Int) := of_decide_eq_true (by first | (with_reducible assumption) | assumption); omega)] <;> rfl) | rfl | (simp only [List.length_drop, List.length_take]; rfl)) ?_; (with_reducible refine (undercroftref01_Number.calls k _ _ ((l0.take ((wrap64 (a1 + a2)) : Int).toNat).drop (a1 : Int).toNat) t205 t206 _ ?side1 ?side2 A7.out).mono ?_); (case side1 => repeat (first | exact HR204.out | (with_reducible refine Kd.C_alloc ?_ _) | (with_reducible refine Kd.C_drewN ?_ _) | (with_reducible refine Kd.C_drew ?_))); (case side2 => exact HC204.out); rintro e w' ⟨rfl, ⟨nd, rfl⟩⟩; refine ⟨_, rfl, ?_⟩))
        go_ret
        exact ⟨by first | rfl | (simp; done) | (simp [*]; done), by repeat (first | exact Drawn0.refl _ | apply Drawn0.step)⟩
      · rw [if_neg c6] at H
        exact absurd H (by simp)
    · rw [if_neg c5] at H
      exact absurd H (by simp)
  · rw [if_neg c4] at H
    exact absurd H (by simp)
end Go.Proofs.Ytffaggckhneakaa.Pr
end
section
namespace Go.Proofs.Ytffaggckhneakaa.Pr
open Go.RowKit Go.Proofs.YtffaggckhneakaaW.PrintWords Go.Proofs.YtffaggckhneakaaW.PrintLast Go.Proofs.YtffaggckhneakaaW.PrintMore
attribute [local go_sem] max2_int min2_int max_two min_two max_three min_three max_four min_four
attribute [local go_sem] Go.Proofs.Ytffaggckhneakaa.Hl.str_geq Go.Proofs.Ytffaggckhneakaa.Hl.str_gtr Go.Proofs.Ytffaggckhneakaa.Hl.str_leq
set_option linter.unusedVariables false
set_option linter.unusedSimpArgs false
def undercroftref11_Decode.l0 : Nat → List Int → List (S54) → Int → Int → Option ((List (S54)) × Int)
  | 0, _, _, _, _ => none
  | k + 1, x0, x4, x5, x6 => (undercroftref01_At.f k x0 0 2).bind fun t207 => (if x6 < t207 then (if x5 > 247 then (some (([] : List (S54)), 13)) else (if 0 ≤ (wrap64 (x5 + 4)) then (if (wrap64 (x5 + 4)) < (x0.length : Int) then (if (wrap64 ((wrap64 (x5 + 5)) + (wrap64 (rd x0 (wrap64 (x5 + 4)))))) > 252 then (some (([] : List (S54)), 13)) else ((undercroftref01_At.f k x0 x5 4).bind fun t210 => (if 0 ≤ (wrap64 (x5 + 5)) then (if (wrap64 (x5 + 5)) ≤ (wrap64 ((wrap64 (x5 + 5)) + (wrap64 (rd x0 (wrap64 (x5 + 4)))))) then (if (wrap64 ((wrap64 (x5 + 5)) + (wrap64 (rd x0 (wrap64 (x5 + 4)))))) ≤ (x0.length : Int) then (if x4.length < 5864062014805 then (undercroftref11_Decode.l0 k x0 (x4 ++ [(⟨strOfNums ((x0.take ((wrap64 ((wrap64 (x5 + 5)) + (wrap64 (rd x0 (wrap64 (x5 + 4)))))) : Int).toNat).drop ((wrap64 (x5 + 5)) : Int).toNat), t210⟩ : S54)]) (wrap64 (x5 + (wrap64 (5 + (wrap64 (rd x0 (wrap64 (x5 + 4)))))))) (wrap64 (x6 + 1))) else (none)) else (none)) else (none)) else (none)))) else (none)) else (none))) else ((undercroftref11_Encode.f k x4).bind fun bt215 => (if bt215.2 = 0 then (if (strOfNums bt215.1).toList = (strOfNums x0).toList then (some (x4, 0)) else (some (([] : List (S54)), 13))) else (some (([] : List (S54)), 13)))))
def undercroftref11_Decode.f (k : Nat) (l0 : List Int) : Option ((List (S54)) × Int) := if (l0.length : Int) = 256 then (undercroftref11_Decode.l0 k l0 ([] : List (S54)) 4 0) else (some (([] : List (S54)), 13))
def undercroftref11_Decode.T11 : Bool × List (List Nat × List Nat) := (true, [([], []), ([], []), ([], []), ([1, 2], [1, 2]), ([], []), ([], []), ([5], [5]), ([], []), ([7], [7]), ([], []), ([8, 9], [8, 9]), ([4, 6, 10], [4, 6, 10]), ([11], [11]), ([3, 12], [3, 12]), ([13], [13]), ([0, 14, 3], [0, 14]), ([15, 15, 0, 1, 2, 3, 4, 5, 6, 7, 8, 9, 10, 11, 12, 13, 14, 15], [0, 15])])
def undercroftref11_Decode.B11 : List Nat := [0, 0, 0, 6, 0, 0, 32, 0, 128, 0, 896, 2032, 4080, 8190, 16382, 32767, 65535]
theorem undercroftref11_Decode.tab11 : rtab .any (opsOf Try.f31 11) = undercroftref11_Decode.T11 := by kernel_rfl
theorem undercroftref11_Decode.bits11 : waitsOk undercroftref11_Decode.T11.2 undercroftref11_Decode.B11 = true := by kernel_rfl
set_option maxHeartbeats 8000000 in
set_option maxRecDepth 100000 in
theorem undercroftref11_Decode.calls (k : Nat) (A0 : Option Addr) (c0 : Nat) (l0 : List Int) (r1 : List (S54)) (r2 : Int) (w : World) (hr0 : Kd.C (Kd.int .u8) w A0 l0.length l0) (hc0 : l0.length ≤ c0) (h : undercroftref11_Decode.f k l0 = some (r1, r2)) :
    Calls Try.prog 31 #[.slice A0 l0.length c0] w fun e w' => ∃ v0_ : Value, e = .returned (.tuple #[v0_, .int .i64 r2]) ∧ Kd.R k54 54 w' w.heap.size (fun _ => True) v0_ r1 ∧ Below w.heap.size w w' := by
  have hu54 := Try.underlying54
  have HR0 := Aside0.mk hr0
  have HC0 := Aside0.mk hc0
  clear hr0 hc0
  have HB := Aside0.mk (Below.refl w.heap.size w)
  have H : (if (l0.length : Int) = 256 then (undercroftref11_Decode.l0 k l0 ([] : List (S54)) 4 0) else (some (([] : List (S54)), 13))) = some (r1, r2) := h
  clear h
  by_cases c2 : (l0.length : Int) = 256
  · rw [if_pos c2] at H
    have c2b0 : ((l0.length : Int) == 256) = true := beq_iff_eq.mpr c2
    have c2b1 : ((l0.length : Int) != 256) = false := bne_eq_false_iff_eq.mpr c2
    clear c2
    have H' := Aside0.mk H
    clear H
    go_enter Try.func31, Try.ntmps31
    go_wp2
    go_loopg [4, 5, 6] k (fun kq v4 v5 v6 w' => ∃ (x4_1 : List (S54)) (x5_1 : Int) (x6_1 : Int), v5 = .int .i64 x5_1 ∧ v6 = .int .i64 x6_1 ∧ Aside0 (undercroftref11_Decode.l0 kq l0 x4_1 x5_1 x6_1 = some (r1, r2)) ∧ Aside0 (kq ≤ k) ∧ Aside0 (Kd.R k54 54 w' w.heap.size (fun _ => True) v4 x4_1) ∧ Aside0 (Below w.heap.size w w'))
    case atStart => exact ⟨(([] : List (S54))), (4), (0), (by first | rfl | (simp; done) | (simp [*]; done)), (by first | rfl | (simp; done) | (simp [*]; done)), H', ⟨Nat.le_refl _⟩, ⟨by first | exact Kd.R_nil _ _ _ _ _ | exact Kd.N_nil _ _ _ _ _ | exact Kd.V_nil _ _ _ _ _ | exact Kd.Q_nil _ _ _ _ _ | exact Kd.S_nil _ _ _ _ _⟩, ⟨by repeat (first | (with_reducible first | exact HB.out | apply below_alloc | apply pw_below_drewN | apply below_drew1) | exact HB.out)⟩⟩
    case round =>
      clear H'
      try clear c2
      try clear c2b0
      try clear c2b1
      try clear p2
      obtain ⟨x4_1, x5_1, x6_1, rfl, rfl, HA, HK1, HO_4, HB⟩ := hrel
      cases gk with
      | zero => exact absurd HA.out (by intro h_; cases h_)
      | succ k1 =>
        have H := HA.out
        clear HA
        simp only [undercroftref11_Decode.l0] at H
        replace H := Option.bind_eq_some_iff.mp H
        obtain ⟨t207, A30, H⟩ := H
        replace H : (if x6_1 < t207 then (if x5_1 > 247 then (some (([] : List (S54)), 13)) else (if 0 ≤ (wrap64 (x5_1 + 4)) then (if (wrap64 (x5_1 + 4)) < (l0.length : Int) then (if (wrap64 ((wrap64 (x5_1 + 5)) + (wrap64 (rd l0 (wrap64 (x5_1 + 4)))))) > 252 then (some (([] : List (S54)), 13)) else ((undercroftref01_At.f k1 l0 x5_1 4).bind fun t210 => (if 0 ≤ (wrap64 (x5_1 + 5)) then (if (wrap64 (x5_1 + 5)) ≤ (wrap64 ((wrap64 (x5_1 + 5)) + (wrap64 (rd l0 (wrap64 (x5_1 + 4)))))) then (if (wrap64 ((wrap64 (x5_1 + 5)) + (wrap64 (rd l0 (wrap64 (x5_1 + 4)))))) ≤ (l0.length : Int) then (if x4_1.length < 5864062014805 then (undercroftref11_Decode.l0 k1 l0 (x4_1 ++ [(⟨strOfNums ((l0.take ((wrap64 ((wrap64 (x5_1 + 5)) + (wrap64 (rd l0 (wrap64 (x5_1 + 4)))))) : Int).toNat).drop ((wrap64 (x5_1 + 5)) : Int).toNat), t210⟩ : S54)]) (wrap64 (x5_1 + (wrap64 (5 + (wrap64 (rd l0 (wrap64 (x5_1 + 4)))))))) (wrap64 (x6_1 + 1))) else (none)) else (none)) else (none)) else (none)))) else (none)) else (none))) else ((undercroftref11_Encode.f k1 x4_1).bind fun bt215 => (if bt215.2 = 0 then (if (strOfNums bt215.1).toList = (strOfNums l0).toList then (some (x4_1, 0)) else (some (([] : List (S54)), 13))) else (some (([] : List (S54)), 13))))) = some (r1, r2) := H
        have A3 := Aside0.mk A30
        clear A30
        by_cases c4 : x6_1 < t207
        · rw [if_pos c4] at H
          have c4b0 : decide (x6_1 < t207) = true := decide_eq_true c4
          clear c4
          by_cases c5 : x5_1 > 247
          · rw [if_pos c5] at H
            have c5b0 : decide (247 < x5_1) = true := decide_eq_true c5
            clear c5
            simp only [Option.some.injEq, Prod.mk.injEq] at H
            obtain ⟨rfl, rfl⟩ := H
            go_wp2_with (first | ((with_reducible refine gate_callee (f := 57) rfl ?_); refine goesL_ (some 15) rfl rfl Try.func57 (by kernel_rfl) rfl #[.slice A0 l0.length c0, .int .i64 0, .int .i64 2] rfl (by (try simp only [List.map_toArray, List.map_cons, List.map_nil]); first | done | rfl | (simp only [List.length_drop, List.length_take]; rfl)) ?_; (with_reducible refine (undercroftref01_At.calls k1 _ _ l0 0 2 t207 _ ?side1 ?side2 A3.out).mono ?_); (case side1 => repeat (first | exact (Kd.C_below HR0.out HB.out) | (with_reducible refine Kd.C_alloc ?_ _) | (with_reducible refine Kd.C_drewN ?_ _) | (with_reducible refine Kd.C_drew ?_))); (case side2 => exact HC0.out); rintro e w' ⟨rfl, ⟨nd, rfl⟩⟩; refine ⟨_, rfl, ?_⟩))
            go_ret2
            exact ⟨_, by first | rfl | (simp [errW_none, errW_some] <;> rfl) | (simp [*, errW_none, errW_some] <;> rfl), by first | exact Kd.R_nil _ _ _ _ _ | exact Kd.N_nil _ _ _ _ _ | exact Kd.V_nil _ _ _ _ _ | exact Kd.Q_nil _ _ _ _ _ | exact Kd.S_nil _ _ _ _ _, by repeat (first | (with_reducible first | exact HB.out | apply below_alloc | apply pw_below_drewN | apply below_drew1) | exact HB.out)⟩
          · rw [if_neg c5] at H
            have c5b0 : decide (247 < x5_1) = false := decide_eq_false c5
            clear c5
            obtain ⟨ji6, hji6⟩ : ∃ j_ : Int, (wrap64 (x5_1 + 4)) = j_ := ⟨_, rfl⟩
            replace H : (if 0 ≤ (ji6) then (if (ji6) < (l0.length : Int) then (if (wrap64 ((wrap64 (x5_1 + 5)) + (wrap64 (rd l0 (ji6))))) > 252 then (some (([] : List (S54)), 13)) else ((undercroftref01_At.f k1 l0 x5_1 4).bind fun t210 => (if 0 ≤ (wrap64 (x5_1 + 5)) then (if (wrap64 (x5_1 + 5)) ≤ (wrap64 ((wrap64 (x5_1 + 5)) + (wrap64 (rd l0 (ji6))))) then (if (wrap64 ((wrap64 (x5_1 + 5)) + (wrap64 (rd l0 (ji6))))) ≤ (l0.length : Int) then (if x4_1.length < 5864062014805 then (undercroftref11_Decode.l0 k1 l0 (x4_1 ++ [(⟨strOfNums ((l0.take ((wrap64 ((wrap64 (x5_1 + 5)) + (wrap64 (rd l0 (ji6))))) : Int).toNat).drop ((wrap64 (x5_1 + 5)) : Int).toNat), t210⟩ : S54)]) (wrap64 (x5_1 + (wrap64 (5 + (wrap64 (rd l0 (ji6))))))) (wrap64 (x6_1 + 1))) else (none)) else (none)) else (none)) else (none)))) else (none)) else (none)) = some (r1, r2) := by first | (rw [hji6] at H; exact H) | (simp only [hji6] at H ⊢; exact H)
            (try rw [hji6] at A3)
            have hji6w : (IntKind.i64.wrap (x5_1 + 4)) = ji6 := (i64_w _).trans hji6
            (try rw [hji6] at c2b0)
            (try rw [hji6] at c2b1)
            (try rw [hji6] at c4b0)
            (try rw [hji6] at c5b0)
            by_cases c7 : 0 ≤ (ji6)
            · rw [if_pos c7] at H
              have c7b0 : decide (0 ≤ (ji6)) = true := decide_eq_true c7
              clear c7
              by_cases c8 : (ji6) < (l0.length : Int)
              · rw [if_pos c8] at H
                have c8b0 : decide ((ji6) < (l0.length : Int)) = true := decide_eq_true c8
                clear c8
                by_cases c9 : (wrap64 ((wrap64 (x5_1 + 5)) + (wrap64 (rd l0 (ji6))))) > 252
                · rw [if_pos c9] at H
                  have c9b0 : decide (252 < (wrap64 ((wrap64 (x5_1 + 5)) + (wrap64 (rd l0 (ji6)))))) = true := decide_eq_true c9
                  clear c9
                  simp only [Option.some.injEq, Prod.mk.injEq] at H
                  obtain ⟨rfl, rfl⟩ := H
                  go_wp2_with (first | ((with_reducible refine gate_callee (f := 57) rfl ?_); refine goesL_ (some 15) rfl rfl Try.func57 (by kernel_rfl) rfl #[.slice A0 l0.length c0, .int .i64 0, .int .i64 2] rfl (by (try simp only [List.map_toArray, List.map_cons, List.map_nil]); first | done | rfl | (simp only [List.length_drop, List.length_take]; rfl)) ?_; (with_reducible refine (undercroftref01_At.calls k1 _ _ l0 0 2 t207 _ ?side1 ?side2 A3.out).mono ?_); (case side1 => repeat (first | exact (Kd.C_below HR0.out HB.out) | (with_reducible refine Kd.C_alloc ?_ _) | (with_reducible refine Kd.C_drewN ?_ _) | (with_reducible refine Kd.C_drew ?_))); (case side2 => exact HC0.out); rintro e w' ⟨rfl, ⟨nd, rfl⟩⟩; refine ⟨_, rfl, ?_⟩; have p208 : 0 ≤ ((ji6) : Int) := of_decide_eq_true (by first | (with_reducible assumption) | assumption); have q208 : (ji6) < (l0.length : Int) := of_decide_eq_true (by first | (with_reducible assumption) | assumption); obtain ⟨ad208, e208, hx208_0⟩ := Kd.at_int HR0.out (ji6) p208 q208; cases e208; replace hx208_0 := (HB.out.cell (World.block_lt_of_cell? w _ hx208_0)).trans hx208_0; replace p208 := eq_true p208; replace q208 := eq_true q208))
                  go_ret2
                  exact ⟨_, by first | rfl | (simp [errW_none, errW_some] <;> rfl) | (simp only [← hji6]; first | rfl | (simp [errW_none, errW_some] <;> rfl)) | (simp [*, errW_none, errW_some] <;> rfl), by first | exact Kd.R_nil _ _ _ _ _ | exact Kd.N_nil _ _ _ _ _ | exact Kd.V_nil _ _ _ _ _ | exact Kd.Q_nil _ _ _ _ _ | exact Kd.S_nil _ _ _ _ _, by repeat (first | (with_reducible first | exact HB.out | apply below_alloc | apply pw_below_drewN | apply below_drew1) | exact HB.out)⟩
                · rw [if_neg c9] at H
                  have c9b0 : decide (252 < (wrap64 ((wrap64 (x5_1 + 5)) + (wrap64 (rd l0 (ji6)))))) = false := decide_eq_false c9
                  clear c9
                  replace H := Option.bind_eq_some_iff.mp H
                  obtain ⟨t210, A100, H⟩ := H
                  replace H : (if 0 ≤ (wrap64 (x5_1 + 5)) then (if (wrap64 (x5_1 + 5)) ≤ (wrap64 ((wrap64 (x5_1 + 5)) + (wrap64 (rd l0 (ji6))))) then (if (wrap64 ((wrap64 (x5_1 + 5)) + (wrap64 (rd l0 (ji6))))) ≤ (l0.length : Int) then (if x4_1.length < 5864062014805 then (undercroftref11_Decode.l0 k1 l0 (x4_1 ++ [(⟨strOfNums ((l0.take ((wrap64 ((wrap64 (x5_1 + 5)) + (wrap64 (rd l0 (ji6))))) : Int).toNat).drop ((wrap64 (x5_1 + 5)) : Int).toNat), t210⟩ : S54)]) (wrap64 (x5_1 + (wrap64 (5 + (wrap64 (rd l0 (ji6))))))) (wrap64 (x6_1 + 1))) else (none)) else (none)) else (none)) else (none)) = some (r1, r2) := H
                  have A10 := Aside0.mk A100
                  clear A100
                  obtain ⟨ji11, hji11⟩ : ∃ j_ : Int, (wrap64 (x5_1 + 5)) = j_ := ⟨_, rfl⟩
                  replace H : (if 0 ≤ (ji11) then (if (ji11) ≤ (wrap64 ((ji11) + (wrap64 (rd l0 (ji6))))) then (if (wrap64 ((ji11) + (wrap64 (rd l0 (ji6))))) ≤ (l0.length : Int) then (if x4_1.length < 5864062014805 then (undercroftref11_Decode.l0 k1 l0 (x4_1 ++ [(⟨strOfNums ((l0.take ((wrap64 ((ji11) + (wrap64 (rd l0 (ji6))))) : Int).toNat).drop ((ji11) : Int).toNat), t210⟩ : S54)]) (wrap64 (x5_1 + (wrap64 (5 + (wrap64 (rd l0 (ji6))))))) (wrap64 (x6_1 + 1))) else (none)) else (none)) else (none)) else (none)) = some (r1, r2) := by first | (rw [hji11] at H; exact H) | (simp only [hji11] at H ⊢; exact H)
                  (try rw [hji11] at c9b0)
                  (try rw [hji11] at A3)
                  (try rw [hji11] at A10)
                  have hji11w : (IntKind.i64.wrap (x5_1 + 5)) = ji11 := (i64_w _).trans hji11
                  (try rw [hji11] at c2b0)
                  (try rw [hji11] at c2b1)
                  (try rw [hji11] at c4b0)
                  (try rw [hji11] at c5b0)
                  (try rw [hji11] at c7b0)
                  (try rw [hji11] at c8b0)
                  (try rw [hji11] at c9b0)
                  by_cases c12 : 0 ≤ (ji11)
                  · rw [if_pos c12] at H
                    have c12b0 := eq_true c12
                    have c12b1 : decide (0 ≤ (ji11)) = true := decide_eq_true c12
                    clear c12
                    by_cases c13 : (ji11) ≤ (wrap64 ((ji11) + (wrap64 (rd l0 (ji6)))))
                    · rw [if_pos c13] at H
                      have c13b0 := eq_true c13
                      have c13b1 : decide ((ji11) ≤ (wrap64 ((ji11) + (wrap64 (rd l0 (ji6)))))) = true := decide_eq_true c13
                      by_cases c14 : (wrap64 ((ji11) + (wrap64 (rd l0 (ji6))))) ≤ (l0.length : Int)
                      · rw [if_pos c14] at H
                        have c14b0 := eq_true c14
                        have c14b1 : decide ((wrap64 ((ji11) + (wrap64 (rd l0 (ji6))))) ≤ (l0.length : Int)) = true := decide_eq_true c14
                        by_cases c15 : x4_1.length < 5864062014805
                        · rw [if_pos c15] at H
                          have LMc15 := Aside0.mk c15
                          clear c15
                          obtain ⟨y212, hy212⟩ : ∃ y_ : List (S54), y_ = (x4_1 ++ [(⟨strOfNums ((l0.take ((wrap64 ((ji11) + (wrap64 (rd l0 (ji6))))) : Int).toNat).drop ((ji11) : Int).toNat), t210⟩ : S54)]) := ⟨_, rfl⟩
                          replace H : (undercroftref11_Decode.l0 k1 l0 y212 (wrap64 (x5_1 + (wrap64 (5 + (wrap64 (rd l0 (ji6))))))) (wrap64 (x6_1 + 1))) = some (r1, r2) := by first | (rw [hy212]; with_reducible exact H) | (have H2_ := (Option.bind_some _ _).symm.trans H; rw [hy212]; with_reducible exact H2_) | (have H2_ := (Option.bind_some _ _).symm.trans H; with_reducible exact H2_) | with_reducible exact H | (rw [hy212]; exact H) | exact H
                          have Ny212 := Aside0.mk hy212
                          clear hy212
                          have H' := Aside0.mk H
                          clear H
                          try go_wp2_with (first | ((with_reducible refine gate_callee (f := 57) rfl ?_); refine goesL_ (some 15) rfl rfl Try.func57 (by kernel_rfl) rfl #[.slice A0 l0.length c0, .int .i64 0, .int .i64 2] rfl (by (try simp only [List.map_toArray, List.map_cons, List.map_nil]); first | done | rfl | (simp only [List.length_drop, List.length_take]; rfl)) ?_; (with_reducible refine (undercroftref01_At.calls k1 _ _ l0 0 2 t207 _ ?side1 ?side2 A3.out).mono ?_); (case side1 => repeat (first | exact (Kd.C_below HR0.out HB.out) | (with_reducible refine Kd.C_alloc ?_ _) | (with_reducible refine Kd.C_drewN ?_ _) | (with_reducible refine Kd.C_drew ?_))); (case side2 => exact HC0.out); rintro e w' ⟨rfl, ⟨nd, rfl⟩⟩; refine ⟨_, rfl, ?_⟩; have p208 : 0 ≤ ((ji6) : Int) := of_decide_eq_true (by first | (with_reducible assumption) | assumption); have q208 : (ji6) < (l0.length : Int) := of_decide_eq_true (by first | (with_reducible assumption) | assumption); obtain ⟨ad208, e208, hx208_0⟩ := Kd.at_int HR0.out (ji6) p208 q208; cases e208; replace hx208_0 := (HB.out.cell (World.block_lt_of_cell? w _ hx208_0)).trans hx208_0; replace p208 := eq_true p208; replace q208 := eq_true q208; have p209 : 0 ≤ ((ji6) : Int) := of_decide_eq_true (by first | (with_reducible assumption) | assumption); have q209 : (ji6) < (l0.length : Int) := of_decide_eq_true (by first | (with_reducible assumption) | assumption); obtain ⟨ad209, e209, hx209_0⟩ := Kd.at_int HR0.out (ji6) p209 q209; obtain rfl : ad208 = ad209 := (by injection e209); replace hx209_0 := (HB.out.cell (World.block_lt_of_cell? w _ hx209_0)).trans hx209_0; replace p209 := eq_true p209; replace q209 := eq_true q209; obtain ⟨Ao16, co16, eo16⟩ := Kd.R_slice HO_4.out; subst eo16))
                          (try (rw [drewN_self wr]; generalize hq_ : World.drewN wr _ = wr; have n0_ : Aside0 (Kd.R k54 54 wr w.heap.size (fun _ => True) (.slice Ao16 x4_1.length co16) x4_1) := ⟨by rw [← hq_]; exact (by (with_reducible repeat (first | apply Kd.R_alloc | apply Kd.R_drewN | apply Kd.R_drew)); exact HO_4.out)⟩; have n1_ : Aside0 (Below w.heap.size w wr) := ⟨by rw [← hq_]; exact (by repeat (first | (with_reducible first | exact HB.out | apply below_alloc | apply pw_below_drewN | apply below_drew1) | exact HB.out))⟩; clear HO_4 HB hq_; have HO_4 := n0_; have HB := n1_; clear n0_ n1_))
                          have n0_ := Aside0.mk (Kd.R_drew HO_4.out)
                          have n1_ := Aside0.mk (below_drew1 HB.out)
                          clear HO_4
                          clear HB
                          have HO_4 := n0_
                          have HB := n1_
                          clear n0_ n1_
                          obtain ⟨i018, hi018, _, hsz18, _⟩ := info_parts info5
                          obtain ⟨A18, hcut18, hA18, hC18⟩ := print_mid_of (P := Try.prog) (Value.int .u8) 0 37 5 .i64 .i64 Try.underlying37 hi018 hsz18 (some ad208) c0 l0 (ji11) (wrap64 ((ji11) + (wrap64 (rd l0 (ji6))))) (of_decide_eq_true (by first | (with_reducible assumption) | assumption)) (by first | omega | exact of_decide_eq_true (by first | (with_reducible assumption) | assumption)) (of_decide_eq_true (by first | (with_reducible assumption) | assumption)) HC0.out
                          have HR211 := Aside0.mk (Kd.C_of_reads (h1 := fun _ => rfl) (hA18 _ (Kd.reads_of_C HR0.out)))
                          have HC211 := Aside0.mk hC18
                          clear hA18 hC18 hi018 hsz18
                          have hcvW19 : ∀ W_ : World, (Kd.int .u8).C W_ A18 ((l0.take ((wrap64 ((ji11) + (wrap64 (rd l0 (ji6))))) : Int).toNat).drop ((ji11) : Int).toNat).length ((l0.take ((wrap64 ((ji11) + (wrap64 (rd l0 (ji6))))) : Int).toNat).drop ((ji11) : Int).toNat) → (convert 37 9 (.slice A18 ((wrap64 ((ji11) + (wrap64 (rd l0 (ji6))))).toNat - (ji11).toNat) (c0 - (ji11).toNat))).run Try.prog W_ = .ok (.string (strOfNums ((l0.take ((wrap64 ((ji11) + (wrap64 (rd l0 (ji6))))) : Int).toNat).drop ((ji11) : Int).toNat))) W_ := by
                            intro W_ h_
                            have e_ := Kd.C_string (P := Try.prog) (A := A18) (c := (c0 - (ji11).toNat)) Try.underlying37 Try.underlying5 Try.underlying9 h_
                            have hl_ : ((l0.take ((wrap64 ((ji11) + (wrap64 (rd l0 (ji6))))) : Int).toNat).drop ((ji11) : Int).toNat).length = (wrap64 ((ji11) + (wrap64 (rd l0 (ji6))))).toNat - (ji11).toNat := by rw [List.length_drop, List.length_take]; have hz_ : (wrap64 ((ji11) + (wrap64 (rd l0 (ji6))))) ≤ (l0.length : Int) := of_decide_eq_true (by first | (with_reducible assumption) | assumption); omega
                            rw [hl_] at e_; exact e_
                          refine start_ (n := 17) (S := fun w' => (convert 37 9 (.slice A18 ((wrap64 ((ji11) + (wrap64 (rd l0 (ji6))))).toNat - (ji11).toNat) (c0 - (ji11).toNat))).run Try.prog w' = .ok (.string (strOfNums ((l0.take ((wrap64 ((ji11) + (wrap64 (rd l0 (ji6))))) : Int).toNat).drop ((ji11) : Int).toNat))) w') (ds := []) #[false, false, false, false, false, false, false, false, false, false, false, false, false, false, false, false, false] (by kernel_rfl) rfl rfl (hcvW19 _ (by repeat (first | exact (Kd.C_below HR211.out HB.out) | (with_reducible refine Kd.C_alloc ?_ _) | (with_reducible refine Kd.C_drewN ?_ _) | (with_reducible refine Kd.C_drew ?_)))) (fun hHeld => ?_); refine with_tabW undercroftref11_Decode.tab11 undercroftref11_Decode.bits11 (fun HT_ HW_ => ?_)
                          generalize wr.drew = w17 at HO_4 HB HR211 hHeld ⊢
                          refine pure_ (i := 0) (N := some 39) (v := ?_) (a' := ?_) #[true, false, false, false, false, false, false, false, false, false, false, false, false, false, false, false, false] rfl rfl (any_of HT_.out (by kernel_rfl)) (fun _ _ _ h => h) (Or.inl ⟨by rfl, ?_⟩) ?_ ?_
                          rotate_left
                          · intro w'
                            go_simp
                            with_reducible rfl
                          rotate_left
                          · simp only [Act.put, List.setIfInBounds_toArray, List.set_cons_zero, List.set_cons_succ, i64_w, i32_w]
                            rfl
                          refine pure_ (i := 1) (N := some 40) (v := ?_) (a' := ?_) #[true, true, false, false, false, false, false, false, false, false, false, false, false, false, false, false, false] rfl rfl (any_of HT_.out (by kernel_rfl)) (fun _ _ _ h => h) (Or.inl ⟨by rfl, ?_⟩) ?_ ?_
                          rotate_left
                          · intro w'
                            go_simp
                            with_reducible rfl
                          rotate_left
                          · simp only [Act.put, List.setIfInBounds_toArray, List.set_cons_zero, List.set_cons_succ, i64_w, i32_w]
                            rfl
                          refine pure_ (i := 2) (N := some 41) (v := ?_) (a' := ?_) #[true, true, true, false, false, false, false, false, false, false, false, false, false, false, false, false, false] rfl rfl (any_of HT_.out (by kernel_rfl)) (fun _ _ _ h => h) (Or.inl ⟨by rfl, ?_⟩) ?_ ?_
                          rotate_left
                          · intro w'
                            go_simp
                            with_reducible rfl
                          rotate_left
                          · simp only [Act.put, List.setIfInBounds_toArray, List.set_cons_zero, List.set_cons_succ, i64_w, i32_w]
                            rfl
                          refine pure_ (i := 4) (N := some 43) (v := ?_) (a' := ?_) #[true, true, true, false, true, false, false, false, false, false, false, false, false, false, false, false, false] rfl rfl (any_of HT_.out (by kernel_rfl)) (fun _ _ _ h => h) (Or.inl ⟨by rfl, ?_⟩) ?_ ?_
                          rotate_left
                          · intro w'
                            go_simp
                            with_reducible rfl
                          rotate_left
                          · simp only [Act.put, List.setIfInBounds_toArray, List.set_cons_zero, List.set_cons_succ, i64_w, i32_w]
                            rfl
                          refine pure_ (i := 5) (N := some 44) (v := ?_) (a' := ?_) #[true, true, true, false, true, true, false, false, false, false, false, false, false, false, false, false, false] rfl rfl (any_of HT_.out (by kernel_rfl)) (fun _ _ _ h => h) (Or.inl ⟨by rfl, ?_⟩) ?_ ?_
                          rotate_left
                          · intro w'
                            go_simp
                            with_reducible rfl
                          rotate_left
                          · simp only [Act.put, List.setIfInBounds_toArray, List.set_cons_zero, List.set_cons_succ, i64_w, i32_w]
                            rfl
                          refine pure_ (i := 6) (N := some 45) (v := ?_) (a' := ?_) #[true, true, true, false, true, true, true, false, false, false, false, false, false, false, false, false, false] rfl rfl (any_of HT_.out (by kernel_rfl)) (fun _ _ _ h => h) (Or.inl ⟨by rfl, ?_⟩) ?_ ?_
                          rotate_left
                          · intro w'
                            go_simp
                            with_reducible rfl
                          rotate_left
                          · simp only [Act.put, List.setIfInBounds_toArray, List.set_cons_zero, List.set_cons_succ, i64_w, i32_w]
                            rfl
                          refine pure_ (i := 7) (N := some 46) (v := ?_) (a' := ?_) #[true, true, true, false, true, true, true, true, false, false, false, false, false, false, false, false, false] rfl rfl (any_of HT_.out (by kernel_rfl)) (fun _ _ _ h => h) (Or.inl ⟨by rfl, ?_⟩) ?_ ?_
                          rotate_left
                          · intro w'
                            go_simp
                            with_reducible rfl
                          rotate_left
                          · simp only [Act.put, List.setIfInBounds_toArray, List.set_cons_zero, List.set_cons_succ, i64_w, i32_w]
                            rfl
                          refine pure_ (i := 8) (N := some 47) (v := ?_) (a' := ?_) #[true, true, true, false, true, true, true, true, true, false, false, false, false, false, false, false, false] rfl rfl (any_of HT_.out (by kernel_rfl)) (fun _ _ _ h => h) (Or.inl ⟨by rfl, ?_⟩) ?_ ?_
                          rotate_left
                          · intro w'
                            go_simp
                            with_reducible rfl
                          rotate_left
                          · simp only [Act.put, List.setIfInBounds_toArray, List.set_cons_zero, List.set_cons_succ, i64_w, i32_w]
                            rfl
                          refine pure_ (i := 9) (N := some 48) (v := ?_) (a' := ?_) #[true, true, true, false, true, true, true, true, true, true, false, false, false, false, false, false, false] rfl rfl (any_of HT_.out (by kernel_rfl)) (fun _ _ _ h => h) (Or.inl ⟨by rfl, ?_⟩) ?_ ?_
                          rotate_left
                          · intro w'
                            go_simp
                            with_reducible rfl
                          rotate_left
                          · simp only [Act.put, List.setIfInBounds_toArray, List.set_cons_zero, List.set_cons_succ, i64_w, i32_w]
                            rfl
                          refine pure_ (i := 10) (N := some 49) (v := ?_) (a' := ?_) #[true, true, true, false, true, true, true, true, true, true, true, false, false, false, false, false, false] rfl rfl (any_of HT_.out (by kernel_rfl)) (fun _ _ _ h => h) (Or.inl ⟨by rfl, ?_⟩) ?_ ?_
                          rotate_left
                          · intro w'
                            go_simp
                            with_reducible rfl
                          rotate_left
                          · simp only [Act.put, List.setIfInBounds_toArray, List.set_cons_zero, List.set_cons_succ, i64_w, i32_w]
                            rfl
                          refine pure_ (i := 11) (N := some 50) (v := ?_) (a' := ?_) #[true, true, true, false, true, true, true, true, true, true, true, true, false, false, false, false, false] rfl rfl (any_of HT_.out (by kernel_rfl)) (fun _ _ _ h => h) (Or.inl ⟨by rfl, ?_⟩) ?_ ?_
                          rotate_left
                          · intro w'
                            go_simp
                            with_reducible rfl
                          rotate_left
                          · simp only [Act.put, List.setIfInBounds_toArray, List.set_cons_zero, List.set_cons_succ, i64_w, i32_w]
                            rfl
                          refine take_ (i := 12) (N := some 51) (v := ?_) (a' := ?_) #[true, true, true, false, true, true, true, true, true, true, true, true, true, false, false, false, false] rfl rfl (take_ofW HT_.out HW_.out (by kernel_rfl)) (fun _ _ _ h => h) (Or.inl ⟨by rfl, ?_⟩) hHeld ?_ ?_
                          rotate_left
                          · intro w' s0
                            go_simp
                            with_reducible rfl
                          rotate_left
                          · simp only [Act.put, List.setIfInBounds_toArray, List.set_cons_zero, List.set_cons_succ, i64_w, i32_w]
                            rfl
                          refine one_ (i := 3) (N := some 42) #[true, true, true, true, true, true, true, true, true, true, true, true, true, false, false, false, false] rfl rfl (one_of HT_.out (by kernel_rfl)) (by decide) (fun K hK => ?_)
                          refine goes_ Try.func57 (by kernel_rfl) rfl #[.slice (some ad208) l0.length c0, .int .i64 x5_1, .int .i64 4] (by rfl) rfl rfl (by (try simp only [List.map_toArray, List.map_cons, List.map_nil]); first | done | rfl | (simp only [List.length_drop, List.length_take]; rfl)) ?_
                          with_reducible refine (undercroftref01_At.calls k1 _ _ l0 x5_1 4 t210 _ ?side1 ?side2 A10.out).mono ?_
                          (case side1 => repeat (first | exact (Kd.C_below HR0.out HB.out) | (with_reducible refine Kd.C_alloc ?_ _) | (with_reducible refine Kd.C_drewN ?_ _) | (with_reducible refine Kd.C_drew ?_)))
                          (case side2 => exact HC0.out)
                          rintro e w' ⟨rfl, ⟨nd, rfl⟩⟩
                          refine ⟨_, rfl, ?_⟩
                          refine hK.out _ _ (hcvW19 _ (by repeat (first | exact (Kd.C_below HR211.out HB.out) | (with_reducible refine Kd.C_alloc ?_ _) | (with_reducible refine Kd.C_drewN ?_ _) | (with_reducible refine Kd.C_drew ?_)))) (fun hHeld => ?_)
                          clear hK K
                          refine norm_ (a' := ?_) ?_ ?_
                          rotate_left
                          · show Act.put _ (some 42) _ = _
                            simp only [Act.put, List.setIfInBounds_toArray, List.set_cons_zero, List.set_cons_succ, i64_w, i32_w]
                            rfl
                          refine pure_ (i := 13) (N := some 52) (v := ?_) (a' := ?_) #[true, true, true, true, true, true, true, true, true, true, true, true, true, true, false, false, false] rfl rfl (any_of HT_.out (by kernel_rfl)) (fun _ _ _ h => h) (Or.inl ⟨by rfl, ?_⟩) ?_ ?_
                          rotate_left
                          · intro w'
                            go_simp
                            with_reducible rfl
                          rotate_left
                          · simp only [Act.put, List.setIfInBounds_toArray, List.set_cons_zero, List.set_cons_succ, i64_w, i32_w]
                            rfl
                          refine one_ (i := 14) (N := some 53) #[true, true, true, true, true, true, true, true, true, true, true, true, true, true, true, false, false] rfl rfl (one_of HT_.out (by kernel_rfl)) (by decide) (fun K hK => ?_)
                          refine value_ (w1 := ?_) (v := ?_) (by rfl) rfl ?_ ?_
                          rotate_left 2
                          · go_simp
                            constructor
                            · rfl
                            · rfl
                          refine hK.out _ _ (hcvW19 _ (by repeat (first | exact (Kd.C_below HR211.out HB.out) | (with_reducible refine Kd.C_alloc ?_ _) | (with_reducible refine Kd.C_drewN ?_ _) | (with_reducible refine Kd.C_drew ?_)))) (fun hHeld => ?_)
                          clear hK K
                          refine norm_ (a' := ?_) ?_ ?_
                          rotate_left
                          · show Act.put _ (some 53) _ = _
                            simp only [Act.put, List.setIfInBounds_toArray, List.set_cons_zero, List.set_cons_succ, i64_w, i32_w]
                            rfl
                          refine one_ (i := 15) (N := some 54) #[true, true, true, true, true, true, true, true, true, true, true, true, true, true, true, true, false] rfl rfl (one_of HT_.out (by kernel_rfl)) (by decide) (fun K hK => ?_)
                          refine Kd.R_append_step k54 (w0 := w) w.heap.size (by rfl) (.tmp 39) (.tmp 53) 41 54 (.agg #[(.string ⟨#[]⟩), (.int .i64 0)]) 24 rfl Try.underlying41 info54 rfl (by decide) (by omega) (.slice Ao16 x4_1.length co16) x4_1 (⟨strOfNums ((l0.take ((wrap64 ((ji11) + (wrap64 (rd l0 (ji6))))) : Int).toNat).drop ((ji11) : Int).toNat), t210⟩ : S54) [.string (strOfNums ((l0.take ((wrap64 ((ji11) + (wrap64 (rd l0 (ji6))))) : Int).toNat).drop ((ji11) : Int).toNat)), .int .i64 t210] (fun _ => True) (fun _ => False) rfl rfl ?aP (fun _ hk => hk.elim) ?aF ?aO ?aB ?aS ?aL ?_
                          (case aP => exact k54_mkM _ _ _ (⟨strOfNums ((l0.take ((wrap64 ((ji11) + (wrap64 (rd l0 (ji6))))) : Int).toNat).drop ((ji11) : Int).toNat), t210⟩ : S54))
                          (case aB => exact (by repeat (first | (with_reducible first | exact HB.out | apply below_alloc | apply pw_below_drewN | apply below_drew1) | exact HB.out)))
                          (case aF => exact (fun _ _ => trivial))
                          (case aO => exact (by (with_reducible repeat (first | apply Kd.R_alloc | apply Kd.R_drewN | apply Kd.R_drew)); exact HO_4.out))
                          (case aS => exact (below_size (by repeat (first | (with_reducible first | exact HB.out | apply below_alloc | apply pw_below_drewN | apply below_drew1) | exact HB.out))))
                          (case aL => have := LMc15.out; omega)
                          intro v213 w21 ho hb hg hat
                          rw [← Ny212.out] at ho
                          have n0_ := Aside0.mk (hb)
                          have n1_ := Aside0.mk (ho)
                          clear HB
                          clear HO_4
                          have HB := n0_
                          have HO214 := n1_
                          clear n0_ n1_
                          clear ho hb hg hat
                          refine hK.out _ _ (hcvW19 _ (by repeat (first | exact (Kd.C_below HR211.out HB.out) | (with_reducible refine Kd.C_alloc ?_ _) | (with_reducible refine Kd.C_drewN ?_ _) | (with_reducible refine Kd.C_drew ?_)))) (fun hHeld => ?_)
                          clear hK K
                          refine norm_ (a' := ?_) ?_ ?_
                          rotate_left
                          · show Act.put _ (some 54) _ = _
                            simp only [Act.put, List.setIfInBounds_toArray, List.set_cons_zero, List.set_cons_succ, i64_w, i32_w]
                            rfl
                          refine pure_ (i := 16) (N := some 4) (v := ?_) (a' := ?_) #[true, true, true, true, true, true, true, true, true, true, true, true, true, true, true, true, true] rfl rfl (any_of HT_.out (by kernel_rfl)) (fun _ _ _ h => h) (Or.inl ⟨by rfl, ?_⟩) ?_ ?_
                          rotate_left
                          · intro w'
                            go_simp
                            with_reducible rfl
                          rotate_left
                          · simp only [Act.put, List.setIfInBounds_toArray, List.set_cons_zero, List.set_cons_succ, i64_w, i32_w]
                            rfl
                          refine done_ (done_of HT_.out (by kernel_rfl)) ?_
                          try go_wp2
                          go_roundg k1
                          case measure => have := HK1.out; omega
                          case rel => exact ⟨(y212), (wrap64 (x5_1 + (wrap64 (5 + (wrap64 (rd l0 (ji6))))))), (wrap64 (x6_1 + 1)), (by first | rfl | (simp; done) | (simp only [← hji6] <;> (first | rfl | simp)) | (simp [*]; done)), (by first | rfl | (simp; done) | (simp [*]; done)), H', ⟨by have := HK1.out; omega⟩, ⟨by (with_reducible repeat (first | apply Kd.R_alloc | apply Kd.R_drewN | apply Kd.R_drew)); exact HO214.out⟩, ⟨by repeat (first | (with_reducible first | exact HB.out | apply below_alloc | apply pw_below_drewN | apply below_drew1) | exact HB.out)⟩⟩
                        · rw [if_neg c15] at H
                          exact absurd H (by simp)
                      · rw [if_neg c14] at H
                        exact absurd H (by simp)
                    · rw [if_neg c13] at H
                      exact absurd H (by simp)
                  · rw [if_neg c12] at H
                    exact absurd H (by simp)
              · rw [if_neg c8] at H
                exact absurd H (by simp)
            · rw [if_neg c7] at H
              exact absurd H (by simp)
        · rw [if_neg c4] at H
          have c4b0 : decide (x6_1 < t207) = false := decide_eq_false c4
          clear c4
          replace H := Option.bind_eq_some_iff.mp H
          obtain ⟨⟨t215, t216⟩, A220, H⟩ := H
          replace H : (if t216 = 0 then (if (strOfNums t215).toList = (strOfNums l0).toList then (some (x4_1, 0)) else (some (([] : List (S54)), 13))) else (some (([] : List (S54)), 13))) = some (r1, r2) := H
          have A22 := Aside0.mk A220
          clear A220
          by_cases c23 : t216 = 0
          · rw [if_pos c23] at H
            have c23b0 : (t216 == 0) = true := beq_iff_eq.mpr c23
            have c23b1 : (t216 != 0) = false := bne_eq_false_iff_eq.mpr c23
            clear c23
            by_cases c24 : (strOfNums t215).toList = (strOfNums l0).toList
            · rw [if_pos c24] at H
              have c24b0 : ((strOfNums t215).toList == (strOfNums l0).toList) = true := beq_iff_eq.mpr c24
              have c24b1 : ((strOfNums t215).toList != (strOfNums l0).toList) = false := bne_eq_false_iff_eq.mpr c24
              clear c24
              simp only [Option.some.injEq, Prod.mk.injEq] at H
              obtain ⟨rfl, rfl⟩ := H
              go_wp2_with (first | ((with_reducible refine gate_callee (f := 57) rfl ?_); refine goesL_ (some 15) rfl rfl Try.func57 (by kernel_rfl) rfl #[.slice A0 l0.length c0, .int .i64 0, .int .i64 2] rfl (by (try simp only [List.map_toArray, List.map_cons, List.map_nil]); first | done | rfl | (simp only [List.length_drop, List.length_take]; rfl)) ?_; (with_reducible refine (undercroftref01_At.calls k1 _ _ l0 0 2 t207 _ ?side1 ?side2 A3.out).mono ?_); (case side1 => repeat (first | exact (Kd.C_below HR0.out HB.out) | (with_reducible refine Kd.C_alloc ?_ _) | (with_reducible refine Kd.C_drewN ?_ _) | (with_reducible refine Kd.C_drew ?_))); (case side2 => exact HC0.out); rintro e w' ⟨rfl, ⟨nd, rfl⟩⟩; refine ⟨_, rfl, ?_⟩; obtain ⟨Ao25, co25, eo25⟩ := Kd.R_slice HO_4.out; subst eo25) | ((with_reducible refine gate_callee (f := 24) rfl ?_); refine goesL_ (some 61) rfl rfl Try.func24 (by kernel_rfl) rfl #[.slice Ao25 x4_1.length co25] rfl (by (try simp only [List.map_toArray, List.map_cons, List.map_nil]); first | done | rfl | (simp only [List.length_drop, List.length_take]; rfl)) ?_; (with_reducible refine (undercroftref11_Encode.calls k1 _ _ x4_1 t215 t216 _ ?side1 ?side2 A22.out).mono ?_); (case side1 => repeat (first | exact (Kd.R_reads' HO_4.out).2.2 | (with_reducible refine Kd.C_alloc ?_ _) | (with_reducible refine Kd.C_drewN ?_ _) | (with_reducible refine Kd.C_drew ?_))); (case side2 => exact (Kd.R_reads' HO_4.out).2.1); rintro e w26 ⟨v217, rfl, ho0, hb⟩; refine ⟨_, rfl, ?_⟩; have n0_ := Aside0.mk (Kd.R_below (by (with_reducible repeat (first | apply Kd.R_alloc | apply Kd.R_drewN | apply Kd.R_drew)); exact HO_4.out) hb); have n1_ := Aside0.mk (Kd.R_lower ho0 (below_size (by repeat (first | (with_reducible first | exact HB.out | apply below_alloc | apply pw_below_drewN | apply below_drew1) | exact HB.out)))); have n2_ := Aside0.mk (below_step (by repeat (first | (with_reducible first | exact HB.out | apply below_alloc | apply pw_below_drewN | apply below_drew1) | exact HB.out)) hb); clear HO_4; clear HB; have HO_4 := n0_; have HO218 := n1_; have HB := n2_; clear n0_ n1_ n2_; (try clear hb); (try clear hb2); (try clear hk); (try clear hi); (try clear ho0); have hcv27 := own_string (P := Try.prog) Try.underlying37 Try.underlying5 Try.underlying9 (Kd.own_of_R HO218.out); have hcv28 := Kd.C_string (P := Try.prog) (A := A0) (c := c0) Try.underlying37 Try.underlying5 Try.underlying9 (Kd.C_below HR0.out HB.out)))
              go_ret2
              exact ⟨_, by first | rfl | (simp [errW_none, errW_some] <;> rfl) | (simp [*, errW_none, errW_some] <;> rfl), by (with_reducible repeat (first | apply Kd.R_alloc | apply Kd.R_drewN | apply Kd.R_drew)); exact HO_4.out, by repeat (first | (with_reducible first | exact HB.out | apply below_alloc | apply pw_below_drewN | apply below_drew1) | exact HB.out)⟩
            · rw [if_neg c24] at H
              have c24b0 : ((strOfNums t215).toList == (strOfNums l0).toList) = false := beq_eq_false_iff_ne.mpr c24
              have c24b1 : ((strOfNums t215).toList != (strOfNums l0).toList) = true := bne_iff_ne.mpr c24
              simp only [Option.some.injEq, Prod.mk.injEq] at H
              obtain ⟨rfl, rfl⟩ := H
              go_wp2_with (first | ((with_reducible refine gate_callee (f := 57) rfl ?_); refine goesL_ (some 15) rfl rfl Try.func57 (by kernel_rfl) rfl #[.slice A0 l0.length c0, .int .i64 0, .int .i64 2] rfl (by (try simp only [List.map_toArray, List.map_cons, List.map_nil]); first | done | rfl | (simp only [List.length_drop, List.length_take]; rfl)) ?_; (with_reducible refine (undercroftref01_At.calls k1 _ _ l0 0 2 t207 _ ?side1 ?side2 A3.out).mono ?_); (case side1 => repeat (first | exact (Kd.C_below HR0.out HB.out) | (with_reducible refine Kd.C_alloc ?_ _) | (with_reducible refine Kd.C_drewN ?_ _) | (with_reducible refine Kd.C_drew ?_))); (case side2 => exact HC0.out); rintro e w' ⟨rfl, ⟨nd, rfl⟩⟩; refine ⟨_, rfl, ?_⟩; obtain ⟨Ao29, co29, eo29⟩ := Kd.R_slice HO_4.out; subst eo29) | ((with_reducible refine gate_callee (f := 24) rfl ?_); refine goesL_ (some 61) rfl rfl Try.func24 (by kernel_rfl) rfl #[.slice Ao29 x4_1.length co29] rfl (by (try simp only [List.map_toArray, List.map_cons, List.map_nil]); first | done | rfl | (simp only [List.length_drop, List.length_take]; rfl)) ?_; (with_reducible refine (undercroftref11_Encode.calls k1 _ _ x4_1 t215 t216 _ ?side1 ?side2 A22.out).mono ?_); (case side1 => repeat (first | exact (Kd.R_reads' HO_4.out).2.2 | (with_reducible refine Kd.C_alloc ?_ _) | (with_reducible refine Kd.C_drewN ?_ _) | (with_reducible refine Kd.C_drew ?_))); (case side2 => exact (Kd.R_reads' HO_4.out).2.1); rintro e w30 ⟨v217, rfl, ho0, hb⟩; refine ⟨_, rfl, ?_⟩; have n0_ := Aside0.mk (Kd.R_below (by (with_reducible repeat (first | apply Kd.R_alloc | apply Kd.R_drewN | apply Kd.R_drew)); exact HO_4.out) hb); have n1_ := Aside0.mk (Kd.R_lower ho0 (below_size (by repeat (first | (with_reducible first | exact HB.out | apply below_alloc | apply pw_below_drewN | apply below_drew1) | exact HB.out)))); have n2_ := Aside0.mk (below_step (by repeat (first | (with_reducible first | exact HB.out | apply below_alloc | apply pw_below_drewN | apply below_drew1) | exact HB.out)) hb); clear HO_4; clear HB; have HO_4 := n0_; have HO218 := n1_; have HB := n2_; clear n0_ n1_ n2_; (try clear hb); (try clear hb2); (try clear hk); (try clear hi); (try clear ho0); have hcv31 := own_string (P := Try.prog) Try.underlying37 Try.underlying5 Try.underlying9 (Kd.own_of_R HO218.out); have hcv32 := Kd.C_string (P := Try.prog) (A := A0) (c := c0) Try.underlying37 Try.underlying5 Try.underlying9 (Kd.C_below HR0.out HB.out)))
              go_ret2
              exact ⟨_, by first | rfl | (simp [errW_none, errW_some] <;> rfl) | (simp [*, errW_none, errW_some] <;> rfl), by first | exact Kd.R_nil _ _ _ _ _ | exact Kd.N_nil _ _ _ _ _ | exact Kd.V_nil _ _ _ _ _ | exact Kd.Q_nil _ _ _ _ _ | exact Kd.S_nil _ _ _ _ _, by repeat (first | (with_reducible first | exact HB.out | apply below_alloc | apply pw_below_drewN | apply below_drew1) | exact HB.out)⟩
          · rw [if_neg c23] at H
            have c23b0 : (t216 == 0) = false := beq_eq_false_iff_ne.mpr c23
            have c23b1 : (t216 != 0) = true := bne_iff_ne.mpr c23
            simp only [Option.some.injEq, Prod.mk.injEq] at H
            obtain ⟨rfl, rfl⟩ := H
            go_wp2_with (first | ((with_reducible refine gate_callee (f := 57) rfl ?_); refine goesL_ (some 15) rfl rfl Try.func57 (by kernel_rfl) rfl #[.slice A0 l0.length c0, .int .i64 0, .int .i64 2] rfl (by (try simp only [List.map_toArray, List.map_cons, List.map_nil]); first | done | rfl | (simp only [List.length_drop, List.length_take]; rfl)) ?_; (with_reducible refine (undercroftref01_At.calls k1 _ _ l0 0 2 t207 _ ?side1 ?side2 A3.out).mono ?_); (case side1 => repeat (first | exact (Kd.C_below HR0.out HB.out) | (with_reducible refine Kd.C_alloc ?_ _) | (with_reducible refine Kd.C_drewN ?_ _) | (with_reducible refine Kd.C_drew ?_))); (case side2 => exact HC0.out); rintro e w' ⟨rfl, ⟨nd, rfl⟩⟩; refine ⟨_, rfl, ?_⟩; obtain ⟨Ao33, co33, eo33⟩ := Kd.R_slice HO_4.out; subst eo33) | ((with_reducible refine gate_callee (f := 24) rfl ?_); refine goesL_ (some 61) rfl rfl Try.func24 (by kernel_rfl) rfl #[.slice Ao33 x4_1.length co33] rfl (by (try simp only [List.map_toArray, List.map_cons, List.map_nil]); first | done | rfl | (simp only [List.length_drop, List.length_take]; rfl)) ?_; (with_reducible refine (undercroftref11_Encode.calls k1 _ _ x4_1 t215 t216 _ ?side1 ?side2 A22.out).mono ?_); (case side1 => repeat (first | exact (Kd.R_reads' HO_4.out).2.2 | (with_reducible refine Kd.C_alloc ?_ _) | (with_reducible refine Kd.C_drewN ?_ _) | (with_reducible refine Kd.C_drew ?_))); (case side2 => exact (Kd.R_reads' HO_4.out).2.1); rintro e w34 ⟨v217, rfl, ho0, hb⟩; refine ⟨_, rfl, ?_⟩; have n0_ := Aside0.mk (Kd.R_below (by (with_reducible repeat (first | apply Kd.R_alloc | apply Kd.R_drewN | apply Kd.R_drew)); exact HO_4.out) hb); have n1_ := Aside0.mk (Kd.R_lower ho0 (below_size (by repeat (first | (with_reducible first | exact HB.out | apply below_alloc | apply pw_below_drewN | apply below_drew1) | exact HB.out)))); have n2_ := Aside0.mk (below_step (by repeat (first | (with_reducible first | exact HB.out | apply below_alloc | apply pw_below_drewN | apply below_drew1) | exact HB.out)) hb); clear HO_4; clear HB; have HO_4 := n0_; have HO218 := n1_; have HB := n2_; clear n0_ n1_ n2_; (try clear hb); (try clear hb2); (try clear hk); (try clear hi); (try clear ho0)))
            go_ret2
            exact ⟨_, by first | rfl | (simp [errW_none, errW_some] <;> rfl) | (simp [*, errW_none, errW_some] <;> rfl), by first | exact Kd.R_nil _ _ _ _ _ | exact Kd.N_nil _ _ _ _ _ | exact Kd.V_nil _ _ _ _ _ | exact Kd.Q_nil _ _ _ _ _ | exact Kd.S_nil _ _ _ _ _, by repeat (first | (with_reducible first | exact HB.out | apply below_alloc | apply pw_below_drewN | apply below_drew1) | exact HB.out)⟩
  · rw [if_neg c2] at H
    have c2b0 : ((l0.length : Int) == 256) = false := beq_eq_false_iff_ne.mpr c2
    have c2b1 : ((l0.length : Int) != 256) = true := bne_iff_ne.mpr c2
    simp only [Option.some.injEq, Prod.mk.injEq] at H
    obtain ⟨rfl, rfl⟩ := H
    go_enter Try.func31, Try.ntmps31
    go_wp2
    go_ret2
    exact ⟨_, by first | rfl | (simp [errW_none, errW_some] <;> rfl) | (simp [*, errW_none, errW_some] <;> rfl), by first | exact Kd.R_nil _ _ _ _ _ | exact Kd.N_nil _ _ _ _ _ | exact Kd.V_nil _ _ _ _ _ | exact Kd.Q_nil _ _ _ _ _ | exact Kd.S_nil _ _ _ _ _, by repeat (first | (with_reducible first | exact HB.out | apply below_alloc | apply pw_below_drewN | apply below_drew1) | exact HB.out)⟩
end Go.Proofs.Ytffaggckhneakaa.Pr
end
section
namespace Go.Proofs.Ytffaggckhneakaa.Pr
open Go.RowKit Go.Proofs.YtffaggckhneakaaW.PrintWords Go.Proofs.YtffaggckhneakaaW.PrintLast Go.Proofs.YtffaggckhneakaaW.PrintMore
attribute [local go_sem] max2_int min2_int max_two min_two max_three min_three max_four min_four
attribute [local go_sem] Go.Proofs.Ytffaggckhneakaa.Hl.str_geq Go.Proofs.Ytffaggckhneakaa.Hl.str_gtr Go.Proofs.Ytffaggckhneakaa.Hl.str_leq
set_option linter.unusedVariables false
set_option linter.unusedSimpArgs false
def undercroftlaw11_LeafDecodes.l0 : Nat → List Int → List (S54) → Int → List (S54) → Int → Int → Option (Bool)
  | 0, _, _, _, _, _, _ => none
  | k + 1, x3, x4, x5, x6, x7, x8 => if x8 < (x3.length : Int) then (if 0 ≤ x8 then (undercroftlaw11_LeafDecodes.l0 k (x3.set (x8 : Int).toNat (Go.bits .xor .u8 (rd x3 x8) 255)) x4 x5 x6 x7 (wrap64 (x8 + 1))) else (none)) else (if x5 = x7 then ((undercroftref11_Same.f k x4 x6).bind fun t236 => (some t236)) else (some false))
def undercroftlaw11_LeafDecodes.f (k : Nat) (l0 : List Int) : Option (Bool) := (undercroftlaw11_alive.f k).bind fun t219 => (if t219 = true then ((some (([] : List Int) : List Int)).bind fun y220 => (if y220.length + l0.length < 140737488355328 then ((some (y220 ++ l0 : List Int)).bind fun y223 => ((leaf_Decode.f k y223).bind fun bt226 => ((undercroftref11_Decode.f k l0).bind fun bt230 => (undercroftlaw11_LeafDecodes.l0 k y223 bt226.1 bt226.2 bt230.1 bt230.2 0)))) else (none))) else (some false))
set_option maxHeartbeats 8000000 in
set_option maxRecDepth 100000 in
theorem undercroftlaw11_LeafDecodes.calls (k : Nat) (A0 : Option Addr) (c0 : Nat) (l0 : List Int) (r : Bool) (w : World) (hr0 : Kd.C (Kd.int .u8) w A0 l0.length l0) (hc0 : l0.length ≤ c0) (h : undercroftlaw11_LeafDecodes.f k l0 = some r) :
    Calls Try.prog 7 #[.slice A0 l0.length c0] w fun e w' => e = .returned (.bool r) ∧ Below w.heap.size w w' := by
  have HR0 := Aside0.mk hr0
  have HC0 := Aside0.mk hc0
  clear hr0 hc0
  have HB := Aside0.mk (Below.refl w.heap.size w)
  have H : ((undercroftlaw11_alive.f k).bind fun t219 => (if t219 = true then ((some (([] : List Int) : List Int)).bind fun y220 => (if y220.length + l0.length < 140737488355328 then ((some (y220 ++ l0 : List Int)).bind fun y223 => ((leaf_Decode.f k y223).bind fun bt226 => ((undercroftref11_Decode.f k l0).bind fun bt230 => (undercroftlaw11_LeafDecodes.l0 k y223 bt226.1 bt226.2 bt230.1 bt230.2 0)))) else (none))) else (some false))) = some r := h
  clear h
  replace H := Option.bind_eq_some_iff.mp H
  obtain ⟨t219, A20, H⟩ := H
  replace H : (if t219 = true then ((some (([] : List Int) : List Int)).bind fun y220 => (if y220.length + l0.length < 140737488355328 then ((some (y220 ++ l0 : List Int)).bind fun y223 => ((leaf_Decode.f k y223).bind fun bt226 => ((undercroftref11_Decode.f k l0).bind fun bt230 => (undercroftlaw11_LeafDecodes.l0 k y223 bt226.1 bt226.2 bt230.1 bt230.2 0)))) else (none))) else (some false)) = some r := H
  have A2 := Aside0.mk A20
  clear A20
  by_cases c3 : t219 = true
  · subst c3
    have H1 : ((some (([] : List Int) : List Int)).bind fun y220 => (if y220.length + l0.length < 140737488355328 then ((some (y220 ++ l0 : List Int)).bind fun y223 => ((leaf_Decode.f k y223).bind fun bt226 => ((undercroftref11_Decode.f k l0).bind fun bt230 => (undercroftlaw11_LeafDecodes.l0 k y223 bt226.1 bt226.2 bt230.1 bt230.2 0)))) else (none))) = some r := by rw [if_pos rfl] at H; exact H
    clear H
    have H := H1
    clear H1
    obtain ⟨y220, hy220⟩ : ∃ y_ : List Int, y_ = (([] : List Int)) := ⟨_, rfl⟩
    replace H : (if y220.length + l0.length < 140737488355328 then ((some (y220 ++ l0 : List Int)).bind fun y223 => ((leaf_Decode.f k y223).bind fun bt226 => ((undercroftref11_Decode.f k l0).bind fun bt230 => (undercroftlaw11_LeafDecodes.l0 k y223 bt226.1 bt226.2 bt230.1 bt230.2 0)))) else (none)) = some r := by first | (rw [hy220]; with_reducible exact H) | (have H2_ := (Option.bind_some _ _).symm.trans H; rw [hy220]; with_reducible exact H2_) | (have H2_ := (Option.bind_some _ _).symm.trans H; with_reducible exact H2_) | with_reducible exact H | (rw [hy220]; exact H) | exact H
    have Ny220 := Aside0.mk hy220
    clear hy220
    by_cases c4 : y220.length + l0.length < 140737488355328
    · rw [if_pos c4] at H
      have LMc4 := Aside0.mk c4
      clear c4
      obtain ⟨y223, hy223⟩ : ∃ y_ : List Int, y_ = (y220 ++ l0) := ⟨_, rfl⟩
      replace H : ((leaf_Decode.f k y223).bind fun bt226 => ((undercroftref11_Decode.f k l0).bind fun bt230 => (undercroftlaw11_LeafDecodes.l0 k y223 bt226.1 bt226.2 bt230.1 bt230.2 0))) = some r := by first | (rw [hy223]; with_reducible exact H) | (have H2_ := (Option.bind_some _ _).symm.trans H; rw [hy223]; with_reducible exact H2_) | (have H2_ := (Option.bind_some _ _).symm.trans H; with_reducible exact H2_) | with_reducible exact H | (rw [hy223]; exact H) | exact H
      have Ny223 := Aside0.mk hy223
      clear hy223
      replace H := Option.bind_eq_some_iff.mp H
      obtain ⟨⟨t226, t227⟩, A50, H⟩ := H
      replace H : ((undercroftref11_Decode.f k l0).bind fun bt230 => (undercroftlaw11_LeafDecodes.l0 k y223 t226 t227 bt230.1 bt230.2 0)) = some r := H
      have A5 := Aside0.mk A50
      clear A50
      replace H := Option.bind_eq_some_iff.mp H
      obtain ⟨⟨t230, t231⟩, A60, H⟩ := H
      replace H : (undercroftlaw11_LeafDecodes.l0 k y223 t226 t227 t230 t231 0) = some r := H
      have A6 := Aside0.mk A60
      clear A60
      have H' := Aside0.mk H
      clear H
      go_enter Try.func7, Try.ntmps7
      go_wp2_with (first | ((with_reducible refine gate_callee (f := 22) rfl ?_); refine goesL_ (some 9) rfl rfl Try.func22 (by kernel_rfl) rfl #[] rfl (by (try simp only [List.map_toArray, List.map_cons, List.map_nil]); first | done | rfl | (simp only [List.length_drop, List.length_take]; rfl)) ?_; (with_reducible refine (undercroftlaw11_alive.calls k  true _ A2.out).mono ?_); rintro e w7 ⟨rfl, hb⟩; refine ⟨_, rfl, ?_⟩; have n0_ := Aside0.mk (below_step (by repeat (first | (with_reducible first | exact HB.out | apply below_alloc | apply pw_below_drewN | apply below_drew1) | exact HB.out)) hb); clear HB; have HB := n0_; clear n0_; (try clear hb); (try clear hb2); (try clear hk); (try clear hi)) | ((with_reducible refine gate_dst (N := 11) rfl ?_); refine Kd.R_lit (Kd.int .u8) _ 5 ?hg (N := 11) ?hd (xs := ([] : List Int)) (inner := []) (ok := fun _ => True) (okp := fun _ => True) ?hr ?hp (fun _ hk => hk) trivial (Below.refl _ _) (Nat.le_refl _) (by simp) ?_; (case hd => rfl); (case hg => rfl); (case hr => first | (go_simp; done) | (go_simp; rfl)); (case hp => exact (Reps.none _ _)); intro v221 w8 ho9 hb hg_ hnew_; clear hg_ hnew_; (first | rw [← Ny220.out] at ho9 | (simp only [Int.reduceToNat] at ho9; rw [← Ny220.out] at ho9)); have n0_ := Aside0.mk (Kd.R_lower ho9 (below_size (by repeat (first | (with_reducible first | exact HB.out | apply below_alloc | apply pw_below_drewN | apply below_drew1) | exact HB.out)))); have n1_ := Aside0.mk (below_step (by repeat (first | (with_reducible first | exact HB.out | apply below_alloc | apply pw_below_drewN | apply below_drew1) | exact HB.out)) hb); clear HB; have HO222 := n0_; have HB := n1_; clear n0_ n1_; clear hb ho9) | ((with_reducible refine gate_builtin (b := .append) (xs := #[.tmp 11, .tmp 12]) rfl ?_); at_builtin; refine Kd.R_append_rows (Kd.int .u8) (w0 := w) w.heap.size rfl (.tmp 11) (.tmp 12) 37 5 (.int .u8 0) 1 rfl Try.underlying37 info5 rfl (by decide) (by omega) v221 y220 l0 _ _ _ (fun _ => True) (fun _ => False) rfl rfl ?aO ?aR (fun _ _ h => h) (fun _ h => h.elim) ?aF ?aB ?aS ?aL ?_; (case aR => repeat (first | exact (Kd.C_below HR0.out HB.out) | (with_reducible refine Kd.C_alloc ?_ _) | (with_reducible refine Kd.C_drewN ?_ _) | (with_reducible refine Kd.C_drew ?_))); (case aB => exact (by repeat (first | (with_reducible first | exact HB.out | apply below_alloc | apply pw_below_drewN | apply below_drew1) | exact HB.out))); (case aF => exact (fun _ _ => trivial)); (case aO => exact (by (with_reducible repeat (first | apply Kd.R_alloc | apply Kd.R_drewN | apply Kd.R_drew)); exact HO222.out)); (case aS => exact (below_size (by repeat (first | (with_reducible first | exact HB.out | apply below_alloc | apply pw_below_drewN | apply below_drew1) | exact HB.out)))); (case aL => have := LMc4.out; omega); intro v224 w10 ho hb hg hat; rw [← Ny223.out] at ho; have n0_ := Aside0.mk (hb); have n1_ := Aside0.mk (ho); clear HB; clear HO222; have HB := n0_; have HO225 := n1_; clear n0_ n1_; clear ho hb hg hat; obtain ⟨Ao11, co11, eo11⟩ := Kd.R_slice HO225.out; subst eo11) | ((with_reducible refine gate_callee (f := 30) rfl ?_); refine goesL_ (some 16) rfl rfl Try.func30 (by kernel_rfl) rfl #[.slice Ao11 y223.length co11] rfl (by (try simp only [List.map_toArray, List.map_cons, List.map_nil]); first | done | rfl | (simp only [List.length_drop, List.length_take]; rfl)) ?_; (with_reducible refine (leaf_Decode.calls k _ _ y223 t226 t227 _ ?side1 ?side2 A5.out).mono ?_); (case side1 => repeat (first | exact (Kd.R_reads' HO225.out).2.2 | (with_reducible refine Kd.C_alloc ?_ _) | (with_reducible refine Kd.C_drewN ?_ _) | (with_reducible refine Kd.C_drew ?_))); (case side2 => exact (Kd.R_reads' HO225.out).2.1); rintro e w12 ⟨v228, rfl, ho0, hb⟩; refine ⟨_, rfl, ?_⟩; have n0_ := Aside0.mk (Kd.R_below (by (with_reducible repeat (first | apply Kd.R_alloc | apply Kd.R_drewN | apply Kd.R_drew)); exact HO225.out) hb); have n1_ := Aside0.mk (Kd.R_lower ho0 (below_size (by repeat (first | (with_reducible first | exact HB.out | apply below_alloc | apply pw_below_drewN | apply below_drew1) | exact HB.out)))); have n2_ := Aside0.mk (below_step (by repeat (first | (with_reducible first | exact HB.out | apply below_alloc | apply pw_below_drewN | apply below_drew1) | exact HB.out)) hb); clear HO225; clear HB; have HO225 := n0_; have HO229 := n1_; have HB := n2_; clear n0_ n1_ n2_; (try clear hb); (try clear hb2); (try clear hk); (try clear hi); (try clear ho0)) | ((with_reducible refine gate_callee (f := 31) rfl ?_); refine goesL_ (some 21) rfl rfl Try.func31 (by kernel_rfl) rfl #[.slice A0 l0.length c0] rfl (by (try simp only [List.map_toArray, List.map_cons, List.map_nil]); first | done | rfl | (simp only [List.length_drop, List.length_take]; rfl)) ?_; (with_reducible refine (undercroftref11_Decode.calls k _ _ l0 t230 t231 _ ?side1 ?side2 A6.out).mono ?_); (case side1 => repeat (first | exact (Kd.C_below HR0.out HB.out) | (with_reducible refine Kd.C_alloc ?_ _) | (with_reducible refine Kd.C_drewN ?_ _) | (with_reducible refine Kd.C_drew ?_))); (case side2 => exact HC0.out); rintro e w13 ⟨v232, rfl, ho0, hb⟩; refine ⟨_, rfl, ?_⟩; have n0_ := Aside0.mk (Kd.R_below (by (with_reducible repeat (first | apply Kd.R_alloc | apply Kd.R_drewN | apply Kd.R_drew)); exact HO225.out) hb); have n1_ := Aside0.mk (Kd.R_elder' (by (with_reducible repeat (first | apply Kd.R_alloc | apply Kd.R_drewN | apply Kd.R_drew)); exact HO229.out) (Kd.R_base ho0) hb); have n2_ := Aside0.mk (Kd.R_lower (Kd.R_new' ho0 (Kd.R_lt (by (with_reducible repeat (first | apply Kd.R_alloc | apply Kd.R_drewN | apply Kd.R_drew)); exact HO229.out))) (below_size (by repeat (first | (with_reducible first | exact HB.out | apply below_alloc | apply pw_below_drewN | apply below_drew1) | exact HB.out)))); have n3_ := Aside0.mk (below_step (by repeat (first | (with_reducible first | exact HB.out | apply below_alloc | apply pw_below_drewN | apply below_drew1) | exact HB.out)) hb); clear HO225; clear HO229; clear HB; have HO225 := n0_; have HO229 := n1_; have HO233 := n2_; have HB := n3_; clear n0_ n1_ n2_ n3_; (try clear hb); (try clear hb2); (try clear hk); (try clear hi); (try clear ho0)))
      go_loopg [8] k (fun kq v8 w' => ∃ (x3_1 : List Int) (x8_1 : Int), v8 = .int .i64 x8_1 ∧ Aside0 (undercroftlaw11_LeafDecodes.l0 kq x3_1 t226 t227 t230 t231 x8_1 = some r) ∧ Aside0 (kq ≤ k) ∧ Aside0 (Kd.R (Kd.int .u8) 5 w' w.heap.size (fun _ => True) (.slice Ao11 y223.length co11) x3_1) ∧ Aside0 (Kd.R k54 54 w' w.heap.size (fun k_ => some k_ ≠ (v232 : Value).ownBlock) v228 t226) ∧ Aside0 (Kd.R k54 54 w' w.heap.size (fun k_ => some k_ ≠ (v228 : Value).ownBlock) v232 t230) ∧ Aside0 (Below w.heap.size w w'))
      case atStart => exact ⟨(y223), (0), (by first | rfl | (simp; done) | (simp [*]; done)), H', ⟨Nat.le_refl _⟩, ⟨by (with_reducible repeat (first | apply Kd.R_alloc | apply Kd.R_drewN | apply Kd.R_drew)); exact HO225.out⟩, ⟨by (with_reducible repeat (first | apply Kd.R_alloc | apply Kd.R_drewN | apply Kd.R_drew)); exact Kd.R_mono HO229.out (fun _ hk => hk.2)⟩, ⟨by (with_reducible repeat (first | apply Kd.R_alloc | apply Kd.R_drewN | apply Kd.R_drew)); exact Kd.R_mono HO233.out (fun _ hk => hk.2)⟩, ⟨by repeat (first | (with_reducible first | exact HB.out | apply below_alloc | apply pw_below_drewN | apply below_drew1) | exact HB.out)⟩⟩
      case round =>
        clear H'
        try clear c2
        try clear p2
        try clear c3
        try clear c4
        try clear c7
        obtain ⟨x3_1, x8_1, rfl, HA, HK1, HO_3, HO_4, HO_6, HB⟩ := hrel
        have hl3_1 := (Kd.R_reads' HO_3.out).1
        rw [hl3_1] at HO_3
        (try simp only [hl3_1])
        (try simp only [hl3_1] at HO_4)
        (try simp only [hl3_1] at HO_6)
        cases gk with
        | zero => exact absurd HA.out (by intro h_; cases h_)
        | succ k1 =>
          have H := HA.out
          clear HA
          simp only [undercroftlaw11_LeafDecodes.l0] at H
          by_cases c14 : x8_1 < (x3_1.length : Int)
          · rw [if_pos c14] at H
            have c14b0 : decide (x8_1 < (x3_1.length : Int)) = true := decide_eq_true c14
            clear c14
            by_cases c15 : 0 ≤ x8_1
            · rw [if_pos c15] at H
              have c15b0 : decide (0 ≤ x8_1) = true := decide_eq_true c15
              clear c15
              obtain ⟨y235, hy235⟩ : ∃ y_ : List Int, y_ = (x3_1.set (x8_1 : Int).toNat (Go.bits .xor .u8 (rd x3_1 x8_1) 255)) := ⟨_, rfl⟩
              replace H : (undercroftlaw11_LeafDecodes.l0 k1 y235 t226 t227 t230 t231 (wrap64 (x8_1 + 1))) = some r := by first | (rw [hy235]; with_reducible exact H) | (have H2_ := (Option.bind_some _ _).symm.trans H; rw [hy235]; with_reducible exact H2_) | (have H2_ := (Option.bind_some _ _).symm.trans H; with_reducible exact H2_) | with_reducible exact H | (rw [hy235]; exact H) | exact H
              have Ny235 := Aside0.mk hy235
              clear hy235
              have H' := Aside0.mk H
              clear H
              have p234 : 0 ≤ (x8_1 : Int) := of_decide_eq_true (by first | (with_reducible assumption) | assumption)
              have q234 : x8_1 < (x3_1.length : Int) := of_decide_eq_true (by first | (with_reducible assumption) | assumption)
              obtain ⟨ad234, e234, hx234_0⟩ := Kd.at_int (Kd.R_reads' HO_3.out).2.2 x8_1 p234 q234
              cases e234
              replace p234 := eq_true p234
              replace q234 := eq_true q234
              have p16 : 0 ≤ (x8_1 : Int) := of_decide_eq_true (by first | (with_reducible assumption) | assumption)
              have q16 : (x8_1 : Int) < ((x3_1.length : Int) : Int) := of_decide_eq_true (by first | (with_reducible assumption) | assumption)
              obtain ⟨go16, co16, eo16, gb16, gl16, cl16, HG16⟩ := Kd.R_form HO_3.out (by omega)
              (first | cases eo16 | (injection eo16 with ea_ en_ ec_; (first | subst ea_ | (injection ea_ with ea_; subst ea_)); subst ec_; clear en_))
              have GB16 := Aside0.mk gb16
              have GG16 := Aside0.mk HG16
              clear gb16 gl16 HG16
              (first | simp only [add_plain] at hx234_0 | skip)
              obtain ⟨hx16_0, hf16_0⟩ := Kd.R_celln 0 HO_3.out (x8_1 : Int) p16 q16
              replace p16 := eq_true p16
              replace q16 := eq_true q16
              have HP17 := Kd.R_putg HO_3.out (x8_1 : Int) (Go.bits .xor .u8 (rd x3_1 x8_1) 255)
              go_wp2_with (first | ((with_reducible refine gate_store (t := 5) (p := 35) rfl ?_); refine store_event (t := 5) (p := 35) (v := ?vo_w18) (w1 := (wr.setCell ⟨go16, (x8_1 : Int).toNat, none⟩ (.int .u8 (Go.bits .xor .u8 (rd x3_1 x8_1) 255)))) ?hg ?ho ?hn ?hr ?_; (case ho => rfl); (case hg => rfl); (case hn => rfl); (case hr => first | (go_simp; done) | (go_simp; rfl)); intro w18 hw; have hg : wr.grownBy w18 (some go16) := (by rw [hw]; exact HP17.2); have hp_ : Kd.R (Kd.int .u8) 5 w18 w.heap.size (fun _ => True) (.slice (some ⟨go16, 0, none⟩) x3_1.length co11) y235 := (by rw [hw, Ny235.out]; exact HP17.1); clear HP17; have n0_ := Aside0.mk (hp_); have n1_ := Aside0.mk (Kd.R_over' (v := (.slice (some ⟨go16, 0, none⟩) x3_1.length co11)) (by (with_reducible repeat (first | apply Kd.R_alloc | apply Kd.R_drewN | apply Kd.R_drew)); exact HO_4.out) (Kd.R_typed HO_3.out) (by decide) hg); have n2_ := Aside0.mk (Kd.R_over' (v := (.slice (some ⟨go16, 0, none⟩) x3_1.length co11)) (by (with_reducible repeat (first | apply Kd.R_alloc | apply Kd.R_drewN | apply Kd.R_drew)); exact HO_6.out) (Kd.R_typed HO_3.out) (by decide) hg); have n3_ := Aside0.mk ((by rw [hw]; exact below_set (HB.out) GB16.out : Below w.heap.size w w18)); clear HO_3; clear HO_4; clear HO_6; clear HB; have HO_3 := n0_; have HO_4 := n1_; have HO_6 := n2_; have HB := n3_; clear n0_ n1_ n2_ n3_; clear hg hw hp_))
              (try simp only [← hl3_1])
              go_roundg k1
              case measure => have := HK1.out; omega
              case rel => exact ⟨(y235), (wrap64 (x8_1 + 1)), (by first | rfl | (simp; done) | (simp [*]; done)), H', ⟨by have := HK1.out; omega⟩, ⟨by (try simp only [hl3_1]); (with_reducible repeat (first | apply Kd.R_alloc | apply Kd.R_drewN | apply Kd.R_drew)); exact HO_3.out⟩, ⟨by (try simp only [hl3_1]); (with_reducible repeat (first | apply Kd.R_alloc | apply Kd.R_drewN | apply Kd.R_drew)); exact HO_4.out⟩, ⟨by (try simp only [hl3_1]); (with_reducible repeat (first | apply Kd.R_alloc | apply Kd.R_drewN | apply Kd.R_drew)); exact HO_6.out⟩, ⟨by repeat (first | (with_reducible first | exact HB.out | apply below_alloc | apply pw_below_drewN | apply below_drew1) | exact HB.out)⟩⟩
            · rw [if_neg c15] at H
              exact absurd H (by simp)
          · rw [if_neg c14] at H
            have c14b0 : decide (x8_1 < (x3_1.length : Int)) = false := decide_eq_false c14
            clear c14
            by_cases c19 : t227 = t231
            · rw [if_pos c19] at H
              have c19b0 : (t227 == t231) = true := beq_iff_eq.mpr c19
              have c19b1 : (t227 != t231) = false := bne_eq_false_iff_eq.mpr c19
              clear c19
              replace H := Option.bind_eq_some_iff.mp H
              obtain ⟨t236, A200, H⟩ := H
              replace H : (some t236) = some r := H
              have A20 := Aside0.mk A200
              clear A200
              obtain rfl := Option.some.inj H
              obtain ⟨Ao21, co21, eo21⟩ := Kd.R_slice HO_4.out
              subst eo21
              obtain ⟨Ao22, co22, eo22⟩ := Kd.R_slice HO_6.out
              subst eo22
              go_wp2_with (first | (go_at_call 29; (with_reducible refine (undercroftref11_Same.calls k1 _ _ t226 _ _ t230 t236 _ ?side1 ?side2 ?side3 ?side4 A20.out).mono ?_); (case side1 => repeat (first | exact (Kd.R_reads' HO_4.out).2.2 | (with_reducible refine Kd.C_alloc ?_ _) | (with_reducible refine Kd.C_drewN ?_ _) | (with_reducible refine Kd.C_drew ?_))); (case side2 => exact (Kd.R_reads' HO_4.out).2.1); (case side3 => repeat (first | exact (Kd.R_reads' HO_6.out).2.2 | (with_reducible refine Kd.C_alloc ?_ _) | (with_reducible refine Kd.C_drewN ?_ _) | (with_reducible refine Kd.C_drew ?_))); (case side4 => exact (Kd.R_reads' HO_6.out).2.1); rintro e w' ⟨rfl, ⟨nd, rfl⟩⟩))
              go_ret
              exact ⟨by first | rfl | (simp [errW_none, errW_some] <;> rfl) | (simp [*, errW_none, errW_some] <;> rfl), by repeat (first | (with_reducible first | exact HB.out | apply below_alloc | apply pw_below_drewN | apply below_drew1) | exact HB.out)⟩
            · rw [if_neg c19] at H
              have c19b0 : (t227 == t231) = false := beq_eq_false_iff_ne.mpr c19
              have c19b1 : (t227 != t231) = true := bne_iff_ne.mpr c19
              obtain rfl := Option.some.inj H
              go_wp2
              go_ret
              exact ⟨by first | rfl | (simp [errW_none, errW_some] <;> rfl) | (simp [*, errW_none, errW_some] <;> rfl), by repeat (first | (with_reducible first | exact HB.out | apply below_alloc | apply pw_below_drewN | apply below_drew1) | exact HB.out)⟩
    · rw [if_neg c4] at H
      exact absurd H (by simp)
  · replace c3 := Bool.eq_false_iff.mpr c3
    subst c3
    have H1 : (some false) = some r := by rw [if_neg (show ¬ (false = true) by decide)] at H; exact H
    clear H
    have H := H1
    clear H1
    obtain rfl := Option.some.inj H
    go_enter Try.func7, Try.ntmps7
    go_wp2_with (first | ((with_reducible refine gate_callee (f := 22) rfl ?_); refine goesL_ (some 9) rfl rfl Try.func22 (by kernel_rfl) rfl #[] rfl (by (try simp only [List.map_toArray, List.map_cons, List.map_nil]); first | done | rfl | (simp only [List.length_drop, List.length_take]; rfl)) ?_; (with_reducible refine (undercroftlaw11_alive.calls k  false _ A2.out).mono ?_); rintro e w23 ⟨rfl, hb⟩; refine ⟨_, rfl, ?_⟩; have n0_ := Aside0.mk (below_step (by repeat (first | (with_reducible first | exact HB.out | apply below_alloc | apply pw_below_drewN | apply below_drew1) | exact HB.out)) hb); clear HB; have HB := n0_; clear n0_; (try clear hb); (try clear hb2); (try clear hk); (try clear hi)))
    go_ret
    exact ⟨by first | rfl | (simp [errW_none, errW_some] <;> rfl) | (simp [*, errW_none, errW_some] <;> rfl), by repeat (first | (with_reducible first | exact HB.out | apply below_alloc | apply pw_below_drewN | apply below_drew1) | exact HB.out)⟩
def undercroftlaw11_LeafDecodes.Pure : Prop := ∀ (l0 : List Int), l0.length ≤ maxLen → l0.length * 1 ≤ 140737488351232 → (∀ x ∈ l0, (Lit.int .u8 x).wf = true) → ∃ k, undercroftlaw11_LeafDecodes.f k l0 = some true
theorem undercroftlaw11_LeafDecodes.walk (P : undercroftlaw11_LeafDecodes.Pure) (a0 : Option Addr) (len0 cap0 : Nat) (z0 : List Int) (w : World) (w0 : (a0 = none ∧ len0 = 0 ∧ cap0 = 0 ∧ z0 = []) ∨ ∃ x, a0 = some x ∧ len0 ≤ cap0 ∧ cap0 ≤ maxLen ∧ z0.length = cap0 ∧ (∀ i, i < z0.length → w.cell? (x.add i) = some (.int .u8 (z0.getD i 0))) ∧ ∀ n ∈ z0, (Lit.int .u8 n).wf = true) (y0 : len0 * 1 ≤ 140737488351232) :
    Calls Try.prog 7 #[.slice a0 len0 cap0] w fun e w' => e = .returned (.bool true) ∧ Below w.heap.size w w' := by
  obtain ⟨l0, rfl, hr0, hm0, hw0, hc0⟩ := ReadsInt.ofRowC w0
  obtain ⟨k, h⟩ := P l0 hm0 y0 hw0
  refine (undercroftlaw11_LeafDecodes.calls k _ _ l0 true w (Kd.C_of_reads (d := (0 : Int)) (h1 := fun _ => rfl) hr0) hc0 h).mono ?_
  rintro e w' ⟨rfl, hd⟩
  exact ⟨rfl, hd⟩
end Go.Proofs.Ytffaggckhneakaa.Pr
end
section
namespace Go.Proofs.Ytffaggckhneakaa.Cr
open Go.RowKit Go.Proofs.YtffaggckhneakaaW.PrintWords Go.Proofs.YtffaggckhneakaaW.PrintMore Go.Proofs.Ytffaggckhneakaa.Pr Go.Proofs.Ytffaggckhneakaa.Od
set_option linter.unusedVariables false
set_option linter.unusedSimpArgs false
theorem Ev.succ {α : Type} {g : Nat → Option α} {r : α} (h : Ev (fun k => g (k + 1)) r) : Ev g r := Ev.step (fun _ => rfl) h
theorem bs {α β : Type} (a : α) (f : α → Option β) : (some a).bind f = f a := by
  cases h : f a with
  | none => exact (Option.bind_some a f).trans h
  | some v => exact (Option.bind_some a f).trans h
theorem w64 {n : Int} (h0 : -9223372036854775808 ≤ n) (h1 : n ≤ 9223372036854775807) : wrap64 n = n := by unfold wrap64; omega
theorem u32w (n : Int) : IntKind.u32.wrap n = n % 4294967296 := by simp [IntKind.wrap, IntKind.signed, IntKind.bits]
theorem u64w (n : Int) : IntKind.u64.wrap n = n % 18446744073709551616 := by simp [IntKind.wrap, IntKind.signed, IntKind.bits]
theorem xor32 (a b : Int) : Go.bits .xor .u32 a b = ((BitVec.ofInt 32 a ^^^ BitVec.ofInt 32 b).toNat : Int) := by
  unfold Go.bits
  rw [u32w]
  have := (BitVec.ofInt 32 a ^^^ BitVec.ofInt 32 b).isLt
  show (((BitVec.ofInt 32 a ^^^ BitVec.ofInt 32 b).toNat : Nat) : Int) % 4294967296 = _
  omega
theorem and32 (a b : Int) : Go.bits .and .u32 a b = ((BitVec.ofInt 32 a &&& BitVec.ofInt 32 b).toNat : Int) := by
  unfold Go.bits
  rw [u32w]
  have := (BitVec.ofInt 32 a &&& BitVec.ofInt 32 b).isLt
  show (((BitVec.ofInt 32 a &&& BitVec.ofInt 32 b).toNat : Nat) : Int) % 4294967296 = _
  omega
theorem of_to (w : B32) : BitVec.ofInt 32 (w.toNat : Int) = w := by simp
theorem of_mod (c : Int) : BitVec.ofInt 32 (c % 4294967296) = BitVec.ofInt 32 c := by
  apply BitVec.eq_of_toNat_eq
  rw [BitVec.toNat_ofInt, BitVec.toNat_ofInt]
  omega
theorem half (w : B32) : ((w.toNat : Int) / (2 : Int)) = ((w >>> 1).toNat : Int) := by
  rw [BitVec.toNat_ushiftRight, Nat.shiftRight_eq_div_pow]; omega
theorem lsb_odd (w : B32) : w.getLsbD 0 = decide (w.toNat % 2 = 1) := by
  rw [BitVec.getLsbD, Nat.testBit_zero]
theorem and_one (w : B32) : (w &&& BitVec.ofInt 32 1).toNat = if w.getLsbD 0 then 1 else 0 := by
  rw [BitVec.toNat_and, lsb_odd]
  show w.toNat &&& 1 = _
  rw [Nat.and_one_is_mod]
  by_cases h : w.toNat % 2 = 1
  · simp [h]
  · simp [h]; omega
theorem round_prog (w : B32) : Go.bits .xor .u32 ((w.toNat : Int) / 2) (Go.bits .and .u32 2197175160 ((-(Go.bits .and .u32 (w.toNat : Int) 1)) % 4294967296)) = ((T w).toNat : Int) := by
  rw [half, xor32, of_to, and32, and32, of_to, of_to, and_one]
  unfold T
  by_cases h : w.getLsbD 0
  · rw [if_pos h, if_pos h]; rfl
  · rw [if_neg h, if_neg h]; rfl
theorem nibble_ev (w : B32) : Ev (fun k => crc_nibble.f k (w.toNat : Int)) ((Tn 4 w).toNat : Int) := by
  unfold crc_nibble.f
  have key : ∀ (n i : Nat) (v : B32), i + n = 4 → Ev (fun k => crc_nibble.l0 k (v.toNat : Int) (i : Int)) ((Tn n v).toNat : Int) := by
    intro n
    induction n with
    | zero =>
      intro i v hi
      refine Ev.succ ?_
      simp only [crc_nibble.l0, if_neg (show ¬((i : Int) < 4) by omega)]
      exact Ev.now _
    | succ n ih =>
      intro i v hi
      refine Ev.succ ?_
      simp only [crc_nibble.l0, if_pos (show (i : Int) < 4 by omega), round_prog, w64 (show -9223372036854775808 ≤ (i : Int) + 1 by omega) (by omega)]
      exact ih (i + 1) (T v) (by omega)
  exact key 4 0 w rfl
theorem low_half (w : B32) : (w &&& BitVec.ofInt 32 15) = BitVec.ofNat 32 (w.toNat % 16) := by
  apply BitVec.eq_of_toNat_eq
  rw [BitVec.toNat_and, BitVec.toNat_ofNat]
  show w.toNat &&& 15 = _
  rw [show (15 : Nat) = 2 ^ 4 - 1 from rfl, Nat.and_two_pow_sub_one_eq_mod]
  omega
theorem Tn4_high (v : B32) : Tn 4 (v <<< 4) = (v <<< 4) >>> 4 := by
  have h : ∀ k, k ≤ 4 → Tn k (v <<< 4) = (v <<< 4) >>> k := by
    intro k
    induction k with
    | zero => intro _; simp [Tn]
    | succ k ih =>
      intro hk
      rw [Tn_add k 1, ih (by omega)]
      show T _ = _
      rw [T_shift, ← BitVec.shiftRight_add]
      rw [BitVec.getLsbD_ushiftRight, BitVec.getLsbD_shiftLeft]
      simp; omega
  exact h 4 (Nat.le_refl _)
theorem nib_split (w : B32) : w = BitVec.ofNat 32 (w.toNat % 16) ^^^ ((w >>> 4) <<< 4) := by
  apply BitVec.eq_of_getLsbD_eq
  intro i hi
  rw [BitVec.getLsbD_xor, BitVec.getLsbD_shiftLeft, BitVec.getLsbD_ushiftRight]
  simp only [BitVec.getLsbD_ofNat, hi, decide_true, Bool.true_and]
  rw [show (16 : Nat) = 2 ^ 4 from rfl, Nat.testBit_mod_two_pow]
  by_cases h : i < 4
  · simp [h, BitVec.getLsbD]
  · have e : 4 + (i - 4) = i := by omega
    simp [h, e]
theorem nib (w : B32) : Tn 4 w = (w >>> 4) ^^^ Tn 4 (w &&& BitVec.ofInt 32 15) := by
  rw [low_half]
  conv => lhs; rw [nib_split w]
  rw [Tn_xor, Tn4_high, BitVec.xor_comm]
  congr 1
  apply BitVec.eq_of_getLsbD_eq
  intro i hi
  simp only [BitVec.getLsbD_ushiftRight, BitVec.getLsbD_shiftLeft]
  by_cases h : 4 + i < 32
  · simp [h]
  · have e : w.getLsbD (4 + i) = false := BitVec.getLsbD_of_ge _ _ (by omega)
    simp [h, e]
theorem sixteenth (w : B32) : ((w.toNat : Int) / (16 : Int)) = ((w >>> 4).toNat : Int) := by
  rw [BitVec.toNat_ushiftRight, Nat.shiftRight_eq_div_pow]; omega
theorem more_ev (bs : List Int) (h : bs.length < 512) (u : B32) : Ev (fun k => crc_More.f k (u.toNat : Int) bs) ((~~~ regB (~~~ u) bs).toNat : Int) := by
  unfold crc_More.f
  simp only [if_pos (show (bs.length : Int) < 512 by omega)]
  have key : ∀ (n i : Nat) (v : B32), i + n = bs.length → Ev (fun k => crc_More.l0 k (v.toNat : Int) bs (bs.length : Int) (i : Int)) ((~~~ regB v (bs.drop i)).toNat : Int) := by
    intro n
    induction n with
    | zero =>
      intro i v hi
      refine Ev.succ ?_
      simp only [crc_More.l0, if_neg (show ¬((i : Int) < (bs.length : Int)) by omega)]
      rw [List.drop_of_length_le (by omega), regB_nil, xor32, of_to]
      rw [show BitVec.ofInt 32 4294967295 = BitVec.allOnes 32 by decide, BitVec.allOnes_xor]
      exact Ev.now _
    | succ n ih =>
      intro i v hi
      refine Ev.succ ?_
      simp only [crc_More.l0]
      have hil : i < bs.length := by omega
      have e1 : Go.bits .xor .u32 (v.toNat : Int) (rd bs (i : Int) % 4294967296) = ((v ^^^ BitVec.ofInt 32 (rd bs i)).toNat : Int) := by rw [xor32, of_to, of_mod]
      have e2 : ∀ x : B32, Go.bits .and .u32 (x.toNat : Int) 15 = ((x &&& BitVec.ofInt 32 15).toNat : Int) := fun x => by rw [and32, of_to]
      have e3 : ∀ x y : B32, Go.bits .xor .u32 (x.toNat : Int) (y.toNat : Int) = ((x ^^^ y).toNat : Int) := fun x y => by rw [xor32, of_to, of_to]
      simp only [if_pos (show (i : Int) < (bs.length : Int) by omega), if_pos (show (0 : Int) ≤ (i : Int) by omega), e1, e2, sixteenth]
      refine Ev.bind (nibble_ev _) ?_
      simp only [e3, e2, ← nib]
      refine Ev.bind (nibble_ev _) ?_
      simp only [e3, sixteenth, ← nib]
      rw [w64 (by omega) (by omega), ← Tn_add 4 4, show (i : Int) + 1 = ((i + 1 : Nat) : Int) by omega]
      have := ih (i + 1) (Tn 8 (v ^^^ BitVec.ofInt 32 (rd bs i))) (by omega)
      rw [List.drop_eq_getElem_cons hil, regB_cons]
      have er : rd bs (i : Int) = bs[i] := by unfold rd; rw [List.getD_eq_getElem?_getD, Int.toNat_natCast, List.getElem?_eq_getElem hil]; rfl
      rw [er] at this ⊢
      exact this
  have := key bs.length 0 (~~~ u) (by omega)
  rw [List.drop_zero] at this
  have e : Go.bits .xor .u32 4294967295 (u.toNat : Int) = ((~~~ u).toNat : Int) := by
    rw [xor32, of_to, show BitVec.ofInt 32 4294967295 = BitVec.allOnes 32 by decide, BitVec.allOnes_xor]
  rw [e]
  exact this
theorem crc_sum_ev (bs : List Int) (h : bs.length < 512) : Ev (fun k => crc_Sum.f k bs) ((sumB bs).toNat : Int) := by
  unfold crc_Sum.f
  have := more_ev bs h 0#32
  refine Ev.bind this (Ev.now _)
theorem rstep_ev (w : B32) (c : Int) : Ev (fun k => undercroftref01_step.f k (w.toNat : Int) c) ((Tn 8 (w ^^^ BitVec.ofInt 32 c)).toNat : Int) := by
  unfold undercroftref01_step.f
  rw [xor32, of_to, of_mod]
  have key : ∀ (n i : Nat) (v : B32), i + n = 8 → Ev (fun k => undercroftref01_step.l0 k (v.toNat : Int) (i : Int)) ((Tn n v).toNat : Int) := by
    intro n
    induction n with
    | zero =>
      intro i v hi
      refine Ev.succ ?_
      simp only [undercroftref01_step.l0, if_neg (show ¬((i : Int) < 8) by omega)]
      exact Ev.now _
    | succ n ih =>
      intro i v hi
      refine Ev.succ ?_
      simp only [undercroftref01_step.l0, if_pos (show (i : Int) < 8 by omega), w64 (show -9223372036854775808 ≤ (i : Int) + 1 by omega) (by omega), and32, of_to, and_one, half]
      have h2 := ih (i + 1) (T v) (by omega)
      by_cases h : v.getLsbD 0
      · simp only [if_pos h, if_pos (show ((1 : Nat) : Int) = 1 from rfl), xor32, of_to]
        have e : T v = (v >>> 1) ^^^ BitVec.ofInt 32 2197175160 := by unfold T; rw [if_pos h]; rfl
        rw [← e]; exact h2
      · simp only [if_neg h, if_neg (show ¬ ((0 : Nat) : Int) = 1 by decide)]
        have e : T v = v >>> 1 := by unfold T; rw [if_neg h, BitVec.xor_zero]
        rw [← e]; exact h2
  exact key 8 0 _ rfl
theorem rsum_ev (bs : List Int) (h : bs.length < 9223372036854775807) : Ev (fun k => undercroftref01_Sum.f k bs) ((sumB bs).toNat : Int) := by
  unfold undercroftref01_Sum.f undercroftref01_More.f
  have key : ∀ (n i : Nat) (v : B32), i + n = bs.length → Ev (fun k => undercroftref01_More.l0 k bs (v.toNat : Int) (i : Int)) ((~~~ regB v (bs.drop i)).toNat : Int) := by
    intro n
    induction n with
    | zero =>
      intro i v hi
      refine Ev.succ ?_
      simp only [undercroftref01_More.l0, if_neg (show ¬((i : Int) < (bs.length : Int)) by omega)]
      rw [List.drop_of_length_le (by omega), regB_nil, xor32, of_to]
      rw [show BitVec.ofInt 32 4294967295 = BitVec.allOnes 32 by decide, BitVec.allOnes_xor]
      exact Ev.now _
    | succ n ih =>
      intro i v hi
      refine Ev.succ ?_
      simp only [undercroftref01_More.l0]
      have hil : i < bs.length := by omega
      simp only [if_pos (show (i : Int) < (bs.length : Int) by omega), if_pos (show (0 : Int) ≤ (i : Int) by omega)]
      refine Ev.bind (rstep_ev _ _) ?_
      rw [w64 (by omega) (by omega), show (i : Int) + 1 = ((i + 1 : Nat) : Int) by omega]
      have := ih (i + 1) (Tn 8 (v ^^^ BitVec.ofInt 32 (rd bs i))) (by omega)
      rw [List.drop_eq_getElem_cons hil, regB_cons]
      have er : rd bs (i : Int) = bs[i] := by unfold rd; rw [List.getD_eq_getElem?_getD, Int.toNat_natCast, List.getElem?_eq_getElem hil]; rfl
      rw [er] at this ⊢
      exact this
  have e : Go.bits .xor .u32 4294967295 0 = ((BitVec.allOnes 32).toNat : Int) := by decide
  rw [e]
  have := key bs.length 0 (BitVec.allOnes 32) (by omega)
  rw [List.drop_zero] at this
  exact Ev.bind this (Ev.now _)
theorem bytesN_len : ∀ n v, (bytesN n v).length = n
  | 0, _ => rfl
  | n + 1, v => by rw [bytesN, List.length_cons, bytesN_len n]
theorem bytesN_snoc : ∀ n v, bytesN (n + 1) v = bytesN n v ++ [((v / 256 ^ n % 256 : Nat) : Int)]
  | 0, v => by simp [bytesN]
  | n + 1, v => by
    rw [bytesN, bytesN_snoc n, bytesN, List.cons_append, Nat.div_div_eq_div_mul, Nat.pow_succ, Nat.mul_comm]
theorem bytesN_byte : ∀ n v, ∀ x ∈ bytesN n v, isByte x
  | 0, _, x, h => by simp [bytesN] at h
  | n + 1, v, x, h => by
    rw [bytesN] at h
    rcases List.mem_cons.1 h with rfl | h
    · constructor <;> omega
    · exact bytesN_byte n _ x h
theorem shr_byte (v i : Nat) (hi : i < 8) : shr .u64 (v : Int) (wrap64 (8 * (i : Int))) % 256 = ((v / 256 ^ i % 256 : Nat) : Int) := by
  rw [w64 (by omega) (by omega)]
  unfold shr
  have e : min (8 * (i : Int)).toNat IntKind.u64.bits = 8 * i := by
    show min _ 64 = _
    omega
  rw [e, show (256 : Nat) = 2 ^ 8 from rfl, ← Nat.pow_mul]
  rw [show ((2 : Int) ^ (8 * i)) = ((2 ^ (8 * i) : Nat) : Int) by push_cast; rfl]
  omega
theorem crc_bytes_ev (v n : Nat) (hn : n ≤ 8) : Ev (fun k => crc_Bytes.f k (v : Int) (n : Int)) (bytesN n v) := by
  have hm : mx 0 (mn (n : Int) 8) = n := by unfold mx mn; split <;> split <;> omega
  unfold crc_Bytes.f
  simp only [hm, if_pos (show (0 : Int) ≤ (n : Int) by omega), Option.bind_some, Int.toNat_natCast, List.length_replicate, if_pos (show n ≤ 281474976710656 by omega)]
  have key : ∀ (m i : Nat), i + m = n → Ev (fun k => crc_Bytes.l0 k (v : Int) (bytesN i v ++ List.replicate m 0) (n : Int) (i : Int)) (bytesN n v) := by
    intro m
    induction m with
    | zero =>
      intro i hi
      refine Ev.succ ?_
      simp only [crc_Bytes.l0, if_neg (show ¬((i : Int) < (n : Int)) by omega)]
      obtain rfl : i = n := by omega
      rw [List.replicate_zero, List.append_nil]
      exact Ev.now _
    | succ m ih =>
      intro i hi
      refine Ev.succ ?_
      have hl : (bytesN i v ++ List.replicate (m + 1) (0 : Int)).length = n := by rw [List.length_append, bytesN_len, List.length_replicate]; omega
      have h0 : 0 ≤ wrap64 (8 * (i : Int)) := by rw [w64 (by omega) (by omega)]; omega
      simp only [crc_Bytes.l0, if_pos (show (i : Int) < (n : Int) by omega), if_pos h0, if_pos (show (0 : Int) ≤ (i : Int) by omega), hl, shr_byte v i (by omega), Int.toNat_natCast, w64 (show -9223372036854775808 ≤ (i : Int) + 1 by omega) (by omega)]
      have hs : (bytesN i v ++ List.replicate (m + 1) (0 : Int)).set i ((v / 256 ^ i % 256 : Nat) : Int) = bytesN (i + 1) v ++ List.replicate m 0 := by
        rw [bytesN_snoc, List.set_append, if_neg (by rw [bytesN_len]; omega), bytesN_len, Nat.sub_self, List.replicate_succ, List.set_cons_zero, List.append_assoc]; rfl
      rw [hs]
      exact ih (i + 1) (by omega)
  exact key n 0 (by omega)
theorem rbytes_ev (v n : Nat) (hn : n ≤ 8) : Ev (fun k => undercroftref01_Bytes.f k (v : Int) (n : Int)) (bytesN n v) := by
  unfold undercroftref01_Bytes.f
  have key : ∀ (m i : Nat), i + m = n → Ev (fun k => undercroftref01_Bytes.l0 k (v : Int) (n : Int) (bytesN i v) (i : Int)) (bytesN n v) := by
    intro m
    induction m with
    | zero =>
      intro i hi
      refine Ev.succ ?_
      simp only [undercroftref01_Bytes.l0, if_neg (show ¬((i : Int) < (n : Int)) by omega)]
      obtain rfl : i = n := by omega
      exact Ev.now _
    | succ m ih =>
      intro i hi
      refine Ev.succ ?_
      have h0 : 0 ≤ wrap64 (8 * (i : Int)) := by rw [w64 (by omega) (by omega)]; omega
      simp only [undercroftref01_Bytes.l0, if_pos (show (i : Int) < (n : Int) by omega), if_pos h0, if_pos (show (i : Int) < 8 by omega), bytesN_len, if_pos (show i < 140737488355328 by omega), shr_byte v i (by omega), w64 (show -9223372036854775808 ≤ (i : Int) + 1 by omega) (by omega), ← bytesN_snoc]
      exact ih (i + 1) (by omega)
  exact key n 0 (by omega)
def numN : List Int → Nat
  | [] => 0
  | b :: bs => b.toNat + 256 * numN bs
theorem numN_lt : ∀ bs : List Int, (∀ x ∈ bs, isByte x) → numN bs < 256 ^ bs.length
  | [], _ => by simp [numN]
  | b :: bs, h => by
    have h1 := h b List.mem_cons_self
    have h2 := numN_lt bs (fun x hx => h x (List.mem_cons_of_mem _ hx))
    rw [numN, List.length_cons, Nat.pow_succ]
    unfold isByte at h1
    omega
theorem numN_bytesN : ∀ n v, v < 256 ^ n → numN (bytesN n v) = v
  | 0, v, h => by simp at h; subst h; rfl
  | n + 1, v, h => by
    rw [Nat.pow_succ] at h
    rw [bytesN, numN, numN_bytesN n _ (by omega), Int.toNat_natCast]
    omega
theorem numN_append : ∀ a b : List Int, numN (a ++ b) = numN a + 256 ^ a.length * numN b
  | [], b => by simp [numN]
  | x :: a, b => by
    rw [List.cons_append, numN, numN_append a b, numN, List.length_cons, Nat.pow_succ, Nat.mul_add, ← Nat.mul_assoc, Nat.mul_comm 256 (256 ^ _)]
    omega
theorem or64 (a b : Nat) (ha : a < 18446744073709551616) (hb : b < 18446744073709551616) : Go.bits .or .u64 (a : Int) (b : Int) = ((a ||| b : Nat) : Int) := by
  unfold Go.bits
  rw [u64w]
  have h := (BitVec.ofInt 64 (a : Int) ||| BitVec.ofInt 64 (b : Int)).isLt
  show (((BitVec.ofInt 64 (a : Int) ||| BitVec.ofInt 64 (b : Int)).toNat : Nat) : Int) % 18446744073709551616 = _
  have e : (BitVec.ofInt 64 (a : Int) ||| BitVec.ofInt 64 (b : Int)).toNat = a ||| b := by
    rw [BitVec.toNat_or]
    simp
    rw [Nat.mod_eq_of_lt ha, Nat.mod_eq_of_lt hb]
  rw [e] at h ⊢
  omega
theorem or_add (x b i : Nat) (hb : b < 2 ^ i) : x * 2 ^ i ||| b = x * 2 ^ i + b := by
  have := Nat.shiftLeft_add_eq_or_of_lt hb x
  rw [Nat.shiftLeft_eq] at this
  exact this.symm
theorem pow_le8 {n : Nat} (hn : n ≤ 8) : 256 ^ n ≤ 18446744073709551616 := Nat.le_trans (Nat.pow_le_pow_right (by decide) hn) (by decide)
theorem rd_get {bs : List Int} {i : Nat} (h : i < bs.length) : rd bs (i : Int) = bs[i] := by
  unfold rd; rw [List.getD_eq_getElem?_getD, Int.toNat_natCast, List.getElem?_eq_getElem h]; rfl
theorem crc_number_ev (bs : List Int) (hl : bs.length ≤ 8) (hb : ∀ x ∈ bs, isByte x) : Ev (fun k => crc_Number.f k bs) ((numN bs : Int), true) := by
  unfold crc_Number.f
  simp only [if_neg (show ¬ ((bs.length : Int) > 8) by omega)]
  have key : ∀ (i : Nat), i ≤ bs.length → Ev (fun k => crc_Number.l0 k bs ((numN (bs.drop i) : Nat) : Int) (wrap64 ((i : Int) - 1))) ((numN bs : Int), true) := by
    intro i
    induction i with
    | zero =>
      intro hi
      refine Ev.succ ?_
      simp only [crc_Number.l0]
      rw [show wrap64 (((0 : Nat) : Int) - 1) = -1 from by unfold wrap64; omega]
      simp only [if_neg (show ¬ ((-1 : Int) ≥ 0) by decide), List.drop_zero]
      exact Ev.now _
    | succ i ih =>
      intro hi
      refine Ev.succ ?_
      have hil : i < bs.length := by omega
      rw [w64 (by omega) (by omega), show ((i + 1 : Nat) : Int) - 1 = (i : Int) by omega]
      simp only [crc_Number.l0, if_pos (show (i : Int) ≥ 0 by omega), if_pos (show (i : Int) < (bs.length : Int) by omega), rd_get hil]
      have h1 : isByte bs[i] := hb _ (List.getElem_mem hil)
      have h2 := numN_lt (bs.drop (i + 1)) (fun x hx => hb x (List.mem_of_mem_drop hx))
      rw [List.length_drop] at h2
      have h3 : numN (bs.drop (i + 1)) < 256 ^ 7 := Nat.lt_of_lt_of_le h2 (Nat.pow_le_pow_right (by decide) (by omega))
      unfold isByte at h1
      have e : Go.bits .or .u64 (IntKind.u64.wrap (((numN (bs.drop (i + 1)) : Nat) : Int) * 256)) (IntKind.u64.wrap bs[i]) = ((numN (bs.drop i) : Nat) : Int) := by
        rw [u64w, u64w, show (((numN (bs.drop (i + 1)) : Nat) : Int) * 256) % 18446744073709551616 = ((numN (bs.drop (i + 1)) * 256 : Nat) : Int) by
          rw [show (256 : Nat) ^ 7 = 72057594037927936 from rfl] at h3; omega, show bs[i] % 18446744073709551616 = ((bs[i].toNat : Nat) : Int) by omega]
        rw [or64 _ _ (by rw [show (256 : Nat) ^ 7 = 72057594037927936 from rfl] at h3; omega) (by omega), show numN (bs.drop (i + 1)) * 256 = numN (bs.drop (i + 1)) * 2 ^ 8 from rfl, or_add _ _ _ (by omega)]
        rw [List.drop_eq_getElem_cons hil, numN]
        omega
      rw [e]
      exact ih (by omega)
  have := key bs.length (Nat.le_refl _)
  rw [List.drop_length] at this
  exact this
theorem rnumber_ev (bs : List Int) (hl : bs.length ≤ 8) (hb : ∀ x ∈ bs, isByte x) : Ev (fun k => undercroftref01_Number.f k bs) ((numN bs : Int), true) := by
  unfold undercroftref01_Number.f
  simp only [if_neg (show ¬ ((bs.length : Int) > 8) by omega)]
  have key : ∀ (m i : Nat), i + m = bs.length → Ev (fun k => undercroftref01_Number.l0 k bs ((numN (bs.take i) : Nat) : Int) (i : Int)) ((numN bs : Int), true) := by
    intro m
    induction m with
    | zero =>
      intro i hi
      refine Ev.succ ?_
      simp only [undercroftref01_Number.l0, if_neg (show ¬((i : Int) < (bs.length : Int)) by omega)]
      rw [List.take_of_length_le (by omega)]
      exact Ev.now _
    | succ m ih =>
      intro i hi
      refine Ev.succ ?_
      have hil : i < bs.length := by omega
      have h0 : 0 ≤ wrap64 (8 * (i : Int)) := by rw [w64 (by omega) (by omega)]; omega
      have h1 : isByte bs[i] := hb _ (List.getElem_mem hil)
      have h2 := numN_lt (bs.take i) (fun x hx => hb x (List.mem_of_mem_take hx))
      rw [List.length_take, Nat.min_eq_left (by omega)] at h2
      unfold isByte at h1
      have hp := pow_le8 (n := i) (by omega)
      have hp1 := pow_le8 (n := i + 1) (by omega)
      rw [Nat.pow_succ] at hp1
      have hq : bs[i].toNat * 256 ^ i < 18446744073709551616 := by
        have : bs[i].toNat * 256 ^ i < 256 * 256 ^ i := Nat.mul_lt_mul_of_pos_right (by omega) (Nat.pow_pos (by decide))
        omega
      have e : Go.bits .or .u64 ((numN (bs.take i) : Nat) : Int) (shl .u64 (IntKind.u64.wrap bs[i]) (wrap64 (8 * (i : Int)))) = ((numN (bs.take (i + 1)) : Nat) : Int) := by
        have es : shl .u64 (IntKind.u64.wrap bs[i]) (wrap64 (8 * (i : Int))) = ((bs[i].toNat * 256 ^ i : Nat) : Int) := by
          unfold shl
          rw [w64 (by omega) (by omega), u64w, u64w, show bs[i] % 18446744073709551616 = ((bs[i].toNat : Nat) : Int) by omega, show min (8 * (i : Int)).toNat IntKind.u64.bits = 8 * i by (show min _ 64 = _); omega]
          rw [show (256 : Nat) ^ i = 2 ^ (8 * i) by rw [Nat.pow_mul]] at hq ⊢
          rw [show ((2 : Int) ^ (8 * i)) = ((2 ^ (8 * i) : Nat) : Int) by push_cast; rfl, ← Int.natCast_mul]
          omega
        rw [es, or64 _ _ (by omega) hq, Nat.or_comm]
        have e8 : (256 : Nat) ^ i = 2 ^ (8 * i) := by rw [Nat.pow_mul]
        have h3 := or_add bs[i].toNat (numN (bs.take i)) (8 * i) (by rw [← e8]; exact h2)
        rw [← e8] at h3
        rw [h3, List.take_succ_eq_append_getElem hil, numN_append, List.length_take, Nat.min_eq_left (by omega)]
        simp only [numN, Nat.mul_zero, Nat.add_zero]
        rw [Nat.mul_comm, Nat.add_comm]
      simp only [undercroftref01_Number.l0, if_pos (show (i : Int) < (bs.length : Int) by omega), if_pos (show (0 : Int) ≤ (i : Int) by omega), if_pos h0, rd_get hil, e, w64 (show -9223372036854775808 ≤ (i : Int) + 1 by omega) (by omega)]
      exact ih (i + 1) (by omega)
  exact key bs.length 0 (by omega)
theorem rat_ev (bs : List Int) (hb : ∀ x ∈ bs, isByte x) (a n : Nat) (h : a + n ≤ bs.length) (hn : n ≤ 4) (hl : bs.length ≤ 9223372036854775807) : Ev (fun k => undercroftref01_At.f k bs (a : Int) (n : Int)) ((numN ((bs.take (a + n)).drop a) : Nat) : Int) := by
  unfold undercroftref01_At.f
  have hlen : ((bs.take (a + n)).drop a).length = n := by rw [List.length_drop, List.length_take]; omega
  have hbb : ∀ x ∈ (bs.take (a + n)).drop a, isByte x := fun x hx => hb x (List.mem_of_mem_take (List.mem_of_mem_drop hx))
  simp only [w64 (show -9223372036854775808 ≤ (a : Int) + (n : Int) by omega) (by omega), if_pos (show (0 : Int) ≤ (a : Int) by omega), if_pos (show (a : Int) ≤ (a : Int) + (n : Int) by omega), if_pos (show (a : Int) + (n : Int) ≤ (bs.length : Int) by omega), show ((a : Int) + (n : Int)).toNat = a + n by omega, Int.toNat_natCast]
  refine Ev.bind (rnumber_ev _ (by omega) hbb) ?_
  have := numN_lt _ hbb
  rw [hlen] at this
  have h4 : 256 ^ n ≤ 256 ^ 4 := Nat.pow_le_pow_right (by decide) hn
  rw [show (256 : Nat) ^ 4 = 4294967296 from rfl] at h4
  simp only []
  rw [w64 (by omega) (by omega)]
  exact Ev.now _
end Go.Proofs.Ytffaggckhneakaa.Cr
end
section
namespace Go.Proofs.Ytffaggckhneakaa.Lf
open Go.RowKit Go.Proofs.YtffaggckhneakaaW.PrintWords Go.Proofs.YtffaggckhneakaaW.PrintMore Go.Proofs.Ytffaggckhneakaa.Pr Go.Proofs.Ytffaggckhneakaa.Od Go.Proofs.Ytffaggckhneakaa.Cr
set_option linter.unusedVariables false
set_option linter.unusedSimpArgs false
abbrev E := S54
abbrev nb (e : E) : List UInt8 := e.f0.data.toList
theorem size_nb (s : ByteArray) : s.size = s.data.toList.length := Lib.size_eq _
def mayB (s : ByteArray) : Bool := decide (1 ≤ s.size) && decide (s.size ≤ 32) && decide (s.data.toList ≠ [46]) && decide (s.data.toList ≠ [46, 46]) && s.data.toList.all (fun b => b != 0 && b != 47)
theorem containsAny_cons (b : UInt8) (l : List UInt8) (cs : List UInt8) : Lib.containsAny (b :: l) cs = (cs.contains b || Lib.containsAny l cs) := by
  have h := Lib.indexAny_ge cs l
  unfold Lib.containsAny
  rw [Lib.indexAny]
  by_cases hb : cs.contains b = true
  · rw [if_pos hb, hb]; rfl
  · have hb' : cs.contains b = false := by simpa using hb
    rw [hb']
    simp only [Bool.false_eq_true, if_false, Bool.false_or]
    by_cases hi : Lib.indexAny l cs = -1
    · simp [hi]
    · have e : (Lib.indexAny l cs == -1) = false := beq_eq_false_iff_ne.2 hi
      rw [e]
      simp only [Bool.false_eq_true, if_false]
      rw [decide_eq_true (show (0 : Int) ≤ Lib.indexAny l cs + 1 by omega), decide_eq_true (show (0 : Int) ≤ Lib.indexAny l cs by omega)]
theorem containsAny_all : ∀ l : List UInt8, Lib.containsAny l [47, 0] = !(l.all (fun b => b != 0 && b != 47))
  | [] => rfl
  | b :: l => by
    rw [containsAny_cons, containsAny_all l, List.all_cons, Bool.not_and]
    congr 1
    simp only [List.contains_cons, List.contains_nil, Bool.or_false]
    by_cases h0 : b = 0
    · subst h0; rfl
    · by_cases h1 : b = 47
      · subst h1; rfl
      · have e0 : (b == 0) = false := beq_eq_false_iff_ne.2 h0
        have e1 : (b == 47) = false := beq_eq_false_iff_ne.2 h1
        rw [bne, bne, e0, e1]; rfl
theorem may_some (s : ByteArray) : leaf_May.f s = some (mayB s) := by
  unfold leaf_May.f mayB
  rw [Lib.toList_data]
  by_cases h0 : s.data.toList = []
  · have : s.size = 0 := by rw [size_nb, h0]; rfl
    rw [if_pos h0, this]; rfl
  · have hp : 1 ≤ s.size := by rw [size_nb]; have := List.length_pos_iff.2 h0; omega
    rw [if_neg h0]
    by_cases h1 : (s.size : Int) > 32
    · rw [if_pos h1, decide_eq_false (show ¬ s.size ≤ 32 by omega)]; simp
    · rw [if_neg h1, decide_eq_true (show s.size ≤ 32 by omega), decide_eq_true hp]
      by_cases h2 : s.data.toList = [46]
      · rw [if_pos h2]; simp [h2]
      · rw [if_neg h2]
        by_cases h3 : s.data.toList = [46, 46]
        · rw [if_pos h3]; simp [h3]
        · rw [if_neg h3]
          unfold strings_ContainsAny.f
          rw [if_pos ⟨rfl, by omega⟩, Option.bind_some, containsAny_all]
          simp [h2, h3]
theorem bt_get (s : ByteArray) (i : Nat) (h : i < s.data.toList.length) : bt s (i : Int) = (s.data.toList[i].toNat : Int) := by
  unfold bt
  rw [dif_pos (by rw [Int.toNat_natCast, size_nb]; exact h)]
  rfl
theorem rmay_ev (s : ByteArray) : Ev (fun k => undercroftref11_May.f k s) (mayB s) := by
  have key : ∀ (n i : Nat), i + n = s.data.toList.length → s.data.toList.length ≤ 32 → Ev (fun k => undercroftref11_May.l0 k s (i : Int)) ((s.data.toList.drop i).all (fun b => b != 0 && b != 47)) := by
    intro n
    induction n with
    | zero =>
      intro i hi h
      refine Ev.succ ?_
      simp only [undercroftref11_May.l0, if_neg (show ¬((i : Int) < (s.size : Int)) by rw [size_nb]; omega)]
      rw [List.drop_of_length_le (by omega)]
      exact Ev.now _
    | succ n ih =>
      intro i hi h
      refine Ev.succ ?_
      have hil : i < s.data.toList.length := by omega
      simp only [undercroftref11_May.l0, if_pos (show ((i : Int) < (s.size : Int)) by rw [size_nb]; omega), if_pos (show (0 : Int) ≤ (i : Int) by omega), bt_get s i hil]
      rw [List.drop_eq_getElem_cons hil, List.all_cons]
      generalize hb : s.data.toList[i] = b
      by_cases h0 : b = 0
      · subst h0
        simp only [if_pos (show (((0 : UInt8).toNat : Nat) : Int) = 0 from rfl)]
        exact Ev.now _
      · have h0' : ¬ ((b.toNat : Int) = 0) := fun e => h0 (UInt8.toNat_inj.1 (by rw [show (0 : UInt8).toNat = 0 from rfl]; omega))
        simp only [if_neg h0']
        by_cases h1 : b = 47
        · subst h1
          simp only [if_pos (show (((47 : UInt8).toNat : Nat) : Int) = 47 from rfl)]
          exact Ev.now _
        · have h1' : ¬ ((b.toNat : Int) = 47) := fun e => h1 (UInt8.toNat_inj.1 (by rw [show (47 : UInt8).toNat = 47 from rfl]; omega))
          simp only [if_neg h1', w64 (show -9223372036854775808 ≤ (i : Int) + 1 by omega) (by omega)]
          have e : ((b != 0 && b != 47) && (s.data.toList.drop (i + 1)).all (fun b => b != 0 && b != 47)) = (s.data.toList.drop (i + 1)).all (fun b => b != 0 && b != 47) := by simp [h0, h1]
          rw [e]
          exact ih (i + 1) (by omega) h
  unfold undercroftref11_May.f
  have hj : ∀ b, b = true → Ev (fun k => undercroftref11_May.j0 k s b) false := by
    rintro _ rfl
    refine Ev.succ ?_
    simp only [undercroftref11_May.j0, if_true]
    exact Ev.now _
  simp only [Lib.toList_data]
  unfold mayB
  by_cases h0 : (s.size : Int) < 1
  · simp only [if_pos h0, decide_eq_false (show ¬ 1 ≤ s.size by omega), Bool.false_and]
    exact hj _ rfl
  · simp only [if_neg h0, decide_eq_true (show 1 ≤ s.size by omega)]
    by_cases h1 : (s.size : Int) > 32
    · simp only [if_pos h1, decide_eq_false (show ¬ s.size ≤ 32 by omega), Bool.false_and, Bool.and_false]
      exact hj _ rfl
    · simp only [if_neg h1, decide_eq_true (show s.size ≤ 32 by omega)]
      by_cases h2 : s.data.toList = [46]
      · simp only [h2, if_true]
        exact hj _ rfl
      · simp only [if_neg h2]
        by_cases h3 : s.data.toList = [46, 46]
        · simp only [h3]
          exact hj _ rfl
        · refine Ev.succ ?_
          have e3 : (s.data.toList == ([46, 46] : List UInt8)) = false := beq_eq_false_iff_ne.2 h3
          simp only [undercroftref11_May.j0, e3, Bool.false_eq_true, if_false]
          rw [decide_eq_true h2, decide_eq_true h3]
          have := key s.data.toList.length 0 (by omega) (by rw [← size_nb]; omega)
          exact this
def okE (e : E) : Bool := mayB e.f0 && decide (0 ≤ e.f1) && decide (e.f1 ≤ 1048576)
def ahead (p : Option (List UInt8)) (e : E) : Bool := match p with | none => true | some q => less q (nb e)
def right : Option (List UInt8) → List E → Bool
  | _, [] => true
  | p, e :: l => okE e && ahead p e && right (some (nb e)) l
def sumL : List E → Nat
  | [] => 0
  | e :: l => 5 + e.f0.size + sumL l
def sizeR (l : List E) : Int × Int := if right none l = true then ((sumL l : Int), 0) else (0, 1)
theorem okE_size {e : E} (h : okE e = true) : 1 ≤ e.f0.size ∧ e.f0.size ≤ 32 := by
  simp only [okE, mayB, Bool.and_eq_true, decide_eq_true_eq] at h
  exact ⟨h.1.1.1.1.1.1, h.1.1.1.1.1.2⟩
theorem okE_num {e : E} (h : okE e = true) : 0 ≤ e.f1 ∧ e.f1 ≤ 1048576 := by
  simp only [okE, Bool.and_eq_true, decide_eq_true_eq] at h
  exact ⟨h.1.2, h.2⟩
theorem rdT_get {l : List E} {i : Nat} (h : i < l.length) : rd_T54 l (i : Int) = l[i] := by
  unfold rd_T54; rw [List.getD_eq_getElem?_getD, Int.toNat_natCast, List.getElem?_eq_getElem h]; rfl
def pv (l : List E) (i : Nat) : Option (List UInt8) := if i = 0 then none else some (nb (rd_T54 l ((i : Int) - 1)))
theorem pv_succ {l : List E} {i : Nat} (h : i < l.length) : pv l (i + 1) = some (nb l[i]) := by
  unfold pv
  rw [if_neg (by omega), show ((i + 1 : Nat) : Int) - 1 = (i : Int) by omega, rdT_get h]
theorem size_ev (l : List E) (hl : l.length < 5864062014805) : Ev (fun k => leaf_Size.f k l) (sizeR l) := by
  unfold leaf_Size.f
  have key : ∀ (n i acc : Nat), i + n = l.length → acc ≤ 37 * i → Ev (fun k => leaf_Size.l0 k l (acc : Int) l (l.length : Int) (i : Int)) (if right (pv l i) (l.drop i) = true then (((acc + sumL (l.drop i) : Nat) : Int), 0) else (0, 1)) := by
    intro n
    induction n with
    | zero =>
      intro i acc hi ha
      refine Ev.succ ?_
      simp only [leaf_Size.l0, if_neg (show ¬((i : Int) < (l.length : Int)) by omega)]
      rw [List.drop_of_length_le (by omega)]
      exact Ev.now _
    | succ n ih =>
      intro i acc hi ha
      refine Ev.succ ?_
      have hil : i < l.length := by omega
      have ih' := fun a h => ih (i + 1) a (by omega) h
      rw [pv_succ hil] at ih'
      simp only [leaf_Size.l0, if_pos (show ((i : Int) < (l.length : Int)) by omega), if_pos (show (0 : Int) ≤ (i : Int) by omega), rdT_get hil, may_some, Option.bind_some]
      rw [List.drop_eq_getElem_cons hil]
      generalize he : l[i] = e at ih' ⊢
      have hbad : ∀ b, b = false → right (pv l i) (e :: l.drop (i + 1)) = b → Ev (fun _ : Nat => (some (0, 1) : Option (Int × Int))) (if right (pv l i) (e :: l.drop (i + 1)) = true then (((acc + sumL (e :: l.drop (i + 1)) : Nat) : Int), 0) else (0, 1)) := by
        rintro _ rfl h
        rw [if_neg (by rw [h]; decide)]
        exact Ev.now _
      by_cases hm : mayB e.f0 = true
      · simp only [hm, if_true]
        by_cases h0 : e.f1 < 0
        · simp only [if_pos h0]
          exact hbad _ rfl (by simp [right, okE, decide_eq_false (show ¬ 0 ≤ e.f1 by omega)])
        · simp only [if_neg h0]
          by_cases h1 : e.f1 > 1048576
          · simp only [if_pos h1]
            exact hbad _ rfl (by simp [right, okE, decide_eq_false (show ¬ e.f1 ≤ 1048576 by omega)])
          · simp only [if_neg h1]
            have hok : okE e = true := by simp only [okE, hm, decide_eq_true (show 0 ≤ e.f1 by omega), decide_eq_true (show e.f1 ≤ 1048576 by omega)]; rfl
            have hs := okE_size hok
            have hw : wrap64 ((acc : Int) + wrap64 (5 + (e.f0.size : Int))) = ((acc + (5 + e.f0.size) : Nat) : Int) := by
              rw [w64 (n := 5 + (e.f0.size : Int)) (by omega) (by omega), w64 (by omega) (by omega)]; omega
            have hgo : Ev (fun k => leaf_Size.l0 k l ((acc + (5 + e.f0.size) : Nat) : Int) l (l.length : Int) (wrap64 ((i : Int) + 1))) (if right (some (nb e)) (l.drop (i + 1)) = true then (((acc + sumL (e :: l.drop (i + 1)) : Nat) : Int), 0) else (0, 1)) := by
              rw [w64 (by omega) (by omega), show acc + sumL (e :: l.drop (i + 1)) = (acc + (5 + e.f0.size)) + sumL (l.drop (i + 1)) by simp only [sumL]; omega]
              exact ih' _ (by omega)
            by_cases hi0 : i = 0
            · subst hi0
              simp only [if_neg (show ¬ (((0 : Nat) : Int) > 0) by decide), hw]
              have e1 : right (pv l 0) (e :: l.drop (0 + 1)) = right (some (nb e)) (l.drop (0 + 1)) := by simp [right, hok, pv, ahead]
              rw [e1]
              exact hgo
            · have hp : pv l i = some (nb (rd_T54 l ((i : Int) - 1))) := by unfold pv; rw [if_neg hi0]
              simp only [if_pos (show ((i : Int) > 0) by omega), w64 (show -9223372036854775808 ≤ (i : Int) - 1 by omega) (by omega), if_pos (show (0 : Int) ≤ (i : Int) - 1 by omega), if_pos (show (i : Int) - 1 < (l.length : Int) by omega), strings_Compare.f, Option.bind_some]
              have hc := compare_neg (rd_T54 l ((i : Int) - 1)).f0.data.toList e.f0.data.toList
              by_cases hlt : less (nb (rd_T54 l ((i : Int) - 1))) (nb e) = true
              · simp only [if_neg (show ¬ (Lib.compareBytes (rd_T54 l ((i : Int) - 1)).f0.data.toList e.f0.data.toList ≥ 0) by have := hc.2 hlt; omega), hw]
                have e1 : right (pv l i) (e :: l.drop (i + 1)) = right (some (nb e)) (l.drop (i + 1)) := by simp [right, hok, hp, ahead, hlt]
                rw [e1]
                exact hgo
              · simp only [if_pos (show (Lib.compareBytes (rd_T54 l ((i : Int) - 1)).f0.data.toList e.f0.data.toList ≥ 0) by
                  rcases Int.lt_or_le (Lib.compareBytes (rd_T54 l ((i : Int) - 1)).f0.data.toList e.f0.data.toList) 0 with h | h
                  · exact absurd (hc.1 h) hlt
                  · exact h)]
                exact hbad _ rfl (by simp [right, hp, ahead, hlt])
      · have hm' : mayB e.f0 = false := by simpa using hm
        simp only [hm', Bool.false_eq_true, if_false]
        exact hbad _ rfl (by simp [right, okE, hm'])
  have := key l.length 0 0 (by omega) (by omega)
  rw [List.drop_zero, Nat.zero_add] at this
  exact this
theorem rright_ev (l : List E) (hl : l.length < 5864062014805) : Ev (fun k => undercroftref11_Right.f k l) (right none l) := by
  unfold undercroftref11_Right.f
  have key : ∀ (n i : Nat), i + n = l.length → Ev (fun k => undercroftref11_Right.l0 k l (i : Int)) (right (pv l i) (l.drop i)) := by
    intro n
    induction n with
    | zero =>
      intro i hi
      refine Ev.succ ?_
      simp only [undercroftref11_Right.l0, if_neg (show ¬((i : Int) < (l.length : Int)) by omega)]
      rw [List.drop_of_length_le (by omega)]
      exact Ev.now _
    | succ n ih =>
      intro i hi
      refine Ev.succ ?_
      have hil : i < l.length := by omega
      have ih' := ih (i + 1) (by omega)
      rw [pv_succ hil] at ih'
      simp only [undercroftref11_Right.l0, if_pos (show ((i : Int) < (l.length : Int)) by omega), if_pos (show (0 : Int) ≤ (i : Int) by omega), rdT_get hil]
      rw [List.drop_eq_getElem_cons hil]
      generalize he : l[i] = e at ih' ⊢
      refine Ev.bind (rmay_ev e.f0) ?_
      by_cases hm : mayB e.f0 = true
      · simp only [hm, if_true]
        by_cases h0 : e.f1 < 0
        · simp only [if_pos h0]
          have : right (pv l i) (e :: l.drop (i + 1)) = false := by simp [right, okE, decide_eq_false (show ¬ 0 ≤ e.f1 by omega)]
          rw [this]
          exact Ev.now _
        · simp only [if_neg h0]
          by_cases h1 : e.f1 > 1048576
          · simp only [if_pos h1]
            have : right (pv l i) (e :: l.drop (i + 1)) = false := by simp [right, okE, decide_eq_false (show ¬ e.f1 ≤ 1048576 by omega)]
            rw [this]
            exact Ev.now _
          · simp only [if_neg h1]
            have hok : okE e = true := by simp only [okE, hm, decide_eq_true (show 0 ≤ e.f1 by omega), decide_eq_true (show e.f1 ≤ 1048576 by omega)]; rfl
            by_cases hi0 : i = 0
            · subst hi0
              simp only [if_neg (show ¬ (((0 : Nat) : Int) > 0) by decide), w64 (show -9223372036854775808 ≤ ((0 : Nat) : Int) + 1 by omega) (by omega)]
              have e1 : right (pv l 0) (e :: l.drop (0 + 1)) = right (some (nb e)) (l.drop (0 + 1)) := by simp [right, hok, pv, ahead]
              rw [e1]
              exact ih'
            · have hp : pv l i = some (nb (rd_T54 l ((i : Int) - 1))) := by unfold pv; rw [if_neg hi0]
              simp only [if_pos (show ((i : Int) > 0) by omega), w64 (show -9223372036854775808 ≤ (i : Int) - 1 by omega) (by omega), w64 (show -9223372036854775808 ≤ (i : Int) + 1 by omega) (by omega), if_pos (show (0 : Int) ≤ (i : Int) - 1 by omega), if_pos (show (i : Int) - 1 < (l.length : Int) by omega), Lib.toList_data]
              by_cases hlt : less (nb (rd_T54 l ((i : Int) - 1))) (nb e) = true
              · simp only [if_pos hlt]
                have e1 : right (pv l i) (e :: l.drop (i + 1)) = right (some (nb e)) (l.drop (i + 1)) := by simp [right, hok, hp, ahead, hlt]
                rw [e1]
                exact ih'
              · simp only [if_neg hlt]
                have : right (pv l i) (e :: l.drop (i + 1)) = false := by simp [right, hp, ahead, hlt]
                rw [this]
                exact Ev.now _
      · have hm' : mayB e.f0 = false := by simpa using hm
        simp only [hm', Bool.false_eq_true, if_false]
        have : right (pv l i) (e :: l.drop (i + 1)) = false := by simp [right, okE, hm']
        rw [this]
        exact Ev.now _
  have := key l.length 0 (by omega)
  rw [List.drop_zero] at this
  exact this
theorem rsum_ev' (l : List E) (hl : l.length < 5864062014805) (hr : right none l = true) : Ev (fun k => undercroftref11_Sum.f k l) ((sumL l : Nat) : Int) := by
  unfold undercroftref11_Sum.f
  have key : ∀ (n i acc : Nat), i + n = l.length → acc ≤ 37 * i → right (pv l i) (l.drop i) = true → Ev (fun k => undercroftref11_Sum.l0 k l (acc : Int) (i : Int)) ((acc + sumL (l.drop i) : Nat) : Int) := by
    intro n
    induction n with
    | zero =>
      intro i acc hi ha h
      refine Ev.succ ?_
      simp only [undercroftref11_Sum.l0, if_neg (show ¬((i : Int) < (l.length : Int)) by omega)]
      rw [List.drop_of_length_le (by omega)]
      exact Ev.now _
    | succ n ih =>
      intro i acc hi ha h
      refine Ev.succ ?_
      have hil : i < l.length := by omega
      rw [List.drop_eq_getElem_cons hil] at h ⊢
      simp only [right, Bool.and_eq_true] at h
      have hs := okE_size h.1.1
      have hw : wrap64 ((acc : Int) + wrap64 (5 + (l[i].f0.size : Int))) = ((acc + (5 + l[i].f0.size) : Nat) : Int) := by
        rw [w64 (n := 5 + (l[i].f0.size : Int)) (by omega) (by omega), w64 (by omega) (by omega)]; omega
      simp only [undercroftref11_Sum.l0, if_pos (show ((i : Int) < (l.length : Int)) by omega), if_pos (show (0 : Int) ≤ (i : Int) by omega), rdT_get hil, hw, w64 (show -9223372036854775808 ≤ (i : Int) + 1 by omega) (by omega)]
      rw [show acc + sumL (l[i] :: l.drop (i + 1)) = (acc + (5 + l[i].f0.size)) + sumL (l.drop (i + 1)) by simp only [sumL]; omega]
      exact ih (i + 1) _ (by omega) (by omega) (by rw [pv_succ hil]; exact h.2)
  have := key l.length 0 0 (by omega) (by omega) (by rw [List.drop_zero]; exact hr)
  rw [List.drop_zero, Nat.zero_add] at this
  exact this
theorem rsize_ev (l : List E) (hl : l.length < 5864062014805) : Ev (fun k => undercroftref11_Size.f k l) (sizeR l) := by
  unfold undercroftref11_Size.f sizeR
  refine Ev.bind (rright_ev l hl) ?_
  by_cases h : right none l = true
  · simp only [h, if_true]
    exact Ev.bind (rsum_ev' l hl h) (Ev.now _)
  · simp only [if_neg h]
    exact Ev.now _
end Go.Proofs.Ytffaggckhneakaa.Lf
end
section
namespace Go.Proofs.Ytffaggckhneakaa.Lf
open Go.RowKit Go.Proofs.YtffaggckhneakaaW.PrintWords Go.Proofs.YtffaggckhneakaaW.PrintMore Go.Proofs.Ytffaggckhneakaa.Pr Go.Proofs.Ytffaggckhneakaa.Od Go.Proofs.Ytffaggckhneakaa.Cr
set_option linter.unusedVariables false
set_option linter.unusedSimpArgs false
def entB (e : E) : List Int := bytesN 4 e.f1.toNat ++ bytesN 1 e.f0.size ++ bytesOf e.f0
def bodyL : List E → List Int
  | [] => []
  | e :: l => entB e ++ bodyL l
def headP (l : List E) : List Int := bytesN 2 l.length ++ bytesN 2 (sumL l)
def encP (l : List E) : List Int := headP l ++ bodyL l ++ List.replicate (252 - (4 + sumL l)) 0
def encR (l : List E) : List Int × Int := if right none l = true then (if sumL l > 248 then ([], 9) else (encP l ++ bytesN 4 (sumB (encP l)).toNat, 0)) else ([], 1)
theorem entB_len (e : E) : (entB e).length = 5 + e.f0.size := by
  simp only [entB, List.length_append, bytesN_len, bytesOf_length]
theorem bodyL_len : ∀ l, (bodyL l).length = sumL l
  | [] => rfl
  | e :: l => by rw [bodyL, List.length_append, entB_len, bodyL_len l, sumL]
theorem headP_len (l : List E) : (headP l).length = 4 := by simp [headP, bytesN_len]
theorem encP_len {l : List E} (h : sumL l ≤ 248) : (encP l).length = 252 := by
  rw [encP, List.length_append, List.length_append, headP_len, bodyL_len, List.length_replicate]; omega
theorem bytes_app {a b : List Int} (ha : ∀ x ∈ a, isByte x) (hb : ∀ x ∈ b, isByte x) : ∀ x ∈ a ++ b, isByte x := by
  intro x hx
  rcases List.mem_append.1 hx with h | h
  · exact ha x h
  · exact hb x h
theorem bodyL_byte : ∀ l, ∀ x ∈ bodyL l, isByte x
  | [] => by simp [bodyL]
  | e :: l => bytes_app (bytes_app (bytes_app (bytesN_byte _ _) (bytesN_byte _ _)) (isByte_bytesOf _)) (bodyL_byte l)
theorem encP_byte (l : List E) : ∀ x ∈ encP l, isByte x := by
  refine bytes_app (bytes_app (bytes_app (bytesN_byte _ _) (bytesN_byte _ _)) (bodyL_byte l)) ?_
  intro x hx
  rw [(List.mem_replicate.1 hx).2]
  unfold isByte; omega
theorem encR_byte (l : List E) : ∀ x ∈ (encR l).1, isByte x := by
  unfold encR
  split
  · split
    · simp
    · exact bytes_app (encP_byte l) (bytesN_byte _ _)
  · simp
theorem encR_len {l : List E} (h : (encR l).2 = 0) : (encR l).1.length = 256 := by
  unfold encR at h ⊢
  by_cases hr : right none l = true
  · rw [if_pos hr] at h ⊢
    by_cases hs : sumL l > 248
    · rw [if_pos hs] at h; cases h
    · rw [if_neg hs, List.length_append, encP_len (by omega), bytesN_len]
  · rw [if_neg hr] at h; cases h
theorem encR_iff {l : List E} : (encR l).2 = 0 ↔ right none l = true ∧ sumL l ≤ 248 := by
  unfold encR
  by_cases hr : right none l = true
  · rw [if_pos hr]
    by_cases hs : sumL l > 248
    · rw [if_pos hs]
      constructor
      · intro h; cases h
      · intro h; omega
    · rw [if_neg hs]
      exact ⟨fun _ => ⟨hr, by omega⟩, fun _ => rfl⟩
  · rw [if_neg hr]
    constructor
    · intro h; cases h
    · intro h; exact absurd h.1 hr
theorem u64n (n : Nat) (h : n < 18446744073709551616) : IntKind.u64.wrap (n : Int) = (n : Int) := by rw [u64w]; omega
theorem enc_ev (l : List E) (hl : l.length < 5864062014805) : Ev (fun k => leaf_Encode.f k l) (encR l) := by
  unfold leaf_Encode.f
  refine Ev.bind (size_ev l hl) ?_
  unfold sizeR encR
  by_cases hr : right none l = true
  · simp only [if_pos hr, if_true]
    by_cases hs : sumL l > 248
    · simp only [if_pos (show ((sumL l : Nat) : Int) > 248 by omega), if_pos hs]
      exact Ev.now _
    · simp only [if_neg (show ¬ ((sumL l : Nat) : Int) > 248 by omega), if_neg hs, u64n l.length (by omega), u64n (sumL l) (by omega)]
      refine Ev.bind (crc_bytes_ev _ 2 (by decide)) ?_
      refine Ev.bind (crc_bytes_ev _ 2 (by decide)) ?_
      have key : ∀ (n i : Nat) (b : List Int) (p : Option (List UInt8)), i + n = l.length → right p (l.drop i) = true → b.length + sumL (l.drop i) ≤ 252 → Ev (fun k => leaf_Encode.l0 k l (i : Int) b) (b ++ bodyL (l.drop i)) := by
        intro n
        induction n with
        | zero =>
          intro i b p hi h hb
          refine Ev.succ ?_
          simp only [leaf_Encode.l0, if_neg (show ¬((i : Int) < (l.length : Int)) by omega)]
          rw [List.drop_of_length_le (by omega), bodyL, List.append_nil]
          exact Ev.now _
        | succ n ih =>
          intro i b p hi h hb
          refine Ev.succ ?_
          have hil : i < l.length := by omega
          rw [List.drop_eq_getElem_cons hil] at h hb ⊢
          simp only [right, Bool.and_eq_true] at h
          simp only [sumL] at hb
          have hn := okE_num h.1.1
          have hz := okE_size h.1.1
          simp only [leaf_Encode.l0, if_pos (show ((i : Int) < (l.length : Int)) by omega), if_pos (show (0 : Int) ≤ (i : Int) by omega), rdT_get hil]
          rw [show IntKind.u64.wrap l[i].f1 = ((l[i].f1.toNat : Nat) : Int) by rw [u64w]; omega]
          refine Ev.bind (crc_bytes_ev _ 4 (by decide)) ?_
          rw [u64n l[i].f0.size (by omega)]
          refine Ev.bind (crc_bytes_ev _ 1 (by decide)) ?_
          simp only [bytesN_len, if_pos (show b.length + 4 + 1 + l[i].f0.size ≤ 140737488355328 by omega), w64 (show -9223372036854775808 ≤ (i : Int) + 1 by omega) (by omega)]
          have := ih (i + 1) (b ++ bytesN 4 l[i].f1.toNat ++ bytesN 1 l[i].f0.size ++ bytesOf l[i].f0) _ (by omega) h.2 (by simp only [List.length_append, bytesN_len, bytesOf_length]; omega)
          have e : b ++ bodyL (l[i] :: l.drop (i + 1)) = b ++ bytesN 4 l[i].f1.toNat ++ bytesN 1 l[i].f0.size ++ bytesOf l[i].f0 ++ bodyL (l.drop (i + 1)) := by simp only [bodyL, entB, List.append_assoc]
          rw [e]
          exact this
      have h0 := key l.length 0 (headP l) none (by omega) (by rw [List.drop_zero]; exact hr) (by rw [List.drop_zero, headP_len]; omega)
      rw [List.drop_zero] at h0
      refine Ev.bind h0 ?_
      have hlen : (headP l ++ bodyL l).length = 4 + sumL l := by rw [List.length_append, headP_len, bodyL_len]
      simp only [hlen, if_pos (show 4 + sumL l ≤ 252 by omega)]
      refine Ev.bind (crc_sum_ev _ (by rw [List.length_append, hlen, List.length_replicate]; omega)) ?_
      have hlt := (sumB (headP l ++ bodyL l ++ List.replicate (252 - (4 + sumL l)) 0)).isLt
      simp only [w64 (show -9223372036854775808 ≤ (((sumB (headP l ++ bodyL l ++ List.replicate (252 - (4 + sumL l)) 0)).toNat : Nat) : Int) by omega) (by omega), u64n _ (show (sumB (headP l ++ bodyL l ++ List.replicate (252 - (4 + sumL l)) 0)).toNat < 18446744073709551616 by omega)]
      exact Ev.bind (crc_bytes_ev _ 4 (by decide)) (Ev.now _)
  · simp only [if_neg hr, if_neg (show ¬ ((1 : Int) = 0) by decide)]
    exact Ev.now _
def tailR (b : List Int) (ms : List E) : List E × Int := if (encR ms).2 = 0 ∧ (encR ms).1 = b then (ms, 0) else ([], 13)
def decL (b : List Int) : Nat → Nat → List E → List E × Int
  | 0, _, ms => tailR b ms
  | m + 1, x, ms => if x + 5 > 252 then ([], 13) else (if x + 5 + numN ((b.take (x + 4 + 1)).drop (x + 4)) > 252 then ([], 13) else
      decL b m (x + 5 + numN ((b.take (x + 4 + 1)).drop (x + 4))) (ms ++ [⟨strOfNums ((b.take (x + 5 + numN ((b.take (x + 4 + 1)).drop (x + 4)))).drop (x + 5)), ((numN ((b.take (x + 4)).drop x) : Nat) : Int)⟩]))
def decR (b : List Int) : List E × Int := if b.length = 256 then decL b (numN (b.take 2)) 4 [] else ([], 13)
theorem slice_byte {b : List Int} (hb : ∀ x ∈ b, isByte x) (i j : Nat) : ∀ x ∈ (b.take j).drop i, isByte x := fun x hx => hb x (List.mem_of_mem_take (List.mem_of_mem_drop hx))
theorem slice_num {b : List Int} (hb : ∀ x ∈ b, isByte x) (i n : Nat) (h : i + n ≤ b.length) : numN ((b.take (i + n)).drop i) < 256 ^ n := by
  have h1 := numN_lt _ (slice_byte hb i (i + n))
  have hl : ((b.take (i + n)).drop i).length = n := by rw [List.length_drop, List.length_take]; omega
  rw [hl] at h1
  exact h1
theorem tail_ev (b : List Int) (hb : ∀ x ∈ b, isByte x) (ms : List E) (hm : ms.length < 5864062014805) : Ev (fun k => leaf_Decode.tail k b ms) (tailR b ms) := by
  unfold leaf_Decode.tail tailR
  refine Ev.bind (enc_ev ms hm) ?_
  by_cases h0 : (encR ms).2 = 0
  · simp only [if_pos h0, bytes_Equal.f, Option.bind_some, str_beq]
    by_cases h1 : (encR ms).1 = b
    · simp only [h1, h0, decide_true, if_true, and_self]
      exact Ev.now _
    · have : ¬ strOfNums (encR ms).1 = strOfNums b := fun e => h1 ((strOfNums_inj (encR_byte ms) hb).1 e)
      simp only [decide_eq_false this, Bool.false_eq_true, if_false, h1, and_false]
      exact Ev.now _
  · simp only [if_neg h0, h0, false_and, if_false]
    exact Ev.now _
theorem dec_ev (b : List Int) (hb : ∀ x ∈ b, isByte x) : Ev (fun k => leaf_Decode.f k b) (decR b) := by
  unfold leaf_Decode.f decR
  by_cases hl : b.length = 256
  · simp only [if_pos hl]
    have h2 : numN (b.take 2) < 65536 := by
      have := slice_num hb 0 2 (by omega)
      simpa using this
    have e2 : ((b.take (0 + 2 : Int).toNat).drop (0 : Int).toNat) = b.take 2 := rfl
    rw [e2]
    refine Ev.bind (crc_number_ev _ (by rw [List.length_take]; omega) (fun x hx => hb x (List.mem_of_mem_take hx))) ?_
    simp only [w64 (show -9223372036854775808 ≤ ((numN (b.take 2) : Nat) : Int) by omega) (by omega)]
    generalize numN (b.take 2) = n at h2
    have key : ∀ (m i x : Nat) (ms : List E), i + m = n → ms.length ≤ i → Ev (fun k => leaf_Decode.l0 k b (n : Int) (i : Int) (x : Int) ms) (decL b m x ms) := by
      intro m
      induction m with
      | zero =>
        intro i x ms hi hm
        refine Ev.succ ?_
        simp only [leaf_Decode.l0, if_neg (show ¬((i : Int) < (n : Int)) by omega), decL]
        exact tail_ev b hb ms (by omega)
      | succ m ih =>
        intro i x ms hi hm
        refine Ev.succ ?_
        simp only [leaf_Decode.l0, if_pos (show ((i : Int) < (n : Int)) by omega), if_pos (show (0 : Int) ≤ (x : Int) by omega), decL]
        by_cases hx : x + 5 > 252
        · simp only [if_pos hx, if_pos (show (x : Int) + 5 > 252 by omega)]
          exact Ev.now _
        · simp only [if_neg hx, if_neg (show ¬ (x : Int) + 5 > 252 by omega)]
          rw [show ((x : Int) + 4 + 1).toNat = x + 4 + 1 by omega, show ((x : Int) + 4).toNat = x + 4 by omega]
          have hv := slice_num hb (x + 4) 1 (by omega)
          refine Ev.bind (crc_number_ev _ (by rw [List.length_drop, List.length_take]; omega) (slice_byte hb _ _)) ?_
          generalize numN ((b.take (x + 4 + 1)).drop (x + 4)) = v at hv ⊢
          have hv' : v < 256 := by simpa using hv
          simp only [w64 (show -9223372036854775808 ≤ (v : Int) by omega) (by omega), if_pos (show (0 : Int) ≤ (v : Int) ∧ (v : Int) ≤ 255 by omega)]
          by_cases hy : x + 5 + v > 252
          · simp only [if_pos hy, if_pos (show (x : Int) + 5 + (v : Int) > 252 by omega)]
            exact Ev.now _
          · simp only [if_neg hy, if_neg (show ¬ (x : Int) + 5 + (v : Int) > 252 by omega)]
            rw [Int.toNat_natCast]
            have hu := slice_num hb x 4 (by omega)
            refine Ev.bind (crc_number_ev _ (by rw [List.length_drop, List.length_take]; omega) (slice_byte hb _ _)) ?_
            rw [show (256 : Nat) ^ 4 = 4294967296 from rfl] at hu
            generalize numN ((b.take (x + 4)).drop x) = u at hu ⊢
            simp only [if_pos (show ms.length < 5864062014805 by omega), w64 (show -9223372036854775808 ≤ (u : Int) by omega) (by omega), w64 (show -9223372036854775808 ≤ (i : Int) + 1 by omega) (by omega)]
            rw [show ((x : Int) + 5 + (v : Int)).toNat = x + 5 + v by omega, show ((x : Int) + 5).toNat = x + 5 by omega, show (x : Int) + 5 + (v : Int) = ((x + 5 + v : Nat) : Int) by omega]
            exact ih (i + 1) (x + 5 + v) _ (by omega) (by rw [List.length_append]; simp; omega)
    exact key n 0 4 [] (by omega) (by simp)
  · simp only [if_neg hl]
    exact Ev.now _
theorem drop_entB {b : List Int} {x : Nat} {e : E} {r : List Int} (h : b.drop x = entB e ++ r) (hs : e.f0.size < 256) (hn : 0 ≤ e.f1 ∧ e.f1 < 4294967296) :
    numN ((b.take (x + 4 + 1)).drop (x + 4)) = e.f0.size ∧ ((numN ((b.take (x + 4)).drop x) : Nat) : Int) = e.f1 ∧ strOfNums ((b.take (x + 5 + e.f0.size)).drop (x + 5)) = e.f0 ∧ b.drop (x + 5 + e.f0.size) = r := by
  have g : ∀ i j, (b.take (x + j)).drop (x + i) = ((b.drop x).take j).drop i := by
    intro i j
    rw [List.take_drop, List.drop_drop]
  have h1 : (b.drop x).take 4 = bytesN 4 e.f1.toNat := by
    rw [h, entB, List.append_assoc, List.append_assoc, List.take_append_of_le_length (by rw [bytesN_len]; omega), List.take_of_length_le (by rw [bytesN_len]; omega)]
  have h2 : ((b.drop x).take 5).drop 4 = bytesN 1 e.f0.size := by
    rw [h, entB, List.append_assoc, List.take_append_of_le_length (by rw [List.length_append, bytesN_len, bytesN_len]; omega), List.take_of_length_le (by rw [List.length_append, bytesN_len, bytesN_len]; omega), List.drop_append_of_le_length (by rw [bytesN_len]; omega), List.drop_of_length_le (by rw [bytesN_len]; omega), List.nil_append]
  have hh : (bytesN 4 e.f1.toNat ++ bytesN 1 e.f0.size).length = 5 := by rw [List.length_append, bytesN_len, bytesN_len]
  have h3 : ((b.drop x).take (5 + e.f0.size)).drop 5 = bytesOf e.f0 := by
    rw [h, List.take_append_of_le_length (by rw [entB_len]; omega), List.take_of_length_le (by rw [entB_len]; omega), entB, ← hh, List.drop_left]
  have h4 : (b.drop x).drop (5 + e.f0.size) = r := by rw [h, ← entB_len, List.drop_left]
  refine ⟨?_, ?_, ?_, ?_⟩
  · rw [show x + 4 + 1 = x + 5 by omega, g, h2, numN_bytesN _ _ (by omega)]
  · have := g 0 4
    rw [Nat.add_zero, List.drop_zero] at this
    rw [this, h1, numN_bytesN _ _ (by rw [show (256 : Nat) ^ 4 = 4294967296 from rfl]; omega)]
    omega
  · rw [Nat.add_assoc, g, h3, str_bytes]
  · rw [List.drop_drop] at h4
    rw [Nat.add_assoc]; exact h4
theorem sumL_append : ∀ a b : List E, sumL (a ++ b) = sumL a + sumL b
  | [], b => by simp [sumL]
  | e :: a, b => by rw [List.cons_append, sumL, sumL, sumL_append a b]; omega
theorem bodyL_append : ∀ a b : List E, bodyL (a ++ b) = bodyL a ++ bodyL b
  | [], b => rfl
  | e :: a, b => by rw [List.cons_append, bodyL, bodyL, bodyL_append a b, List.append_assoc]
theorem dec_enc {l : List E} (h : (encR l).2 = 0) : decR (encR l).1 = (l, 0) := by
  have hi := encR_iff.1 h
  have hlen := encR_len h
  have he : (encR l).1 = encP l ++ bytesN 4 (sumB (encP l)).toNat := by unfold encR; rw [if_pos hi.1, if_neg (by omega)]
  unfold decR
  rw [if_pos hlen]
  have hsum : 5 * l.length ≤ sumL l := by
    have : ∀ l : List E, 5 * l.length ≤ sumL l := by
      intro l
      induction l with
      | nil => simp [sumL]
      | cons e l ih => simp only [sumL, List.length_cons]; omega
    exact this l
  have hn : numN ((encR l).1.take 2) = l.length := by
    rw [he, encP, headP, List.append_assoc, List.append_assoc, List.append_assoc, List.take_append_of_le_length (by rw [bytesN_len]; omega), List.take_of_length_le (by rw [bytesN_len]; omega), numN_bytesN _ _ (by omega)]
  rw [hn]
  have hbody : ∃ r, (encR l).1 = headP l ++ (bodyL l ++ r) := ⟨List.replicate (252 - (4 + sumL l)) 0 ++ bytesN 4 (sumB (encP l)).toNat, by rw [he, encP]; simp only [List.append_assoc]⟩
  obtain ⟨r, hr⟩ := hbody
  have key : ∀ (suf pre : List E) p, pre ++ suf = l → right p suf = true → decL (encR l).1 suf.length (4 + sumL pre) pre = (l, 0) := by
    intro suf
    induction suf with
    | nil =>
      intro pre p hp _
      rw [List.append_nil] at hp
      subst hp
      simp only [List.length_nil, decL, tailR]
      rw [if_pos ⟨h, trivial⟩]
    | cons e suf ih =>
      intro pre p hp hrt
      simp only [right, Bool.and_eq_true] at hrt
      have hz := okE_size hrt.1.1
      have hnm := okE_num hrt.1.1
      have hsl : sumL l = sumL pre + (5 + e.f0.size + sumL suf) := by rw [← hp, sumL_append, sumL]
      have hd : (encR l).1.drop (4 + sumL pre) = entB e ++ (bodyL suf ++ r) := by
        rw [hr, ← hp, bodyL_append, bodyL]
        have e1 : headP (pre ++ e :: suf) ++ (bodyL pre ++ (entB e ++ bodyL suf) ++ r) = (headP (pre ++ e :: suf) ++ bodyL pre) ++ (entB e ++ (bodyL suf ++ r)) := by simp only [List.append_assoc]
        have e2 : (headP (pre ++ e :: suf) ++ bodyL pre).length = 4 + sumL pre := by rw [List.length_append, headP_len, bodyL_len]
        rw [e1, ← e2, List.drop_left]
      obtain ⟨d1, d2, d3, d4⟩ := drop_entB hd (by omega) (by omega)
      simp only [List.length_cons, decL, d1, d2, d3]
      rw [if_neg (by omega), if_neg (by omega)]
      have := ih (pre ++ [e]) _ (by rw [List.append_assoc]; exact hp) hrt.2
      rw [sumL_append] at this
      simp only [sumL] at this
      rw [show 4 + sumL pre + 5 + e.f0.size = 4 + (sumL pre + (5 + e.f0.size + 0)) by omega]
      exact this
  have := key l [] none rfl hi.1
  simpa [sumL] using this
theorem alive_list : (encR [(⟨⟨#[97]⟩, 5⟩ : E)]).2 = 0 := encR_iff.2 ⟨by decide, by decide⟩
end Go.Proofs.Ytffaggckhneakaa.Lf
end
section
namespace Go.Proofs.Ytffaggckhneakaa.Lf
open Go.RowKit Go.Proofs.YtffaggckhneakaaW.PrintWords Go.Proofs.YtffaggckhneakaaW.PrintMore Go.Proofs.Ytffaggckhneakaa.Pr Go.Proofs.Ytffaggckhneakaa.Od Go.Proofs.Ytffaggckhneakaa.Cr
set_option linter.unusedVariables false
set_option linter.unusedSimpArgs false
def one : List E := [⟨⟨#[97]⟩, 5⟩]
theorem one_ok : (encR one).2 = 0 := alive_list
theorem one_bytes : (encR one).1 = encP one ++ bytesN 4 (sumB (encP one)).toNat := by
  have hi := encR_iff.1 one_ok
  unfold encR; rw [if_pos hi.1, if_neg (by omega)]
theorem one_four : rd (encR one).1 4 = 5 := by
  rw [one_bytes]; rfl
theorem alive_ev : Ev (fun k => undercroftlaw11_alive.f k) true := by
  unfold undercroftlaw11_alive.f
  refine Ev.bind (enc_ev one (by decide)) ?_
  refine Ev.bind (dec_ev _ (encR_byte _)) ?_
  rw [dec_enc one_ok]
  refine Ev.bind (size_ev one (by decide)) ?_
  have e1 : sizeR one = (6, 0) := by unfold sizeR; rw [if_pos (encR_iff.1 one_ok).1]; rfl
  have e2 : (encR one).1.length = 256 := encR_len one_ok
  have e3 : rd_T54 one 0 = ⟨⟨#[97]⟩, 5⟩ := rfl
  have e4 : (⟨#[97]⟩ : ByteArray).toList = ([97] : List UInt8) := by rw [Lib.toList_data]
  have e5 : mayB ⟨#[97]⟩ = true := by decide
  have e6 : mayB ⟨#[46, 46]⟩ = false := by decide
  simp only [one_ok, e1, e2, e3, e4, one_four, if_true, may_some, e5, e6, Option.bind_some, Bool.not_false, show ((256 : Nat) : Int) = 256 from rfl, if_pos (show (4 : Int) < 256 by decide), show ((one.length : Nat) : Int) = 1 from rfl, if_pos (show (0 : Int) < 1 by decide)]
  exact Ev.now _
end Go.Proofs.Ytffaggckhneakaa.Lf
end
section
namespace Go.Proofs.Ytffaggckhneakaa.Lf
open Go.RowKit Go.Proofs.YtffaggckhneakaaW.PrintWords Go.Proofs.YtffaggckhneakaaW.PrintMore Go.Proofs.Ytffaggckhneakaa.Pr Go.Proofs.Ytffaggckhneakaa.Od Go.Proofs.Ytffaggckhneakaa.Cr
set_option linter.unusedVariables false
set_option linter.unusedSimpArgs false
set_option maxRecDepth 100000 in
theorem rl1_eq (k : Nat) (x6 : List Int) : undercroftref11_Encode.l1 (k + 1) x6 = if (x6.length : Int) < 252 then (if x6.length < 140737488355328 then (undercroftref11_Encode.l1 k (x6 ++ [0])) else (none)) else ((undercroftref01_Sum.f k x6).bind fun t172 => ((undercroftref01_Bytes.f k (IntKind.u64.wrap (t172)) 4).bind fun t173 => (if x6.length + t173.length < 140737488355328 then (some ((x6 ++ t173), 0)) else (none)))) := rfl
set_option maxRecDepth 100000 in
theorem rl0_eq (k : Nat) (x0 : List E) (x6 : List Int) (x7 : Int) : undercroftref11_Encode.l0 (k + 1) x0 x6 x7 = if x7 < (x0.length : Int) then (if 0 ≤ x7 then ((undercroftref01_Bytes.f k (IntKind.u64.wrap ((rd_T54 x0 x7).f1)) 4).bind fun t155 => (if x6.length + t155.length < 140737488355328 then ((some (x6 ++ t155 : List Int)).bind fun y158 => (if y158.length < 140737488355328 then ((some (y158 ++ [((((rd_T54 x0 x7).f0).size : Int)) % 256] : List Int)).bind fun y162 => (if y162.length + ((rd_T54 x0 x7).f0).size < 140737488355328 then (undercroftref11_Encode.l0 k x0 (y162 ++ bytesOf ((rd_T54 x0 x7).f0)) (wrap64 (x7 + 1))) else (none))) else (none))) else (none))) else (none)) else (undercroftref11_Encode.l1 k x6) := rfl
theorem rpad_ev (p : List Int) (hp : p.length ≤ 252) : Ev (fun k => undercroftref11_Encode.l1 k p) ((p ++ List.replicate (252 - p.length) 0) ++ bytesN 4 (sumB (p ++ List.replicate (252 - p.length) 0)).toNat, 0) := by
  have key : ∀ (n : Nat) (p : List Int), p.length + n = 252 → Ev (fun k => undercroftref11_Encode.l1 k p) ((p ++ List.replicate n 0) ++ bytesN 4 (sumB (p ++ List.replicate n 0)).toNat, 0) := by
    intro n
    induction n with
    | zero =>
      intro p hp
      refine Ev.succ ?_
      simp only [rl1_eq, if_neg (show ¬ (p.length : Int) < 252 by omega)]
      rw [List.replicate_zero, List.append_nil]
      refine Ev.bind (rsum_ev _ (by omega)) ?_
      have hlt := (sumB p).isLt
      rw [u64n _ (by omega)]
      refine Ev.bind (rbytes_ev _ 4 (by decide)) ?_
      simp only [bytesN_len, if_pos (show p.length + 4 < 140737488355328 by omega)]
      exact Ev.now _
    | succ n ih =>
      intro p hp
      refine Ev.succ ?_
      simp only [rl1_eq, if_pos (show (p.length : Int) < 252 by omega), if_pos (show p.length < 140737488355328 by omega)]
      rw [List.replicate_succ, show p ++ (0 : Int) :: List.replicate n 0 = (p ++ [0]) ++ List.replicate n 0 by simp]
      exact ih (p ++ [0]) (by rw [List.length_append]; simp; omega)
  exact key _ p (by omega)
theorem renc_ev (l : List E) (hl : l.length < 5864062014805) : Ev (fun k => undercroftref11_Encode.f k l) (encR l) := by
  unfold undercroftref11_Encode.f
  refine Ev.bind (rsize_ev l hl) ?_
  unfold sizeR encR
  by_cases hr : right none l = true
  · simp only [if_pos hr, if_true]
    by_cases hs : sumL l > 248
    · simp only [if_pos (show ((sumL l : Nat) : Int) > 248 by omega), if_pos hs]
      exact Ev.now _
    · simp only [if_neg (show ¬ ((sumL l : Nat) : Int) > 248 by omega), if_neg hs, u64n l.length (by omega), u64n (sumL l) (by omega)]
      refine Ev.bind (rbytes_ev _ 2 (by decide)) ?_
      refine Ev.bind (rbytes_ev _ 2 (by decide)) ?_
      simp only [bytesN_len, if_pos (show 2 + 2 < 140737488355328 by decide)]
      have hlen : (headP l ++ bodyL l).length = 4 + sumL l := by rw [List.length_append, headP_len, bodyL_len]
      have hend := rpad_ev (headP l ++ bodyL l) (by omega)
      rw [hlen] at hend
      have key : ∀ (n i : Nat) (b : List Int) (p : Option (List UInt8)), i + n = l.length → right p (l.drop i) = true → b.length + sumL (l.drop i) ≤ 252 → b ++ bodyL (l.drop i) = headP l ++ bodyL l → Ev (fun k => undercroftref11_Encode.l0 k l b (i : Int)) ((headP l ++ bodyL l ++ List.replicate (252 - (4 + sumL l)) 0) ++ bytesN 4 (sumB (headP l ++ bodyL l ++ List.replicate (252 - (4 + sumL l)) 0)).toNat, 0) := by
        intro n
        induction n with
        | zero =>
          intro i b p hi h hb he
          refine Ev.succ ?_
          simp only [rl0_eq, if_neg (show ¬((i : Int) < (l.length : Int)) by omega)]
          rw [List.drop_of_length_le (by omega), bodyL, List.append_nil] at he
          rw [he]
          exact hend
        | succ n ih =>
          intro i b p hi h hb he
          refine Ev.succ ?_
          have hil : i < l.length := by omega
          rw [List.drop_eq_getElem_cons hil] at h hb he
          simp only [right, Bool.and_eq_true] at h
          simp only [sumL] at hb
          have hn := okE_num h.1.1
          have hz := okE_size h.1.1
          simp only [rl0_eq, if_pos (show ((i : Int) < (l.length : Int)) by omega), if_pos (show (0 : Int) ≤ (i : Int) by omega), rdT_get hil]
          rw [show IntKind.u64.wrap l[i].f1 = ((l[i].f1.toNat : Nat) : Int) by rw [u64w]; omega]
          refine Ev.bind (rbytes_ev _ 4 (by decide)) ?_
          simp only [bytesN_len, if_pos (show b.length + 4 < 140737488355328 by omega), Option.bind_some, List.length_append, if_pos (show b.length + 4 < 140737488355328 by omega), List.length_cons, List.length_nil, if_pos (show b.length + 4 + (0 + 1) + l[i].f0.size < 140737488355328 by omega), w64 (show -9223372036854775808 ≤ (i : Int) + 1 by omega) (by omega)]
          have e1 : [((l[i].f0.size : Nat) : Int) % 256] = bytesN 1 l[i].f0.size := by simp [bytesN]
          rw [e1]
          refine ih (i + 1) (b ++ bytesN 4 l[i].f1.toNat ++ bytesN 1 l[i].f0.size ++ bytesOf l[i].f0) _ (by omega) h.2 (by simp only [List.length_append, bytesN_len, bytesOf_length]; omega) ?_
          rw [← he]
          simp only [bodyL, entB, List.append_assoc]
      exact key l.length 0 (headP l) none (by omega) (by rw [List.drop_zero]; exact hr) (by rw [List.drop_zero, headP_len]; omega) (by rw [List.drop_zero])
  · simp only [if_neg hr, if_neg (show ¬ ((1 : Int) = 0) by decide)]
    exact Ev.now _
theorem slice_one {b : List Int} (i : Nat) (h : i < b.length) : (b.take (i + 1)).drop i = [b[i]] := by
  rw [List.take_succ_eq_append_getElem h, List.drop_append_of_le_length (by rw [List.length_take]; omega), List.drop_of_length_le (by rw [List.length_take]; omega), List.nil_append]
theorem rdec_ev (b : List Int) (hb : ∀ x ∈ b, isByte x) : Ev (fun k => undercroftref11_Decode.f k b) (decR b) := by
  unfold undercroftref11_Decode.f decR
  by_cases hl : b.length = 256
  · simp only [if_pos hl, if_pos (show (b.length : Int) = 256 by omega)]
    have h2 : numN (b.take 2) < 65536 := by
      have := slice_num hb 0 2 (by omega)
      simpa using this
    have hat := rat_ev b hb 0 2 (by omega) (by decide) (by omega)
    rw [Nat.zero_add, List.drop_zero] at hat
    generalize numN (b.take 2) = n at h2 hat ⊢
    have key : ∀ (m i x : Nat) (ms : List E), i + m = n → ms.length ≤ i → Ev (fun k => undercroftref11_Decode.l0 k b ms (x : Int) (i : Int)) (decL b m x ms) := by
      intro m
      induction m with
      | zero =>
        intro i x ms hi hm
        refine Ev.succ ?_
        simp only [undercroftref11_Decode.l0]
        refine Ev.bind hat ?_
        simp only [if_neg (show ¬((i : Int) < (n : Int)) by omega), decL, tailR]
        refine Ev.bind (renc_ev ms (by omega)) ?_
        by_cases h0 : (encR ms).2 = 0
        · simp only [if_pos h0, toList_inj]
          by_cases h1 : (encR ms).1 = b
          · simp only [h1, h0, if_true, and_self]
            exact Ev.now _
          · have : ¬ strOfNums (encR ms).1 = strOfNums b := fun e => h1 ((strOfNums_inj (encR_byte ms) hb).1 e)
            simp only [if_neg this, h1, and_false, if_false]
            exact Ev.now _
        · simp only [if_neg h0, h0, false_and, if_false]
          exact Ev.now _
      | succ m ih =>
        intro i x ms hi hm
        refine Ev.succ ?_
        simp only [undercroftref11_Decode.l0]
        refine Ev.bind hat ?_
        simp only [if_pos (show ((i : Int) < (n : Int)) by omega), decL]
        by_cases hx : x + 5 > 252
        · simp only [if_pos hx, if_pos (show (x : Int) > 247 by omega)]
          exact Ev.now _
        · have hxl : x + 4 < b.length := by omega
          have hv0 := hb _ (List.getElem_mem hxl)
          unfold isByte at hv0
          simp only [if_neg hx, if_neg (show ¬ (x : Int) > 247 by omega), w64 (show -9223372036854775808 ≤ (x : Int) + 4 by omega) (by omega), w64 (show -9223372036854775808 ≤ (x : Int) + 5 by omega) (by omega), if_pos (show (0 : Int) ≤ (x : Int) + 4 by omega), if_pos (show (x : Int) + 4 < (b.length : Int) by omega)]
          rw [slice_one (x + 4) hxl]
          have er : rd b ((x : Int) + 4) = ((b[x + 4].toNat : Nat) : Int) := by
            rw [show (x : Int) + 4 = ((x + 4 : Nat) : Int) by omega, rd_get hxl]; omega
          simp only [er, numN, Nat.mul_zero, Nat.add_zero]
          obtain ⟨v, hvd⟩ : ∃ v, b[x + 4].toNat = v := ⟨_, rfl⟩
          have hv : v < 256 := by omega
          simp only [hvd]
          clear hvd er hv0
          · simp only [w64 (show -9223372036854775808 ≤ (v : Int) by omega) (by omega), w64 (show -9223372036854775808 ≤ (x : Int) + 5 + (v : Int) by omega) (by omega), w64 (show -9223372036854775808 ≤ 5 + (v : Int) by omega) (by omega), w64 (show -9223372036854775808 ≤ (x : Int) + (5 + (v : Int)) by omega) (by omega)]
            by_cases hy : x + 5 + v > 252
            · simp only [if_pos hy, if_pos (show (x : Int) + 5 + (v : Int) > 252 by omega)]
              exact Ev.now _
            · simp only [if_neg hy, if_neg (show ¬ (x : Int) + 5 + (v : Int) > 252 by omega)]
              refine Ev.bind (rat_ev b hb x 4 (by omega) (by decide) (by omega)) ?_
              simp only [if_pos (show (0 : Int) ≤ (x : Int) + 5 by omega), if_pos (show (x : Int) + 5 ≤ (x : Int) + 5 + (v : Int) by omega), if_pos (show (x : Int) + 5 + (v : Int) ≤ (b.length : Int) by omega), if_pos (show ms.length < 5864062014805 by omega), w64 (show -9223372036854775808 ≤ (i : Int) + 1 by omega) (by omega)]
              rw [show ((x : Int) + 5 + (v : Int)).toNat = x + 5 + v by omega, show ((x : Int) + 5).toNat = x + 5 by omega, show (x : Int) + (5 + (v : Int)) = ((x + 5 + v : Nat) : Int) by omega]
              exact ih (i + 1) (x + 5 + v) _ (by omega) (by rw [List.length_append]; simp; omega)
    exact key n 0 4 [] (by omega) (by simp)
  · simp only [if_neg hl, if_neg (show ¬ (b.length : Int) = 256 by omega)]
    exact Ev.now _
theorem same_ev (l : List E) (hl : l.length < 5864062014805) : Ev (fun k => undercroftref11_Same.f k l l) true := by
  unfold undercroftref11_Same.f
  simp only [if_true]
  have key : ∀ (n i : Nat), i + n = l.length → Ev (fun k => undercroftref11_Same.l0 k l l (i : Int)) true := by
    intro n
    induction n with
    | zero =>
      intro i hi
      refine Ev.succ ?_
      simp only [undercroftref11_Same.l0, if_neg (show ¬((i : Int) < (l.length : Int)) by omega)]
      exact Ev.now _
    | succ n ih =>
      intro i hi
      refine Ev.succ ?_
      have hil : i < l.length := by omega
      simp only [undercroftref11_Same.l0, if_pos (show ((i : Int) < (l.length : Int)) by omega), if_pos (show (0 : Int) ≤ (i : Int) by omega), beq_self_eq_true, Bool.not_true, Bool.or_self, Bool.false_eq_true, if_false, w64 (show -9223372036854775808 ≤ (i : Int) + 1 by omega) (by omega)]
      exact ih (i + 1) (by omega)
  exact key l.length 0 (by omega)
end Go.Proofs.Ytffaggckhneakaa.Lf
end
section
namespace Go.Proofs.Ytffaggckhneakaa.Lf
open Go.RowKit Go.Proofs.YtffaggckhneakaaW.PrintWords Go.Proofs.YtffaggckhneakaaW.PrintMore Go.Proofs.Ytffaggckhneakaa.Pr Go.Proofs.Ytffaggckhneakaa.Od Go.Proofs.Ytffaggckhneakaa.Cr
set_option linter.unusedVariables false
set_option linter.unusedSimpArgs false
theorem decL_len (b : List Int) : ∀ (m x : Nat) (ms : List E), (decL b m x ms).1.length ≤ ms.length + m
  | 0, x, ms => by
    simp only [decL, tailR]
    split <;> simp
  | m + 1, x, ms => by
    simp only [decL]
    split
    · simp
    · split
      · simp
      · refine Nat.le_trans (decL_len b m _ _) ?_
        rw [List.length_append]; simp; omega
theorem LeafDecodes (b : List Int) (hl : b.length ≤ 140737488351232) (hb : ∀ x ∈ b, isByte x) : ∃ k, undercroftlaw11_LeafDecodes.f k b = some true := by
  refine Ev.rounds ?_
  unfold undercroftlaw11_LeafDecodes.f
  refine Ev.bind alive_ev ?_
  simp only [if_true, Option.bind_some, List.length_nil, Nat.zero_add, if_pos (show b.length < 140737488355328 by omega), List.nil_append]
  refine Ev.bind (dec_ev b hb) ?_
  refine Ev.bind (rdec_ev b hb) ?_
  have hd : (decR b).1.length < 5864062014805 := by
    unfold decR
    by_cases h : b.length = 256
    · rw [if_pos h]
      have := decL_len b (numN (b.take 2)) 4 []
      have h2 : numN (b.take 2) < 65536 := by
        have := slice_num hb 0 2 (by omega)
        simpa using this
      simp only [List.length_nil] at this
      omega
    · rw [if_neg h]; simp
  generalize decR b = r at hd ⊢
  have key : ∀ (n i : Nat) (g : List Int), i + n = g.length → g.length ≤ 140737488351232 → Ev (fun k => undercroftlaw11_LeafDecodes.l0 k g r.1 r.2 r.1 r.2 (i : Int)) true := by
    intro n
    induction n with
    | zero =>
      intro i g hi hg
      refine Ev.succ ?_
      simp only [undercroftlaw11_LeafDecodes.l0, if_neg (show ¬((i : Int) < (g.length : Int)) by omega), if_true]
      exact Ev.bind (same_ev r.1 hd) (Ev.now _)
    | succ n ih =>
      intro i g hi hg
      refine Ev.succ ?_
      simp only [undercroftlaw11_LeafDecodes.l0, if_pos (show ((i : Int) < (g.length : Int)) by omega), if_pos (show (0 : Int) ≤ (i : Int) by omega), w64 (show -9223372036854775808 ≤ (i : Int) + 1 by omega) (by omega)]
      exact ih (i + 1) _ (by rw [List.length_set]; omega) (by rw [List.length_set]; exact hg)
  exact key b.length 0 b (by omega) hl
end Go.Proofs.Ytffaggckhneakaa.Lf
end
section
namespace Go.Proofs.Ytffaggckhneakaa.Pure
open Go.RowKit Go.Proofs.Ytffaggckhneakaa.Pr Go.Proofs.YtffaggckhneakaaW.PrintWords Go.Proofs.YtffaggckhneakaaW.PrintLast
theorem LeafDecodes : undercroftlaw11_LeafDecodes.Pure := by
  intro l h1 h2 h3
  refine Lf.LeafDecodes l (by omega) (fun x hx => ?_)
  have h := h3 x hx
  simp [Lit.wf, IntKind.min, IntKind.max, IntKind.signed, IntKind.bits] at h
  unfold Od.isByte
  omega
end Go.Proofs.Ytffaggckhneakaa.Pure
end
section
namespace Go.Proofs.Ytffaggckhneakaa.leafDecodes
open Go.ChangeShapes Go.WideShapes Go.ChangeAt Go.RowKit
open Go.ChangeMaps (open_string shut_string)
set_option linter.unusedVariables false
theorem own : ownKnob Try.prog.godebug = none := by kernel_rfl
theorem laidOut : laidOutB Try.prog = true := by kernel_rfl
def IsRow (k : IntKind) (w : World) (a : Option Addr) (len cap : Nat) (zs : List Int) : Prop :=
  (a = none ∧ len = 0 ∧ cap = 0 ∧ zs = []) ∨
  ∃ x, a = some x ∧ len ≤ cap ∧ cap ≤ maxLen ∧ zs.length = cap ∧ (∀ i, i < zs.length → w.cell? (x.add i) = some (.int k (zs.getD i 0))) ∧ ∀ n ∈ zs, (Lit.int k n).wf = true
set_option maxRecDepth 100000 in
theorem lifted (os : Os) (started : os.Started) (H : Type) (enc : TypeId × Value → H) :
    ReturnsInHanded {} Try.checked os 7 .any (Rows.leafDecodesSpec.pre6 enc Try.prog Try.f7 Rows.leafDecodesRow.domain false) (Rows.leafDecodesSpec.post enc Try.prog Try.f7 false true false false) := by
  refine returnsInHanded_of_change_sized (C := Try.checked) own started (by kernel_rfl) Try.func7
    (ChangeSpec.witness6 (enc := enc) (C := Try.checked) false ⟨#[], #[.slice none 0 0], []⟩ 8 (by kernel_rfl) (by kernel_rfl) (by kernel_rfl) (by kernel_rfl)) ?_
  intro W base args ds gs before hval0 hW hcnd hsz0 _
  have hsz : (DataW.weightsEach Try.prog (Try.f7.params.toList ++ Rows.leafDecodesSpec.plain.varTypes Try.prog) (ds ++ gs)).all (· ≤ reachBytes) = true := hsz0
  have hval : ∀ (j : Nat) t v, Try.f7.params[j]? = some t → args[j]? = some v → Value.okWide Try.prog W .any base t v := hval0
  have hW' := hW
  obtain ⟨p, q, hA0, hV, rfl, hfz, hnd⟩ := hW
  have hA : DataW.TrodAll enc Try.prog W 0 (fun _ => true) true Try.f7.params.toList args.toList ds p := hA0
  rw [Try.params7] at hA hval hsz
  obtain ⟨v0, vs0, d0, ds0, p0, q0, hargs, rfl, rfl, h0, r0⟩ := trodAll_cons hA
  obtain ⟨rfl, rfl, rfl⟩ := trodAll_nil r0
  obtain rfl : args = #[v0] := by cases args; simp_all
  obtain ⟨rfl, rfl⟩ := trodVars_none hV
  obtain ⟨a0, len0, cap0, rfl⟩ := okWide_slice Try.underlying37 (hval 0 37 v0 rfl rfl)
  have k0 := h0
  have lt0 : ∀ x ∈ p0, x.block < W.heap.size := by obtain ⟨m, hm⟩ := k0; exact DataW.trod_lt m _ _ _ hm
  obtain ⟨z0, w0⟩ : ∃ zs, IsRow .u8 W a0 len0 cap0 zs := by
    obtain ⟨fuel, hf⟩ := h0
    rcases open_ints Try.underlying37 Try.underlying5 (by kernel_rfl) hf with ⟨hcs, _⟩ | ⟨x, l, c, zs, hcs, _, hl, hm, hz, _, hcell, hwz⟩
    · simp [Value.cells] at hcs
      obtain ⟨rfl, rfl, rfl⟩ := hcs
      exact ⟨[], .inl ⟨rfl, rfl, rfl, rfl⟩⟩
    · simp [Value.cells] at hcs
      obtain ⟨rfl, rfl, rfl⟩ := hcs
      exact ⟨zs, .inr ⟨_, rfl, hl, hm, by simpa using hz, hcell, hwz⟩⟩
  have y0 : len0 * 1 ≤ 140737488351232 := Go.Proofs.YtffaggckhneakaaW.PrintWords.sized_ints hsz (j := 0) (t := 37) rfl rfl Try.underlying37 Try.underlying5 (by kernel_rfl) (by kernel_rfl) h0
  clear hA0 hval0 hsz0 hsz
  refine (Pr.undercroftlaw11_LeafDecodes.walk Pure.LeafDecodes a0 len0 cap0 z0 W w0 y0).mono fun e W' ⟨he, bel⟩ => ?_
  subst he
  exact ⟨_, rfl, _, _, _, [], _, [], hW', trodAll_mk1 (shut_bool Try.underlying4 _), (trodAll_cons_mk (Below.trod laidOut (by kernel_rfl) (of_decide_eq_true (by kernel_rfl)) k0 bel lt0) trodAll_mk0), rfl, bel.frame _, fun h => by cases h⟩
theorem over : Rows.leafDecodesRow.holds Try.pinned (OpenSpec.ofChange Rows.leafDecodesSpec) :=
  OpenClaim.holds_of_wide 7 Try.f7 rfl rfl rfl rfl rfl rfl rfl ⟨rfl, rfl, rfl, rfl, rfl⟩ rfl rfl rfl rfl rfl (by kernel_rfl) Try.func7 (by kernel_rfl)
    (of_decide_eq_true (by kernel_rfl)) (by unfold Func.isWrapper; first | (rw [if_pos (by decide +kernel)]; kernel_rfl) | (rw [if_neg (by decide +kernel)]; exact ⟨rfl, rfl⟩))
    (fun os started H enc _ => lifted os started H enc)
theorem proved : Rows.LeafDecodesSaid := over
end Go.Proofs.Ytffaggckhneakaa.leafDecodes
namespace Go.Proofs.Ytffaggckhneakaa
theorem leafDecodes_holds : Rows.LeafDecodesSaid := leafDecodes.proved
end Go.Proofs.Ytffaggckhneakaa
end
