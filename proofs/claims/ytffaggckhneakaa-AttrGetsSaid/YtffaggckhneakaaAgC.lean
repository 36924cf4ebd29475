/- Ag: this session's texts for the one law, put together (part 3 of 3): what its program computes, function by function, and that this answers true; the row stands at the end of the last part. Conditions: those that each theorem names; the last theorem has none. -/
import Derived.Test.YtffaggckhneakaaRows
import Derived.WalkKit
import Derived.ProofKit
import Derived.OpenShut
import Derived.ShutString
import Derived.ChangeOld
import Derived.Below
import Derived.SizedLaws
import Derived.Carry
import Derived.Lib.SmallJoins
import Derived.Test.YtffaggckhneakaaAgB
section
namespace Go.Proofs.Ytffaggckhneakaa.Pr
open Go.RowKit Go.Proofs.YtffaggckhneakaaW.PrintWords Go.Proofs.YtffaggckhneakaaW.PrintLast Go.Proofs.YtffaggckhneakaaW.PrintMore
attribute [local go_sem] max2_int min2_int max_two min_two max_three min_three max_four min_four
attribute [local go_sem] Go.Proofs.Ytffaggckhneakaa.Hl.str_geq Go.Proofs.Ytffaggckhneakaa.Hl.str_gtr Go.Proofs.Ytffaggckhneakaa.Hl.str_leq
set_option linter.unusedVariables false
set_option linter.unusedSimpArgs false
def attr_Encode.l0 : Nat → List Int → List (S26) → Int → Int → Option (List Int × Int)
  | 0, _, _, _, _ => none
  | k + 1, x6, x23, x24, x25 => if x25 < x24 then (if 0 ≤ x25 then (if x25 < (x23.length : Int) then ((some (([((((rd_T26 x23 x25).f0).size : Int)) % 256, ((((rd_T26 x23 x25).f1).size : Int)) % 256] : List Int) : List Int)).bind fun y345 => (if x6.length + y345.length < 140737488355328 then ((some (x6 ++ y345 : List Int)).bind fun y348 => (if y348.length + ((rd_T26 x23 x25).f0).size < 140737488355328 then ((some (y348 ++ bytesOf ((rd_T26 x23 x25).f0) : List Int)).bind fun y351 => (if y351.length + ((rd_T26 x23 x25).f1).size < 140737488355328 then (attr_Encode.l0 k (y351 ++ bytesOf ((rd_T26 x23 x25).f1)) x23 x24 (wrap64 (x25 + 1))) else (none))) else (none))) else (none))) else (none)) else (none)) else (if 0 ≤ (wrap64 (252 - (x6.length : Int))) then (if x6.length + (wrap64 (252 - (x6.length : Int)) : Int).toNat < 140737488355328 then ((some (x6 ++ List.replicate (wrap64 (252 - (x6.length : Int)) : Int).toNat 0 : List Int)).bind fun y357 => ((crc_Sum.f k y357).bind fun t360 => ((crc_Bytes.f k (IntKind.u64.wrap (t360)) 4).bind fun t361 => (if y357.length + t361.length < 140737488355328 then (some ((y357 ++ t361), 0)) else (none))))) else (none)) else (none))
def attr_Encode.f (k : Nat) (l0 : List (S26)) : Option (List Int × Int) := (attr_check.f k l0).bind fun bt338 => (if bt338.2 = 0 then (if bt338.1 = true then ((crc_Bytes.f k (IntKind.u64.wrap ((l0.length : Int))) 2).bind fun t340 => (attr_Encode.l0 k t340 l0 (l0.length : Int) 0)) else (some (([] : List Int), 15))) else (some (([] : List Int), bt338.2)))
def attr_Encode.T11 : Bool × List (List Nat × List Nat) := (true, [([], []), ([], []), ([1], [1]), ([0, 2], [0, 2]), ([], []), ([4], [4]), ([3, 5, 3], [3, 5]), ([6, 6, 0, 1, 2, 3, 4, 5, 6], [0, 6])])
def attr_Encode.B11 : List Nat := [0, 0, 2, 7, 0, 16, 63, 127]
theorem attr_Encode.tab11 : rtab .any (opsOf Try.f21 11) = attr_Encode.T11 := by kernel_rfl
theorem attr_Encode.bits11 : waitsOk attr_Encode.T11.2 attr_Encode.B11 = true := by kernel_rfl
set_option maxHeartbeats 8000000 in
set_option maxRecDepth 100000 in
theorem attr_Encode.calls (k : Nat) (A0 : Option Addr) (c0 : Nat) (l0 : List (S26)) (r1 : List Int) (r2 : Int) (w : World) (hr0 : Kd.C k26 w A0 l0.length l0) (hc0 : l0.length ≤ c0) (h : attr_Encode.f k l0 = some (r1, r2)) :
    Calls Try.prog 21 #[.slice A0 l0.length c0] w fun e w' => ∃ v0_ : Value, e = .returned (.tuple #[v0_, .int .i64 r2]) ∧ Kd.R (Kd.int .u8) 5 w' w.heap.size (fun _ => True) v0_ r1 ∧ Below w.heap.size w w' := by
  have hu26 := Try.underlying26
  have HR0 := Aside0.mk hr0
  have HC0 := Aside0.mk hc0
  clear hr0 hc0
  have HB := Aside0.mk (Below.refl w.heap.size w)
  have H : ((attr_check.f k l0).bind fun bt338 => (if bt338.2 = 0 then (if bt338.1 = true then ((crc_Bytes.f k (IntKind.u64.wrap ((l0.length : Int))) 2).bind fun t340 => (attr_Encode.l0 k t340 l0 (l0.length : Int) 0)) else (some (([] : List Int), 15))) else (some (([] : List Int), bt338.2)))) = some (r1, r2) := h
  clear h
  replace H := Option.bind_eq_some_iff.mp H
  obtain ⟨⟨t338, t339⟩, A20, H⟩ := H
  replace H : (if t339 = 0 then (if t338 = true then ((crc_Bytes.f k (IntKind.u64.wrap ((l0.length : Int))) 2).bind fun t340 => (attr_Encode.l0 k t340 l0 (l0.length : Int) 0)) else (some (([] : List Int), 15))) else (some (([] : List Int), t339))) = some (r1, r2) := H
  have A2 := Aside0.mk A20
  clear A20
  by_cases c3 : t339 = 0
  · rw [if_pos c3] at H
    have c3b0 : (t339 == 0) = true := beq_iff_eq.mpr c3
    have c3b1 : (t339 != 0) = false := bne_eq_false_iff_eq.mpr c3
    clear c3
    by_cases c4 : t338 = true
    · subst c4
      have H1 : ((crc_Bytes.f k (IntKind.u64.wrap ((l0.length : Int))) 2).bind fun t340 => (attr_Encode.l0 k t340 l0 (l0.length : Int) 0)) = some (r1, r2) := by rw [if_pos rfl] at H; exact H
      clear H
      have H := H1
      clear H1
      replace H := Option.bind_eq_some_iff.mp H
      obtain ⟨t340, A50, H⟩ := H
      replace H : (attr_Encode.l0 k t340 l0 (l0.length : Int) 0) = some (r1, r2) := H
      have A5 := Aside0.mk A50
      clear A50
      have H' := Aside0.mk H
      clear H
      go_enter Try.func21, Try.ntmps21
      go_wp2_with (first | ((with_reducible refine gate_callee (f := 35) rfl ?_); refine goesL_ (some 11) rfl rfl Try.func35 (by kernel_rfl) rfl #[.slice A0 l0.length c0] rfl (by (try simp only [List.map_toArray, List.map_cons, List.map_nil]); first | done | rfl | (simp only [List.length_drop, List.length_take]; rfl)) ?_; (with_reducible refine (attr_check.calls k _ _ l0 true t339 _ ?side1 ?side2 A2.out).mono ?_); (case side1 => repeat (first | exact HR0.out | (with_reducible refine Kd.C_alloc ?_ _) | (with_reducible refine Kd.C_drewN ?_ _) | (with_reducible refine Kd.C_drew ?_))); (case side2 => exact HC0.out); rintro e w6 ⟨rfl, hb⟩; refine ⟨_, rfl, ?_⟩; have n0_ := Aside0.mk (below_step (by repeat (first | (with_reducible first | exact HB.out | apply below_alloc | apply pw_below_drewN | apply below_drew1) | exact HB.out)) hb); clear HB; have HB := n0_; clear n0_; (try clear hb); (try clear hb2); (try clear hk); (try clear hi)) | ((with_reducible refine gate_callee (f := 45) rfl ?_); refine goesL_ (some 22) rfl rfl Try.func45 (by kernel_rfl) rfl #[.int .u64 (IntKind.u64.wrap ((l0.length : Int))), .int .i64 2] rfl (by (try simp only [List.map_toArray, List.map_cons, List.map_nil]); first | done | rfl | (simp only [List.length_drop, List.length_take]; rfl)) ?_; (with_reducible refine (crc_Bytes.calls k (IntKind.u64.wrap ((l0.length : Int))) 2 t340 _ A5.out).mono ?_); rintro e w7 ⟨v341, rfl, ho0, hb⟩; refine ⟨_, rfl, ?_⟩; have n0_ := Aside0.mk (Kd.R_lower ho0 (below_size (by repeat (first | (with_reducible first | exact HB.out | apply below_alloc | apply pw_below_drewN | apply below_drew1) | exact HB.out)))); have n1_ := Aside0.mk (below_step (by repeat (first | (with_reducible first | exact HB.out | apply below_alloc | apply pw_below_drewN | apply below_drew1) | exact HB.out)) hb); clear HB; have HO342 := n0_; have HB := n1_; clear n0_ n1_; (try clear hb); (try clear hb2); (try clear hk); (try clear hi); (try clear ho0)))
      go_loopg [6, 25] k (fun kq v6 v25 w' => ∃ (x6_1 : List Int) (x25_1 : Int), v25 = .int .i64 x25_1 ∧ Aside0 (attr_Encode.l0 kq x6_1 l0 (l0.length : Int) x25_1 = some (r1, r2)) ∧ Aside0 (kq ≤ k) ∧ Aside0 (Kd.R (Kd.int .u8) 5 w' w.heap.size (fun _ => True) v6 x6_1) ∧ Aside0 (Below w.heap.size w w'))
      case atStart => exact ⟨(t340), (0), (by first | rfl | (simp; done) | (simp [*]; done)), H', ⟨Nat.le_refl _⟩, ⟨by (with_reducible repeat (first | apply Kd.R_alloc | apply Kd.R_drewN | apply Kd.R_drew)); exact HO342.out⟩, ⟨by repeat (first | (with_reducible first | exact HB.out | apply below_alloc | apply pw_below_drewN | apply below_drew1) | exact HB.out)⟩⟩
      case round =>
        clear H'
        try clear c2
        try clear p2
        try clear c3
        try clear c3b0
        try clear c3b1
        try clear c4
        obtain ⟨x6_1, x25_1, rfl, HA, HK1, HO_6, HB⟩ := hrel
        cases gk with
        | zero => exact absurd HA.out (by intro h_; cases h_)
        | succ k1 =>
          have H := HA.out
          clear HA
          simp only [attr_Encode.l0] at H
          by_cases c8 : x25_1 < (l0.length : Int)
          · rw [if_pos c8] at H
            have c8b0 : decide (x25_1 < (l0.length : Int)) = true := decide_eq_true c8
            clear c8
            by_cases c9 : 0 ≤ x25_1
            · rw [if_pos c9] at H
              have c9b0 : decide (0 ≤ x25_1) = true := decide_eq_true c9
              clear c9
              by_cases c10 : x25_1 < (l0.length : Int)
              · rw [if_pos c10] at H
                have c10b0 : decide (x25_1 < (l0.length : Int)) = true := decide_eq_true c10
                clear c10
                obtain ⟨y345, hy345⟩ : ∃ y_ : List Int, y_ = (([((((rd_T26 l0 x25_1).f0).size : Int)) % 256, ((((rd_T26 l0 x25_1).f1).size : Int)) % 256] : List Int)) := ⟨_, rfl⟩
                replace H : (if x6_1.length + y345.length < 140737488355328 then ((some (x6_1 ++ y345 : List Int)).bind fun y348 => (if y348.length + ((rd_T26 l0 x25_1).f0).size < 140737488355328 then ((some (y348 ++ bytesOf ((rd_T26 l0 x25_1).f0) : List Int)).bind fun y351 => (if y351.length + ((rd_T26 l0 x25_1).f1).size < 140737488355328 then (attr_Encode.l0 k1 (y351 ++ bytesOf ((rd_T26 l0 x25_1).f1)) l0 (l0.length : Int) (wrap64 (x25_1 + 1))) else (none))) else (none))) else (none)) = some (r1, r2) := by first | (rw [hy345]; with_reducible exact H) | (have H2_ := (Option.bind_some _ _).symm.trans H; rw [hy345]; with_reducible exact H2_) | (have H2_ := (Option.bind_some _ _).symm.trans H; with_reducible exact H2_) | with_reducible exact H | (rw [hy345]; exact H) | exact H
                have Ny345 := Aside0.mk hy345
                clear hy345
                by_cases c11 : x6_1.length + y345.length < 140737488355328
                · rw [if_pos c11] at H
                  have LMc11 := Aside0.mk c11
                  clear c11
                  obtain ⟨y348, hy348⟩ : ∃ y_ : List Int, y_ = (x6_1 ++ y345) := ⟨_, rfl⟩
                  replace H : (if y348.length + ((rd_T26 l0 x25_1).f0).size < 140737488355328 then ((some (y348 ++ bytesOf ((rd_T26 l0 x25_1).f0) : List Int)).bind fun y351 => (if y351.length + ((rd_T26 l0 x25_1).f1).size < 140737488355328 then (attr_Encode.l0 k1 (y351 ++ bytesOf ((rd_T26 l0 x25_1).f1)) l0 (l0.length : Int) (wrap64 (x25_1 + 1))) else (none))) else (none)) = some (r1, r2) := by first | (rw [hy348]; with_reducible exact H) | (have H2_ := (Option.bind_some _ _).symm.trans H; rw [hy348]; with_reducible exact H2_) | (have H2_ := (Option.bind_some _ _).symm.trans H; with_reducible exact H2_) | with_reducible exact H | (rw [hy348]; exact H) | exact H
                  have Ny348 := Aside0.mk hy348
                  clear hy348
                  by_cases c12 : y348.length + ((rd_T26 l0 x25_1).f0).size < 140737488355328
                  · rw [if_pos c12] at H
                    have LMc12 := Aside0.mk c12
                    clear c12
                    obtain ⟨y351, hy351⟩ : ∃ y_ : List Int, y_ = (y348 ++ bytesOf ((rd_T26 l0 x25_1).f0)) := ⟨_, rfl⟩
                    replace H : (if y351.length + ((rd_T26 l0 x25_1).f1).size < 140737488355328 then (attr_Encode.l0 k1 (y351 ++ bytesOf ((rd_T26 l0 x25_1).f1)) l0 (l0.length : Int) (wrap64 (x25_1 + 1))) else (none)) = some (r1, r2) := by first | (rw [hy351]; with_reducible exact H) | (have H2_ := (Option.bind_some _ _).symm.trans H; rw [hy351]; with_reducible exact H2_) | (have H2_ := (Option.bind_some _ _).symm.trans H; with_reducible exact H2_) | with_reducible exact H | (rw [hy351]; exact H) | exact H
                    have Ny351 := Aside0.mk hy351
                    clear hy351
                    by_cases c13 : y351.length + ((rd_T26 l0 x25_1).f1).size < 140737488355328
                    · rw [if_pos c13] at H
                      have LMc13 := Aside0.mk c13
                      clear c13
                      obtain ⟨y354, hy354⟩ : ∃ y_ : List Int, y_ = (y351 ++ bytesOf ((rd_T26 l0 x25_1).f1)) := ⟨_, rfl⟩
                      replace H : (attr_Encode.l0 k1 y354 l0 (l0.length : Int) (wrap64 (x25_1 + 1))) = some (r1, r2) := by first | (rw [hy354]; with_reducible exact H) | (have H2_ := (Option.bind_some _ _).symm.trans H; rw [hy354]; with_reducible exact H2_) | (have H2_ := (Option.bind_some _ _).symm.trans H; with_reducible exact H2_) | with_reducible exact H | (rw [hy354]; exact H) | exact H
                      have Ny354 := Aside0.mk hy354
                      clear hy354
                      have H' := Aside0.mk H
                      clear H
                      have p343 : 0 ≤ (x25_1 : Int) := of_decide_eq_true (by first | (with_reducible assumption) | assumption)
                      have q343 : x25_1 < (l0.length : Int) := of_decide_eq_true (by first | (with_reducible assumption) | assumption)
                      obtain ⟨ad343, e343, hx343_0, hx343_1⟩ := at_T26 HR0.out x25_1 p343 q343
                      cases e343
                      replace hx343_0 := (HB.out.cell (World.block_lt_of_cell? w _ hx343_0)).trans hx343_0
                      replace hx343_1 := (HB.out.cell (World.block_lt_of_cell? w _ hx343_1)).trans hx343_1
                      replace p343 := eq_true p343
                      replace q343 := eq_true q343
                      try go_wp2_with (first | ((with_reducible refine gate_dst (N := 8) rfl ?_); refine box_event ?hg (N := 8) ?hd (cs := #[.string (⟨#[]⟩ : ByteArray), .string (⟨#[]⟩ : ByteArray)]) (t := 26) ?hr ?_; (case hd => rfl); (case hg => rfl); (case hr => first | (go_simp; done) | (go_simp; rfl)); intro gb344 hg w14 hbox hb; have n0_ := Aside0.mk (Kd.R_below (by (with_reducible repeat (first | apply Kd.R_alloc | apply Kd.R_drewN | apply Kd.R_drew)); exact HO_6.out) hb); have n1_ := Aside0.mk (below_step (by repeat (first | (with_reducible first | exact HB.out | apply below_alloc | apply pw_below_drewN | apply below_drew1) | exact HB.out)) hb); have n2_ := Aside0.mk (hbox); have n3_ := Aside0.mk ((by rw [hg]; exact (below_size (by repeat (first | (with_reducible first | exact HB.out | apply below_alloc | apply pw_below_drewN | apply below_drew1) | exact HB.out))) : w.heap.size ≤ gb344)); have n4_ := Aside0.mk ((by rw [hg]; exact (below_size (by repeat (first | (with_reducible first | exact HB.out | apply below_alloc | apply pw_below_drewN | apply below_drew1) | exact HB.out))) : w.heap.size ≤ gb344)); clear HO_6; clear HB; have HO_6 := n0_; have HB := n1_; have BK344 := n2_; have GW344 := n3_; have GE344 := n4_; clear n0_ n1_ n2_ n3_ n4_; clear hb hbox hg; have hcz15_0 : w14.cell? ⟨gb344, 0, none⟩ = some (.string (⟨#[]⟩ : ByteArray)) := (blk_cell BK344.out 0).trans rfl; have hcz15_1 : w14.cell? ⟨gb344, 1, none⟩ = some (.string (⟨#[]⟩ : ByteArray)) := (blk_cell BK344.out 1).trans rfl; have hfz15_0 := blk_frozen BK344.out 0; have hfz15_1 := blk_frozen BK344.out 1) | ((with_reducible refine gate_dst (N := 38) rfl ?_); refine Kd.R_lit (Kd.int .u8) _ 5 ?hg (N := 38) ?hd (xs := ([((((rd_T26 l0 x25_1).f0).size : Int)) % 256, ((((rd_T26 l0 x25_1).f1).size : Int)) % 256] : List Int)) (inner := [.int .u8 (((((rd_T26 l0 x25_1).f0).size : Int)) % 256), .int .u8 (((((rd_T26 l0 x25_1).f1).size : Int)) % 256)]) (ok := fun _ => True) (okp := fun _ => True) ?hr ?hp (fun _ hk => hk) trivial (Below.refl _ _) (Nat.le_refl _) (by simp) ?_; (case hd => rfl); (case hg => rfl); (case hr => first | (go_simp; done) | (go_simp; rfl)); (case hp => exact (Reps.one (show Kd.M (Kd.int .u8) _ _ _ (((((rd_T26 l0 x25_1).f0).size : Int)) % 256) [.int .u8 (((((rd_T26 l0 x25_1).f0).size : Int)) % 256)] from rfl) (Reps.one (show Kd.M (Kd.int .u8) _ _ _ (((((rd_T26 l0 x25_1).f1).size : Int)) % 256) [.int .u8 (((((rd_T26 l0 x25_1).f1).size : Int)) % 256)] from rfl) (Reps.none _ _)))); intro v346 w16 ho17 hb hg_ hnew_; clear hg_ hnew_; (first | rw [← Ny345.out] at ho17 | (simp only [Int.reduceToNat] at ho17; rw [← Ny345.out] at ho17)); have n0_ := Aside0.mk (Kd.R_elder' (by (with_reducible repeat (first | apply Kd.R_alloc | apply Kd.R_drewN | apply Kd.R_drew)); exact (Kd.R_mono (Kd.R_far (p := ⟨gb344, 1, none⟩) (Kd.R_far (p := ⟨gb344, 0, none⟩) (Kd.R_types HO_6.out BK344.out (by decide)) (fun _ hk => hk.2) (.string ((rd_T26 l0 x25_1).f0))) (fun _ hk => hk.2) (.string ((rd_T26 l0 x25_1).f1))) (fun _ h_ => h_.1))) (Kd.R_base ho17) hb); have n1_ := Aside0.mk (Kd.R_lower (Kd.R_new' ho17 (Kd.R_lt (by (with_reducible repeat (first | apply Kd.R_alloc | apply Kd.R_drewN | apply Kd.R_drew)); exact (Kd.R_mono (Kd.R_far (p := ⟨gb344, 1, none⟩) (Kd.R_far (p := ⟨gb344, 0, none⟩) (Kd.R_types HO_6.out BK344.out (by decide)) (fun _ hk => hk.2) (.string ((rd_T26 l0 x25_1).f0))) (fun _ hk => hk.2) (.string ((rd_T26 l0 x25_1).f1))) (fun _ h_ => h_.1))))) (below_size (by repeat (first | (with_reducible first | exact HB.out | apply below_alloc | apply pw_below_drewN | apply below_drew1 | refine below_set ?_ GE344.out) | exact HB.out)))); have n2_ := Aside0.mk (blk_below (g := gb344) (o := .cells #[.string ((rd_T26 l0 x25_1).f0), .string ((rd_T26 l0 x25_1).f1)] 26 (0, 0)) (by (with_reducible repeat (first | refine blk_drewN ?_ _ | refine blk_drew ?_ | refine blk_alloc ?_ _)); refine blk_put (cs := #[.string ((rd_T26 l0 x25_1).f0), .string (⟨#[]⟩ : ByteArray)]) ?_ 1 _ rfl; (with_reducible repeat (first | refine blk_drewN ?_ _ | refine blk_drew ?_ | refine blk_alloc ?_ _)); refine blk_put (cs := #[.string (⟨#[]⟩ : ByteArray), .string (⟨#[]⟩ : ByteArray)]) ?_ 0 _ rfl; (with_reducible repeat (first | refine blk_drewN ?_ _ | refine blk_drew ?_ | refine blk_alloc ?_ _)); exact BK344.out) hb); have n3_ := Aside0.mk (below_step (by repeat (first | (with_reducible first | exact HB.out | apply below_alloc | apply pw_below_drewN | apply below_drew1 | refine below_set ?_ GE344.out) | exact HB.out)) hb); clear HO_6; clear BK344; clear HB; have HO_6 := n0_; have HO347 := n1_; have BK344 := n2_; have HB := n3_; clear n0_ n1_ n2_ n3_; clear hb ho17; obtain ⟨Ao19, co19, eo19⟩ := Kd.R_slice HO347.out; subst eo19) | ((with_reducible refine gate_builtin (b := .append) (xs := #[.tmp 29, .tmp 38]) rfl ?_); at_builtin; refine Kd.R_append_rows (Kd.int .u8) (w0 := w) w.heap.size rfl (.tmp 29) (.tmp 38) 37 5 (.int .u8 0) 1 rfl Try.underlying37 info5 rfl (by decide) (by omega) u6 x6_1 y345 _ _ _ (fun k_ => some k_ ≠ (.slice Ao19 y345.length co19 : Value).ownBlock) (fun _ => False) rfl rfl ?aO ?aR (fun _ _ h => h) (fun _ h => h.elim) ?aF ?aB ?aS ?aL ?_; (case aR => repeat (first | exact (Kd.R_reads' HO347.out).2.2 | (with_reducible refine Kd.C_alloc ?_ _) | (with_reducible refine Kd.C_drewN ?_ _) | (with_reducible refine Kd.C_drew ?_))); (case aB => exact (by repeat (first | (with_reducible first | exact HB.out | apply below_alloc | apply pw_below_drewN | apply below_drew1 | refine below_set ?_ GE344.out) | exact HB.out))); (case aF => exact (fun k_ hk => Kd.fresh' (Kd.R_lt (by (with_reducible repeat (first | apply Kd.R_alloc | apply Kd.R_drewN | apply Kd.R_drew)); exact HO347.out)) k_ hk)); (case aO => exact (by (with_reducible repeat (first | apply Kd.R_alloc | apply Kd.R_drewN | apply Kd.R_drew)); exact Kd.R_mono HO_6.out (fun _ hk => hk.2))); (case aS => exact (below_size (by repeat (first | (with_reducible first | exact HB.out | apply below_alloc | apply pw_below_drewN | apply below_drew1 | refine below_set ?_ GE344.out) | exact HB.out)))); (case aL => have := LMc11.out; omega); intro v349 w18 ho hb hg hat; rw [← Ny348.out] at ho; have n0_ := Aside0.mk (blk_grown (g := gb344) (o := .cells #[.string ((rd_T26 l0 x25_1).f0), .string ((rd_T26 l0 x25_1).f1)] 26 (0, 0)) (by (with_reducible repeat (first | refine blk_drewN ?_ _ | refine blk_drew ?_ | refine blk_alloc ?_ _)); exact BK344.out) hg (Kd.R_ne HO_6.out BK344.out (by decide))); have n1_ := Aside0.mk (Kd.R_after (ok := (fun _ => True)) (by (with_reducible repeat (first | apply Kd.R_alloc | apply Kd.R_drewN | apply Kd.R_drew)); exact HO347.out) hg hat); have n2_ := Aside0.mk (hb); have n3_ := Aside0.mk (ho); clear BK344; clear HO347; clear HB; clear HO_6; have BK344 := n0_; have HO347 := n1_; have HB := n2_; have HO350 := n3_; clear n0_ n1_ n2_ n3_; clear ho hb hg hat))
                      have n0_ := Aside0.mk (Kd.R_drew HO347.out)
                      have n1_ := Aside0.mk (Kd.R_drew HO350.out)
                      have n2_ := Aside0.mk (blk_drew BK344.out)
                      have n3_ := Aside0.mk (below_drew1 HB.out)
                      clear HO347
                      clear HO350
                      clear BK344
                      clear HB
                      have HO347 := n0_
                      have HO350 := n1_
                      have BK344 := n2_
                      have HB := n3_
                      clear n0_ n1_ n2_ n3_
                      refine start_ (n := 8) (S := fun w' => w'.cell? ⟨gb344, 0, none⟩ = some (.string ((rd_T26 l0 x25_1).f0)) ∧ w'.cell? ⟨gb344, 1, none⟩ = some (.string ((rd_T26 l0 x25_1).f1))) (ds := []) #[false, false, false, false, false, false, false, false] (by kernel_rfl) rfl rfl ⟨(blk_cell BK344.out 0).trans rfl, (blk_cell BK344.out 1).trans rfl⟩ (fun hHeld => ?_); refine with_tabW attr_Encode.tab11 attr_Encode.bits11 (fun HT_ HW_ => ?_)
                      generalize w18.drew = w20 at HO347 HO350 BK344 HB hHeld ⊢
                      refine pure_ (i := 0) (N := some 40) (v := ?_) (a' := ?_) #[true, false, false, false, false, false, false, false] rfl rfl (any_of HT_.out (by kernel_rfl)) (fun _ _ _ h => h) (Or.inl ⟨by rfl, ?_⟩) ?_ ?_
                      rotate_left
                      · intro w'
                        go_simp
                        with_reducible rfl
                      rotate_left
                      · simp only [Act.put, List.setIfInBounds_toArray, List.set_cons_zero, List.set_cons_succ, i64_w, i32_w]
                        rfl
                      refine pure_ (i := 1) (N := some 41) (v := ?_) (a' := ?_) #[true, true, false, false, false, false, false, false] rfl rfl (any_of HT_.out (by kernel_rfl)) (fun _ _ _ h => h) (Or.inl ⟨by rfl, ?_⟩) ?_ ?_
                      rotate_left
                      · intro w'
                        go_simp
                        with_reducible rfl
                      rotate_left
                      · simp only [Act.put, List.setIfInBounds_toArray, List.set_cons_zero, List.set_cons_succ, i64_w, i32_w]
                        rfl
                      refine pure_ (i := 4) (N := some 44) (v := ?_) (a' := ?_) #[true, true, false, false, true, false, false, false] rfl rfl (any_of HT_.out (by kernel_rfl)) (fun _ _ _ h => h) (Or.inl ⟨by rfl, ?_⟩) ?_ ?_
                      rotate_left
                      · intro w'
                        go_simp
                        with_reducible rfl
                      rotate_left
                      · simp only [Act.put, List.setIfInBounds_toArray, List.set_cons_zero, List.set_cons_succ, i64_w, i32_w]
                        rfl
                      refine take_ (i := 2) (N := some 42) (v := ?_) (a' := ?_) #[true, true, true, false, true, false, false, false] rfl rfl (take_ofW HT_.out HW_.out (by kernel_rfl)) (fun _ _ _ h => h) (Or.inl ⟨by rfl, ?_⟩) hHeld ?_ ?_
                      rotate_left
                      · rintro w' ⟨s0, s1⟩
                        go_simp
                        with_reducible rfl
                      rotate_left
                      · simp only [Act.put, List.setIfInBounds_toArray, List.set_cons_zero, List.set_cons_succ, i64_w, i32_w]
                        rfl
                      refine take_ (i := 5) (N := some 45) (v := ?_) (a' := ?_) #[true, true, true, false, true, true, false, false] rfl rfl (take_ofW HT_.out HW_.out (by kernel_rfl)) (fun _ _ _ h => h) (Or.inl ⟨by rfl, ?_⟩) hHeld ?_ ?_
                      rotate_left
                      · rintro w' ⟨s0, s1⟩
                        go_simp
                        with_reducible rfl
                      rotate_left
                      · simp only [Act.put, List.setIfInBounds_toArray, List.set_cons_zero, List.set_cons_succ, i64_w, i32_w]
                        rfl
                      refine one_ (i := 3) (N := some 43) #[true, true, true, true, true, true, false, false] rfl rfl (one_of HT_.out (by kernel_rfl)) (by decide) (fun K hK => ?_)
                      refine Go.Proofs.Ytffaggckhneakaa.Hs.R_append_str_step (w0 := w) w.heap.size (by rfl) (.tmp 40) _ 37 9 5 rfl Try.underlying37 Try.underlying9 info5 v349 y348 ((rd_T26 l0 x25_1).f0) (fun k_ => some k_ ≠ (.slice Ao19 y345.length co19 : Value).ownBlock) rfl rfl ?aO ?aF ?aB ?aS ?aL ?_
                      (case aB => exact (by repeat (first | (with_reducible first | exact HB.out | apply below_alloc | apply pw_below_drewN | apply below_drew1 | refine below_set ?_ GE344.out) | exact HB.out)))
                      (case aF => exact (fun k_ hk => Kd.fresh' (Kd.R_lt (by (with_reducible repeat (first | apply Kd.R_alloc | apply Kd.R_drewN | apply Kd.R_drew)); exact HO347.out)) k_ hk))
                      (case aO => exact (by (with_reducible repeat (first | apply Kd.R_alloc | apply Kd.R_drewN | apply Kd.R_drew)); exact HO350.out))
                      (case aS => exact (below_size (by repeat (first | (with_reducible first | exact HB.out | apply below_alloc | apply pw_below_drewN | apply below_drew1 | refine below_set ?_ GE344.out) | exact HB.out))))
                      (case aL => have := LMc12.out; omega)
                      intro v352 w21 ho hb hg hat
                      rw [← Ny351.out] at ho
                      have n0_ := Aside0.mk (blk_grown (g := gb344) (o := .cells #[.string ((rd_T26 l0 x25_1).f0), .string ((rd_T26 l0 x25_1).f1)] 26 (0, 0)) (by (with_reducible repeat (first | refine blk_drewN ?_ _ | refine blk_drew ?_ | refine blk_alloc ?_ _)); exact BK344.out) hg (Kd.R_ne HO350.out BK344.out (by decide)))
                      have n1_ := Aside0.mk (Kd.R_after (ok := (fun _ => True)) (by (with_reducible repeat (first | apply Kd.R_alloc | apply Kd.R_drewN | apply Kd.R_drew)); exact HO347.out) hg hat)
                      have n2_ := Aside0.mk (hb)
                      have n3_ := Aside0.mk (ho)
                      clear BK344
                      clear HO347
                      clear HB
                      clear HO350
                      have BK344 := n0_
                      have HO347 := n1_
                      have HB := n2_
                      have HO353 := n3_
                      clear n0_ n1_ n2_ n3_
                      clear ho hb hg hat
                      refine hK.out _ _ ⟨(blk_cell BK344.out 0).trans rfl, (blk_cell BK344.out 1).trans rfl⟩ (fun hHeld => ?_)
                      clear hK K
                      refine norm_ (a' := ?_) ?_ ?_
                      rotate_left
                      · show Act.put _ (some 43) _ = _
                        simp only [Act.put, List.setIfInBounds_toArray, List.set_cons_zero, List.set_cons_succ, i64_w, i32_w]
                        rfl
                      refine one_ (i := 6) (N := some 46) #[true, true, true, true, true, true, true, false] rfl rfl (one_of HT_.out (by kernel_rfl)) (by decide) (fun K hK => ?_)
                      refine Go.Proofs.Ytffaggckhneakaa.Hs.R_append_str_step (w0 := w) w.heap.size (by rfl) (.tmp 43) _ 37 9 5 rfl Try.underlying37 Try.underlying9 info5 v352 y351 ((rd_T26 l0 x25_1).f1) (fun k_ => some k_ ≠ (.slice Ao19 y345.length co19 : Value).ownBlock) rfl rfl ?aO ?aF ?aB ?aS ?aL ?_
                      (case aB => exact (by repeat (first | (with_reducible first | exact HB.out | apply below_alloc | apply pw_below_drewN | apply below_drew1 | refine below_set ?_ GE344.out) | exact HB.out)))
                      (case aF => exact (fun k_ hk => Kd.fresh' (Kd.R_lt (by (with_reducible repeat (first | apply Kd.R_alloc | apply Kd.R_drewN | apply Kd.R_drew)); exact HO347.out)) k_ hk))
                      (case aO => exact (by (with_reducible repeat (first | apply Kd.R_alloc | apply Kd.R_drewN | apply Kd.R_drew)); exact HO353.out))
                      (case aS => exact (below_size (by repeat (first | (with_reducible first | exact HB.out | apply below_alloc | apply pw_below_drewN | apply below_drew1 | refine below_set ?_ GE344.out) | exact HB.out))))
                      (case aL => have := LMc13.out; omega)
                      intro v355 w22 ho hb hg hat
                      rw [← Ny354.out] at ho
                      have n0_ := Aside0.mk (blk_grown (g := gb344) (o := .cells #[.string ((rd_T26 l0 x25_1).f0), .string ((rd_T26 l0 x25_1).f1)] 26 (0, 0)) (by (with_reducible repeat (first | refine blk_drewN ?_ _ | refine blk_drew ?_ | refine blk_alloc ?_ _)); exact BK344.out) hg (Kd.R_ne HO353.out BK344.out (by decide)))
                      have n1_ := Aside0.mk (Kd.R_after (ok := (fun _ => True)) (by (with_reducible repeat (first | apply Kd.R_alloc | apply Kd.R_drewN | apply Kd.R_drew)); exact HO347.out) hg hat)
                      have n2_ := Aside0.mk (hb)
                      have n3_ := Aside0.mk (ho)
                      clear BK344
                      clear HO347
                      clear HB
                      clear HO353
                      have BK344 := n0_
                      have HO347 := n1_
                      have HB := n2_
                      have HO356 := n3_
                      clear n0_ n1_ n2_ n3_
                      clear ho hb hg hat
                      refine hK.out _ _ ⟨(blk_cell BK344.out 0).trans rfl, (blk_cell BK344.out 1).trans rfl⟩ (fun hHeld => ?_)
                      clear hK K
                      refine norm_ (a' := ?_) ?_ ?_
                      rotate_left
                      · show Act.put _ (some 46) _ = _
                        simp only [Act.put, List.setIfInBounds_toArray, List.set_cons_zero, List.set_cons_succ, i64_w, i32_w]
                        rfl
                      refine pure_ (i := 7) (N := some 6) (v := ?_) (a' := ?_) #[true, true, true, true, true, true, true, true] rfl rfl (any_of HT_.out (by kernel_rfl)) (fun _ _ _ h => h) (Or.inl ⟨by rfl, ?_⟩) ?_ ?_
                      rotate_left
                      · intro w'
                        go_simp
                        with_reducible rfl
                      rotate_left
                      · simp only [Act.put, List.setIfInBounds_toArray, List.set_cons_zero, List.set_cons_succ, i64_w, i32_w]
                        rfl
                      refine done_ (done_of HT_.out (by kernel_rfl)) ?_
                      try go_wp2
                      go_roundg k1
                      case measure => have := HK1.out; omega
                      case rel => exact ⟨(y354), (wrap64 (x25_1 + 1)), (by first | rfl | (simp; done) | (simp [*]; done)), H', ⟨by have := HK1.out; omega⟩, ⟨by (with_reducible repeat (first | apply Kd.R_alloc | apply Kd.R_drewN | apply Kd.R_drew)); exact Kd.R_mono HO356.out (fun _ hk => trivial)⟩, ⟨by repeat (first | (with_reducible first | exact HB.out | apply below_alloc | apply pw_below_drewN | apply below_drew1 | refine below_set ?_ GE344.out) | exact HB.out)⟩⟩
                    · rw [if_neg c13] at H
                      exact absurd H (by simp)
                  · rw [if_neg c12] at H
                    exact absurd H (by simp)
                · rw [if_neg c11] at H
                  exact absurd H (by simp)
              · rw [if_neg c10] at H
                exact absurd H (by simp)
            · rw [if_neg c9] at H
              exact absurd H (by simp)
          · rw [if_neg c8] at H
            have c8b0 : decide (x25_1 < (l0.length : Int)) = false := decide_eq_false c8
            clear c8
            obtain ⟨ji23, hji23⟩ : ∃ j_ : Int, (wrap64 (252 - (x6_1.length : Int))) = j_ := ⟨_, rfl⟩
            replace H : (if 0 ≤ (ji23) then (if x6_1.length + (ji23 : Int).toNat < 140737488355328 then ((some (x6_1 ++ List.replicate (ji23 : Int).toNat 0 : List Int)).bind fun y357 => ((crc_Sum.f k1 y357).bind fun t360 => ((crc_Bytes.f k1 (IntKind.u64.wrap (t360)) 4).bind fun t361 => (if y357.length + t361.length < 140737488355328 then (some ((y357 ++ t361), 0)) else (none))))) else (none)) else (none)) = some (r1, r2) := by first | (rw [hji23] at H; exact H) | (simp only [hji23] at H ⊢; exact H)
            have hji23w : (IntKind.i64.wrap (252 - (x6_1.length : Int))) = ji23 := (i64_w _).trans hji23
            (try rw [hji23] at c3b0)
            (try rw [hji23] at c3b1)
            (try rw [hji23] at c8b0)
            by_cases c24 : 0 ≤ (ji23)
            · rw [if_pos c24] at H
              have c24b0 := eq_true c24
              have c24b1 : decide (0 ≤ (ji23)) = true := decide_eq_true c24
              clear c24
              by_cases c25 : x6_1.length + (ji23 : Int).toNat < 140737488355328
              · rw [if_pos c25] at H
                have LMc25 := Aside0.mk c25
                clear c25
                obtain ⟨y357, hy357⟩ : ∃ y_ : List Int, y_ = (x6_1 ++ List.replicate (ji23 : Int).toNat 0) := ⟨_, rfl⟩
                replace H : ((crc_Sum.f k1 y357).bind fun t360 => ((crc_Bytes.f k1 (IntKind.u64.wrap (t360)) 4).bind fun t361 => (if y357.length + t361.length < 140737488355328 then (some ((y357 ++ t361), 0)) else (none)))) = some (r1, r2) := by first | (rw [hy357]; with_reducible exact H) | (have H2_ := (Option.bind_some _ _).symm.trans H; rw [hy357]; with_reducible exact H2_) | (have H2_ := (Option.bind_some _ _).symm.trans H; with_reducible exact H2_) | with_reducible exact H | (rw [hy357]; exact H) | exact H
                have Ny357 := Aside0.mk hy357
                clear hy357
                replace H := Option.bind_eq_some_iff.mp H
                obtain ⟨t360, A260, H⟩ := H
                replace H : ((crc_Bytes.f k1 (IntKind.u64.wrap (t360)) 4).bind fun t361 => (if y357.length + t361.length < 140737488355328 then (some ((y357 ++ t361), 0)) else (none))) = some (r1, r2) := H
                have A26 := Aside0.mk A260
                clear A260
                replace H := Option.bind_eq_some_iff.mp H
                obtain ⟨t361, A270, H⟩ := H
                replace H : (if y357.length + t361.length < 140737488355328 then (some ((y357 ++ t361), 0)) else (none)) = some (r1, r2) := H
                have A27 := Aside0.mk A270
                clear A270
                by_cases c28 : y357.length + t361.length < 140737488355328
                · rw [if_pos c28] at H
                  have LMc28 := Aside0.mk c28
                  clear c28
                  obtain ⟨y364, hy364⟩ : ∃ y_ : List Int, y_ = (y357 ++ t361) := ⟨_, rfl⟩
                  replace H : (some (y364, 0)) = some (r1, r2) := by first | (rw [hy364]; with_reducible exact H) | (have H2_ := (Option.bind_some _ _).symm.trans H; rw [hy364]; with_reducible exact H2_) | (have H2_ := (Option.bind_some _ _).symm.trans H; with_reducible exact H2_) | with_reducible exact H | (rw [hy364]; exact H) | exact H
                  have Ny364 := Aside0.mk hy364
                  clear hy364
                  simp only [Option.some.injEq, Prod.mk.injEq] at H
                  obtain ⟨rfl, rfl⟩ := H
                  obtain ⟨Ao29, co29, eo29⟩ := Kd.R_slice HO_6.out
                  subst eo29
                  go_wp2_with (first | (at_builtin; refine Kd.R_append_zeros (Kd.int .u8) (w0 := w) w.heap.size rfl (.tmp 48) (.tmp 51) 37 3 5 (.int .u8 0) 1 rfl Try.underlying37 Try.underlying3 info5 rfl (by decide) (by omega) (.slice Ao29 x6_1.length co29) x6_1 0 (ji23 : Int) (fun _ => True) rfl rfl rfl ?aF ?aO (of_decide_eq_true (by first | (with_reducible assumption) | assumption)) ?aB ?aS ?aL ?_; (case aB => exact (by repeat (first | (with_reducible first | exact HB.out | apply below_alloc | apply pw_below_drewN | apply below_drew1) | exact HB.out))); (case aF => exact (fun _ _ => trivial)); (case aO => exact (by (with_reducible repeat (first | apply Kd.R_alloc | apply Kd.R_drewN | apply Kd.R_drew)); exact HO_6.out)); (case aS => exact (below_size (by repeat (first | (with_reducible first | exact HB.out | apply below_alloc | apply pw_below_drewN | apply below_drew1) | exact HB.out)))); (case aL => have := LMc25.out; omega); intro v358 w30 ho hb hg hat; rw [← Ny357.out] at ho; have n0_ := Aside0.mk (hb); have n1_ := Aside0.mk (ho); clear HB; clear HO_6; have HB := n0_; have HO359 := n1_; clear n0_ n1_; clear ho hb hg hat; obtain ⟨Ao31, co31, eo31⟩ := Kd.R_slice HO359.out; subst eo31) | ((with_reducible refine gate_callee (f := 46) rfl ?_); refine goesL_ (some 55) rfl rfl Try.func46 (by kernel_rfl) rfl #[.slice Ao31 y357.length co31] rfl (by (try simp only [List.map_toArray, List.map_cons, List.map_nil]); first | done | rfl | (simp only [List.length_drop, List.length_take]; rfl)) ?_; (with_reducible refine (crc_Sum.calls k1 _ _ y357 t360 _ ?side1 ?side2 A26.out).mono ?_); (case side1 => repeat (first | exact (Kd.R_reads' HO359.out).2.2 | (with_reducible refine Kd.C_alloc ?_ _) | (with_reducible refine Kd.C_drewN ?_ _) | (with_reducible refine Kd.C_drew ?_))); (case side2 => exact (Kd.R_reads' HO359.out).2.1); rintro e w32 ⟨rfl, hb⟩; refine ⟨_, rfl, ?_⟩; have n0_ := Aside0.mk (Kd.R_below (by (with_reducible repeat (first | apply Kd.R_alloc | apply Kd.R_drewN | apply Kd.R_drew)); exact HO359.out) hb); have n1_ := Aside0.mk (below_step (by repeat (first | (with_reducible first | exact HB.out | apply below_alloc | apply pw_below_drewN | apply below_drew1) | exact HB.out)) hb); clear HO359; clear HB; have HO359 := n0_; have HB := n1_; clear n0_ n1_; (try clear hb); (try clear hb2); (try clear hk); (try clear hi)) | ((with_reducible refine gate_callee (f := 45) rfl ?_); refine goesL_ (some 57) rfl rfl Try.func45 (by kernel_rfl) rfl #[.int .u64 (IntKind.u64.wrap (t360)), .int .i64 4] rfl (by (try simp only [List.map_toArray, List.map_cons, List.map_nil]); first | done | rfl | (simp only [List.length_drop, List.length_take]; rfl)) ?_; (with_reducible refine (crc_Bytes.calls k1 (IntKind.u64.wrap (t360)) 4 t361 _ A27.out).mono ?_); rintro e w33 ⟨v362, rfl, ho0, hb⟩; refine ⟨_, rfl, ?_⟩; have n0_ := Aside0.mk (Kd.R_elder' (by (with_reducible repeat (first | apply Kd.R_alloc | apply Kd.R_drewN | apply Kd.R_drew)); exact HO359.out) (Kd.R_base ho0) hb); have n1_ := Aside0.mk (Kd.R_lower (Kd.R_new' ho0 (Kd.R_lt (by (with_reducible repeat (first | apply Kd.R_alloc | apply Kd.R_drewN | apply Kd.R_drew)); exact HO359.out))) (below_size (by repeat (first | (with_reducible first | exact HB.out | apply below_alloc | apply pw_below_drewN | apply below_drew1) | exact HB.out)))); have n2_ := Aside0.mk (below_step (by repeat (first | (with_reducible first | exact HB.out | apply below_alloc | apply pw_below_drewN | apply below_drew1) | exact HB.out)) hb); clear HO359; clear HB; have HO359 := n0_; have HO363 := n1_; have HB := n2_; clear n0_ n1_ n2_; (try clear hb); (try clear hb2); (try clear hk); (try clear hi); (try clear ho0); obtain ⟨Ao35, co35, eo35⟩ := Kd.R_slice HO363.out; subst eo35) | ((with_reducible refine gate_builtin (b := .append) (xs := #[.tmp 53, .tmp 57]) rfl ?_); at_builtin; refine Kd.R_append_rows (Kd.int .u8) (w0 := w) w.heap.size rfl (.tmp 53) (.tmp 57) 37 5 (.int .u8 0) 1 rfl Try.underlying37 info5 rfl (by decide) (by omega) (.slice Ao31 y357.length co31) y357 t361 _ _ _ (fun k_ => some k_ ≠ (.slice Ao35 t361.length co35 : Value).ownBlock) (fun _ => False) rfl rfl ?aO ?aR (fun _ _ h => h) (fun _ h => h.elim) ?aF ?aB ?aS ?aL ?_; (case aR => repeat (first | exact (Kd.R_reads' HO363.out).2.2 | (with_reducible refine Kd.C_alloc ?_ _) | (with_reducible refine Kd.C_drewN ?_ _) | (with_reducible refine Kd.C_drew ?_))); (case aB => exact (by repeat (first | (with_reducible first | exact HB.out | apply below_alloc | apply pw_below_drewN | apply below_drew1) | exact HB.out))); (case aF => exact (fun k_ hk => Kd.fresh' (Kd.R_lt (by (with_reducible repeat (first | apply Kd.R_alloc | apply Kd.R_drewN | apply Kd.R_drew)); exact HO363.out)) k_ hk)); (case aO => exact (by (with_reducible repeat (first | apply Kd.R_alloc | apply Kd.R_drewN | apply Kd.R_drew)); exact Kd.R_mono HO359.out (fun _ hk => hk.2))); (case aS => exact (below_size (by repeat (first | (with_reducible first | exact HB.out | apply below_alloc | apply pw_below_drewN | apply below_drew1) | exact HB.out)))); (case aL => have := LMc28.out; omega); intro v365 w34 ho hb hg hat; rw [← Ny364.out] at ho; have n0_ := Aside0.mk (Kd.R_after (ok := (fun _ => True)) (by (with_reducible repeat (first | apply Kd.R_alloc | apply Kd.R_drewN | apply Kd.R_drew)); exact HO363.out) hg hat); have n1_ := Aside0.mk (hb); have n2_ := Aside0.mk (ho); clear HO363; clear HB; clear HO359; have HO363 := n0_; have HB := n1_; have HO366 := n2_; clear n0_ n1_ n2_; clear ho hb hg hat))
                  go_ret2
                  exact ⟨_, by first | rfl | (simp [errW_none, errW_some] <;> rfl) | (simp only [← hji23]; first | rfl | (simp [errW_none, errW_some] <;> rfl)) | (simp [*, errW_none, errW_some] <;> rfl), by (with_reducible repeat (first | apply Kd.R_alloc | apply Kd.R_drewN | apply Kd.R_drew)); exact Kd.R_mono HO366.out (fun _ hk => trivial), by repeat (first | (with_reducible first | exact HB.out | apply below_alloc | apply pw_below_drewN | apply below_drew1) | exact HB.out)⟩
                · rw [if_neg c28] at H
                  exact absurd H (by simp)
              · rw [if_neg c25] at H
                exact absurd H (by simp)
            · rw [if_neg c24] at H
              exact absurd H (by simp)
    · replace c4 := Bool.eq_false_iff.mpr c4
      subst c4
      have H1 : (some (([] : List Int), 15)) = some (r1, r2) := by rw [if_neg (show ¬ (false = true) by decide)] at H; exact H
      clear H
      have H := H1
      clear H1
      simp only [Option.some.injEq, Prod.mk.injEq] at H
      obtain ⟨rfl, rfl⟩ := H
      go_enter Try.func21, Try.ntmps21
      go_wp2_with (first | ((with_reducible refine gate_callee (f := 35) rfl ?_); refine goesL_ (some 11) rfl rfl Try.func35 (by kernel_rfl) rfl #[.slice A0 l0.length c0] rfl (by (try simp only [List.map_toArray, List.map_cons, List.map_nil]); first | done | rfl | (simp only [List.length_drop, List.length_take]; rfl)) ?_; (with_reducible refine (attr_check.calls k _ _ l0 false t339 _ ?side1 ?side2 A2.out).mono ?_); (case side1 => repeat (first | exact HR0.out | (with_reducible refine Kd.C_alloc ?_ _) | (with_reducible refine Kd.C_drewN ?_ _) | (with_reducible refine Kd.C_drew ?_))); (case side2 => exact HC0.out); rintro e w36 ⟨rfl, hb⟩; refine ⟨_, rfl, ?_⟩; have n0_ := Aside0.mk (below_step (by repeat (first | (with_reducible first | exact HB.out | apply below_alloc | apply pw_below_drewN | apply below_drew1) | exact HB.out)) hb); clear HB; have HB := n0_; clear n0_; (try clear hb); (try clear hb2); (try clear hk); (try clear hi)))
      go_ret2
      exact ⟨_, by first | rfl | (simp [errW_none, errW_some] <;> rfl) | (simp [*, errW_none, errW_some] <;> rfl), by first | exact Kd.R_nil _ _ _ _ _ | exact Kd.N_nil _ _ _ _ _ | exact Kd.V_nil _ _ _ _ _ | exact Kd.Q_nil _ _ _ _ _ | exact Kd.S_nil _ _ _ _ _, by repeat (first | (with_reducible first | exact HB.out | apply below_alloc | apply pw_below_drewN | apply below_drew1) | exact HB.out)⟩
  · rw [if_neg c3] at H
    have c3b0 : (t339 == 0) = false := beq_eq_false_iff_ne.mpr c3
    have c3b1 : (t339 != 0) = true := bne_iff_ne.mpr c3
    simp only [Option.some.injEq, Prod.mk.injEq] at H
    obtain ⟨rfl, rfl⟩ := H
    go_enter Try.func21, Try.ntmps21
    go_wp2_with (first | ((with_reducible refine gate_callee (f := 35) rfl ?_); refine goesL_ (some 11) rfl rfl Try.func35 (by kernel_rfl) rfl #[.slice A0 l0.length c0] rfl (by (try simp only [List.map_toArray, List.map_cons, List.map_nil]); first | done | rfl | (simp only [List.length_drop, List.length_take]; rfl)) ?_; (with_reducible refine (attr_check.calls k _ _ l0 t338 t339 _ ?side1 ?side2 A2.out).mono ?_); (case side1 => repeat (first | exact HR0.out | (with_reducible refine Kd.C_alloc ?_ _) | (with_reducible refine Kd.C_drewN ?_ _) | (with_reducible refine Kd.C_drew ?_))); (case side2 => exact HC0.out); rintro e w37 ⟨rfl, hb⟩; refine ⟨_, rfl, ?_⟩; have n0_ := Aside0.mk (below_step (by repeat (first | (with_reducible first | exact HB.out | apply below_alloc | apply pw_below_drewN | apply below_drew1) | exact HB.out)) hb); clear HB; have HB := n0_; clear n0_; (try clear hb); (try clear hb2); (try clear hk); (try clear hi)))
    go_ret2
    exact ⟨_, by first | rfl | (simp [errW_none, errW_some] <;> rfl) | (simp [*, errW_none, errW_some] <;> rfl), by first | exact Kd.R_nil _ _ _ _ _ | exact Kd.N_nil _ _ _ _ _ | exact Kd.V_nil _ _ _ _ _ | exact Kd.Q_nil _ _ _ _ _ | exact Kd.S_nil _ _ _ _ _, by repeat (first | (with_reducible first | exact HB.out | apply below_alloc | apply pw_below_drewN | apply below_drew1) | exact HB.out)⟩
end Go.Proofs.Ytffaggckhneakaa.Pr
end
section
namespace Go.Proofs.Ytffaggckhneakaa.At
open Go.RowKit Go.Proofs.YtffaggckhneakaaW.PrintWords Go.Proofs.YtffaggckhneakaaW.PrintMore Go.Proofs.Ytffaggckhneakaa.Pr Go.Proofs.Ytffaggckhneakaa.Od Go.Proofs.Ytffaggckhneakaa.Cr
set_option linter.unusedVariables false
set_option linter.unusedSimpArgs false
theorem fin_ev (m : List E) (hm : right none m = true) (hl : m.length < 4398046511104) : Ev (fun k => attr_Set.fin k m) (if sumL m ≤ 250 then (m, 0) else ([], 15)) := by
  unfold attr_Set.fin
  refine Ev.bind (check_ev m hl) ?_
  unfold checkR
  simp only [if_pos hm]
  by_cases h : sumL m ≤ 250
  · simp only [decide_eq_true h, if_true, if_pos h]
    exact Ev.now _
  · simp only [decide_eq_false h, Bool.false_eq_true, if_false, if_neg h]
    exact Ev.now _
theorem set_ev (l : List E) (x : E) (hl : l.length < 4398046511103) : Ev (fun k => attr_Set.f k l x.f0 x.f1) (setR l x) := by
  unfold attr_Set.f
  refine Ev.bind (check_ev l (by omega)) ?_
  unfold checkR setR
  by_cases hr : right none l = true
  · simp only [if_pos hr, if_true, may_some, Option.bind_some]
    by_cases hx : okE x = true
    · have hx' : mayB x.f0 x.f1 = true := hx
      simp only [hx', if_true, if_pos (show right none l = true ∧ okE x = true from ⟨hr, hx⟩)]
      have hpr := put_right hr hx
      have hpl : (put x l).length ≤ l.length + 1 := put_len
      obtain ⟨A, M, C, rfl, hA, hC, hM⟩ := split (nb x) l ((right_iff l none).1 hr).2.2
      have hput := put_split hA hC hM
      rw [hput] at hpr hpl
      have hfin := fin_ev (A ++ x :: C) hpr (by omega)
      refine Ev.bind (find_ev A M C x.f0 hA hC hM (by omega)) ?_
      have hlen : (A ++ (M ++ C)).length = A.length + (M.length + C.length) := by rw [List.length_append, List.length_append]
      simp only [hput]
      rcases hM with rfl | ⟨m, rfl, hm⟩
      · rw [show (decide (([] : List E) ≠ [])) = false from rfl]
        simp only [Bool.false_eq_true, if_false]
        simp only [if_pos (show 0 ≤ (A.length : Int) ∧ (A.length : Int) ≤ ((A ++ ([] ++ C)).length : Int) ∧ (A ++ ([] ++ C)).length < 4398046511103 by omega)]
        simp only [Int.toNat_natCast, List.nil_append, List.take_left, List.drop_left]
        exact hfin
      · rw [show (decide (([m] : List E) ≠ [])) = true from rfl]
        simp only [if_true]
        simp only [if_pos (show 0 ≤ (A.length : Int) ∧ (A.length : Int) < ((A ++ ([m] ++ C)).length : Int) by rw [hlen]; simp; omega)]
        have e : (A ++ ([m] ++ C)).set (A.length : Int).toNat (⟨x.f0, x.f1⟩ : E) = A ++ x :: C := by
          rw [Int.toNat_natCast, List.set_append_right _ _ (Nat.le_refl _), Nat.sub_self]; rfl
        simp only [e]
        exact hfin
    · have hx' : mayB x.f0 x.f1 = false := by simpa [okE] using hx
      simp only [hx', Bool.false_eq_true, if_false, if_neg (show ¬ (right none l = true ∧ okE x = true) from fun h => hx h.2)]
      exact Ev.now _
  · simp only [if_neg hr, if_neg (show ¬ ((1 : Int) = 0) by decide), if_neg (show ¬ (right none l = true ∧ okE x = true) from fun h => hr h.1)]
    exact Ev.now _
theorem drop_ev (l : List E) (s : ByteArray) (hl : l.length < 4398046511104) : Ev (fun k => attr_Drop.f k l s) (dropR l s.data.toList) := by
  unfold attr_Drop.f
  refine Ev.bind (check_ev l hl) ?_
  unfold checkR dropR
  by_cases hr : right none l = true
  · simp only [if_pos hr, if_true]
    obtain ⟨A, M, C, rfl, hA, hC, hM⟩ := split s.data.toList l ((right_iff l none).1 hr).2.2
    refine Ev.bind (find_ev A M C s hA hC hM hl) ?_
    rw [get_split hA hC hM, rem_split hA hC hM]
    rcases hM with rfl | ⟨m, rfl, hm⟩
    · rw [show (decide (([] : List E) ≠ [])) = false from rfl]
      simp only [Bool.false_eq_true, if_false, List.head?_nil]
      exact Ev.now _
    · rw [show (decide (([m] : List E) ≠ [])) = true from rfl]
      simp only [if_true, List.head?_cons]
      simp only [if_pos (show 0 ≤ (A.length : Int) ∧ (A.length : Int) < ((A ++ ([m] ++ C)).length : Int) by simp; omega)]
      have e : (A ++ ([m] ++ C)).eraseIdx (A.length : Int).toNat = A ++ C := by
        rw [Int.toNat_natCast, List.eraseIdx_append_of_length_le (Nat.le_refl _), Nat.sub_self]; rfl
      simp only [e]
      exact Ev.now _
  · simp only [if_neg hr, if_neg (show ¬ ((1 : Int) = 0) by decide)]
    exact Ev.now _
theorem get_ev (l : List E) (s : ByteArray) (hl : l.length < 4398046511104) : Ev (fun k => attr_Get.f k l s) (getR l s.data.toList) := by
  unfold attr_Get.f
  refine Ev.bind (check_ev l hl) ?_
  unfold checkR getR
  by_cases hr : right none l = true
  · simp only [if_pos hr, if_true]
    obtain ⟨A, M, C, rfl, hA, hC, hM⟩ := split s.data.toList l ((right_iff l none).1 hr).2.2
    refine Ev.bind (find_ev A M C s hA hC hM hl) ?_
    rw [get_split hA hC hM]
    rcases hM with rfl | ⟨m, rfl, hm⟩
    · rw [show (decide (([] : List E) ≠ [])) = false from rfl]
      simp only [Bool.false_eq_true, if_false, List.head?_nil]
      exact Ev.now _
    · rw [show (decide (([m] : List E) ≠ [])) = true from rfl]
      have hlt : A.length < (A ++ ([m] ++ C)).length := by simp
      simp only [if_true, List.head?_cons, if_pos (show (0 : Int) ≤ (A.length : Int) by omega), if_pos (show (A.length : Int) < ((A ++ ([m] ++ C)).length : Int) by omega), rdT_get hlt]
      have e : (A ++ ([m] ++ C))[A.length] = m := by simp
      simp only [e]
      exact Ev.now _
  · simp only [if_neg hr, if_neg (show ¬ ((1 : Int) = 0) by decide)]
    exact Ev.now _
def entB (e : E) : List Int := bytesN 1 e.f0.size ++ bytesN 1 e.f1.size ++ bytesOf e.f0 ++ bytesOf e.f1
def bodyL : List E → List Int
  | [] => []
  | e :: l => entB e ++ bodyL l
def headP (l : List E) : List Int := bytesN 2 l.length
def encP (l : List E) : List Int := headP l ++ bodyL l ++ List.replicate (252 - (2 + sumL l)) 0
def encR (l : List E) : List Int × Int := if right none l = true then (if sumL l > 250 then ([], 15) else (encP l ++ bytesN 4 (sumB (encP l)).toNat, 0)) else ([], 1)
theorem entB_len (e : E) : (entB e).length = 2 + e.f0.size + e.f1.size := by
  simp only [entB, List.length_append, bytesN_len, bytesOf_length]
theorem bodyL_len : ∀ l, (bodyL l).length = sumL l
  | [] => rfl
  | e :: l => by rw [bodyL, List.length_append, entB_len, bodyL_len l, sumL]
theorem headP_len (l : List E) : (headP l).length = 2 := by simp [headP, bytesN_len]
theorem encP_len {l : List E} (h : sumL l ≤ 250) : (encP l).length = 252 := by
  rw [encP, List.length_append, List.length_append, headP_len, bodyL_len, List.length_replicate]; omega
theorem encR_len {l : List E} (h : (encR l).2 = 0) : (encR l).1.length = 256 := by
  unfold encR at h ⊢
  by_cases hr : right none l = true
  · rw [if_pos hr] at h ⊢
    by_cases hs : sumL l > 250
    · rw [if_pos hs] at h; cases h
    · rw [if_neg hs, List.length_append, encP_len (by omega), bytesN_len]
  · rw [if_neg hr] at h; cases h
theorem encR_iff {l : List E} : (encR l).2 = 0 ↔ right none l = true ∧ sumL l ≤ 250 := by
  unfold encR
  by_cases hr : right none l = true
  · rw [if_pos hr]
    by_cases hs : sumL l > 250
    · rw [if_pos hs]
      constructor
      · intro h; cases h
      · intro h; omega
    · rw [if_neg hs]
      exact ⟨fun _ => ⟨hr, by omega⟩, fun _ => rfl⟩
  · rw [if_neg hr]
    constructor
    · intro h; cases h
    · intro h; exact absurd h.1 hr
theorem u64n (n : Nat) (h : n < 18446744073709551616) : IntKind.u64.wrap (n : Int) = (n : Int) := by rw [u64w]; omega
theorem two_bytes (a b : Nat) : [((a : Nat) : Int) % 256, ((b : Nat) : Int) % 256] = bytesN 1 a ++ bytesN 1 b := by simp [bytesN]
theorem enc_ev (l : List E) (hl : l.length < 4398046511104) : Ev (fun k => attr_Encode.f k l) (encR l) := by
  unfold attr_Encode.f
  refine Ev.bind (check_ev l hl) ?_
  unfold checkR encR
  by_cases hr : right none l = true
  · simp only [if_pos hr, if_true]
    by_cases hs : sumL l > 250
    · simp only [if_pos hs, decide_eq_false (show ¬ sumL l ≤ 250 by omega), Bool.false_eq_true, if_false]
      exact Ev.now _
    · simp only [if_neg hs, decide_eq_true (show sumL l ≤ 250 by omega), if_true, u64n l.length (by omega)]
      refine Ev.bind (crc_bytes_ev _ 2 (by decide)) ?_
      have hlen : (headP l ++ bodyL l).length = 2 + sumL l := by rw [List.length_append, headP_len, bodyL_len]
      have key : ∀ (n i : Nat) (b : List Int), i + n = l.length → b.length + sumL (l.drop i) ≤ 252 → b ++ bodyL (l.drop i) = headP l ++ bodyL l → Ev (fun k => attr_Encode.l0 k b l (l.length : Int) (i : Int)) (encP l ++ bytesN 4 (sumB (encP l)).toNat, 0) := by
        intro n
        induction n with
        | zero =>
          intro i b hi hb he
          refine Ev.succ ?_
          rw [List.drop_of_length_le (by omega), bodyL, List.append_nil] at he
          subst he
          have ew : wrap64 (252 - ((headP l ++ bodyL l).length : Int)) = ((252 - (2 + sumL l) : Nat) : Int) := by rw [hlen, w64 (by omega) (by omega)]; omega
          have el : (headP l ++ bodyL l).length + (252 - (2 + sumL l)) = 252 := by omega
          simp only [attr_Encode.l0, if_neg (show ¬((i : Int) < (l.length : Int)) by omega), ew, if_pos (show (0 : Int) ≤ ((252 - (2 + sumL l) : Nat) : Int) by omega), Int.toNat_natCast, el, if_pos (show 252 < 140737488355328 by decide), bs]
          refine Ev.bind (crc_sum_ev (encP l) (by rw [encP_len (by omega)]; decide)) ?_
          have hlt := (sumB (encP l)).isLt
          rw [u64n _ (by omega)]
          refine Ev.bind (crc_bytes_ev _ 4 (by decide)) ?_
          have e5 : (headP l ++ bodyL l ++ List.replicate (252 - (2 + sumL l)) 0).length = 252 := encP_len (by omega)
          simp only [bytesN_len, e5, if_pos (show 252 + 4 < 140737488355328 by decide)]
          exact Ev.now _
        | succ n ih =>
          intro i b hi hb he
          refine Ev.succ ?_
          have hil : i < l.length := by omega
          rw [List.drop_eq_getElem_cons hil] at hb he
          simp only [sumL] at hb
          simp only [attr_Encode.l0, if_pos (show ((i : Int) < (l.length : Int)) by omega), if_pos (show (0 : Int) ≤ (i : Int) by omega), rdT_get hil, bs, two_bytes, List.length_append, bytesN_len, bytesOf_length, if_pos (show b.length + (1 + 1) < 140737488355328 by omega), if_pos (show b.length + (1 + 1) + l[i].f0.size < 140737488355328 by omega), if_pos (show b.length + (1 + 1) + l[i].f0.size + l[i].f1.size < 140737488355328 by omega), w64 (show -9223372036854775808 ≤ (i : Int) + 1 by omega) (by omega)]
          refine ih (i + 1) _ (by omega) (by simp only [List.length_append, bytesN_len, bytesOf_length]; omega) ?_
          rw [← he]
          simp only [bodyL, entB, List.append_assoc]
      have := key l.length 0 (headP l) (by omega) (by rw [List.drop_zero, headP_len]; omega) (by rw [List.drop_zero])
      exact this
  · simp only [if_neg hr, if_neg (show ¬ ((1 : Int) = 0) by decide)]
    exact Ev.now _
end Go.Proofs.Ytffaggckhneakaa.At
end
section
namespace Go.Proofs.Ytffaggckhneakaa.Pr
open Go.RowKit Go.Proofs.YtffaggckhneakaaW.PrintWords Go.Proofs.YtffaggckhneakaaW.PrintLast Go.Proofs.YtffaggckhneakaaW.PrintMore
attribute [local go_sem] max2_int min2_int max_two min_two max_three min_three max_four min_four
attribute [local go_sem] Go.Proofs.Ytffaggckhneakaa.Hl.str_geq Go.Proofs.Ytffaggckhneakaa.Hl.str_gtr Go.Proofs.Ytffaggckhneakaa.Hl.str_leq
set_option linter.unusedVariables false
set_option linter.unusedSimpArgs false
def undercroftlaw13_alive.f (k : Nat)  : Option (Bool) := (attr_Set.f k (([(⟨(⟨#[98]⟩ : ByteArray), (⟨#[49]⟩ : ByteArray)⟩ : S26)] : List (S26))) (⟨#[97]⟩ : ByteArray) (⟨#[50]⟩ : ByteArray)).bind fun bt370 => ((attr_Get.f k bt370.1 (⟨#[98]⟩ : ByteArray)).bind fun bt374 => ((attr_Encode.f k bt370.1).bind fun bt376 => (if bt370.2 = 0 then (if (bt370.1.length : Int) = 2 then (if 0 < (bt370.1.length : Int) then (if ((rd_T26 bt370.1 0).f0).toList = ([97] : List UInt8) then (if bt374.2 = 0 then (if bt374.1.toList = ([49] : List UInt8) then (if bt376.2 = 0 then (if (bt376.1.length : Int) = 256 then (if 0 < (bt376.1.length : Int) then (some ((rd bt376.1 0) == 2)) else (none)) else (some false)) else (some false)) else (some false)) else (some false)) else (some false)) else (none)) else (some false)) else (some false))))
set_option maxHeartbeats 8000000 in
set_option maxRecDepth 100000 in
theorem undercroftlaw13_alive.calls (k : Nat)  (r : Bool) (w : World) (h : undercroftlaw13_alive.f k  = some r) :
    Calls Try.prog 13 #[] w fun e w' => e = .returned (.bool r) ∧ Below w.heap.size w w' := by
  have hu26 := Try.underlying26
  have HB := Aside0.mk (Below.refl w.heap.size w)
  have H : ((attr_Set.f k (([(⟨(⟨#[98]⟩ : ByteArray), (⟨#[49]⟩ : ByteArray)⟩ : S26)] : List (S26))) (⟨#[97]⟩ : ByteArray) (⟨#[50]⟩ : ByteArray)).bind fun bt370 => ((attr_Get.f k bt370.1 (⟨#[98]⟩ : ByteArray)).bind fun bt374 => ((attr_Encode.f k bt370.1).bind fun bt376 => (if bt370.2 = 0 then (if (bt370.1.length : Int) = 2 then (if 0 < (bt370.1.length : Int) then (if ((rd_T26 bt370.1 0).f0).toList = ([97] : List UInt8) then (if bt374.2 = 0 then (if bt374.1.toList = ([49] : List UInt8) then (if bt376.2 = 0 then (if (bt376.1.length : Int) = 256 then (if 0 < (bt376.1.length : Int) then (some ((rd bt376.1 0) == 2)) else (none)) else (some false)) else (some false)) else (some false)) else (some false)) else (some false)) else (none)) else (some false)) else (some false))))) = some r := h
  clear h
  obtain ⟨y367, hy367⟩ : ∃ y_ : List (S26), y_ = (([(⟨(⟨#[98]⟩ : ByteArray), (⟨#[49]⟩ : ByteArray)⟩ : S26)] : List (S26))) := ⟨_, rfl⟩
  replace H : ((attr_Set.f k y367 (⟨#[97]⟩ : ByteArray) (⟨#[50]⟩ : ByteArray)).bind fun bt370 => ((attr_Get.f k bt370.1 (⟨#[98]⟩ : ByteArray)).bind fun bt374 => ((attr_Encode.f k bt370.1).bind fun bt376 => (if bt370.2 = 0 then (if (bt370.1.length : Int) = 2 then (if 0 < (bt370.1.length : Int) then (if ((rd_T26 bt370.1 0).f0).toList = ([97] : List UInt8) then (if bt374.2 = 0 then (if bt374.1.toList = ([49] : List UInt8) then (if bt376.2 = 0 then (if (bt376.1.length : Int) = 256 then (if 0 < (bt376.1.length : Int) then (some ((rd bt376.1 0) == 2)) else (none)) else (some false)) else (some false)) else (some false)) else (some false)) else (some false)) else (none)) else (some false)) else (some false))))) = some r := by first | (rw [hy367]; with_reducible exact H) | (have H2_ := (Option.bind_some _ _).symm.trans H; rw [hy367]; with_reducible exact H2_) | (have H2_ := (Option.bind_some _ _).symm.trans H; with_reducible exact H2_) | with_reducible exact H | (rw [hy367]; exact H) | exact H
  have Ny367 := Aside0.mk hy367
  clear hy367
  replace H := Option.bind_eq_some_iff.mp H
  obtain ⟨⟨t370, t373⟩, A10, H⟩ := H
  replace H : ((attr_Get.f k t370 (⟨#[98]⟩ : ByteArray)).bind fun bt374 => ((attr_Encode.f k t370).bind fun bt376 => (if t373 = 0 then (if (t370.length : Int) = 2 then (if 0 < (t370.length : Int) then (if ((rd_T26 t370 0).f0).toList = ([97] : List UInt8) then (if bt374.2 = 0 then (if bt374.1.toList = ([49] : List UInt8) then (if bt376.2 = 0 then (if (bt376.1.length : Int) = 256 then (if 0 < (bt376.1.length : Int) then (some ((rd bt376.1 0) == 2)) else (none)) else (some false)) else (some false)) else (some false)) else (some false)) else (some false)) else (none)) else (some false)) else (some false)))) = some r := H
  have A1 := Aside0.mk A10
  clear A10
  replace H := Option.bind_eq_some_iff.mp H
  obtain ⟨⟨t374, t375⟩, A20, H⟩ := H
  replace H : ((attr_Encode.f k t370).bind fun bt376 => (if t373 = 0 then (if (t370.length : Int) = 2 then (if 0 < (t370.length : Int) then (if ((rd_T26 t370 0).f0).toList = ([97] : List UInt8) then (if t375 = 0 then (if t374.toList = ([49] : List UInt8) then (if bt376.2 = 0 then (if (bt376.1.length : Int) = 256 then (if 0 < (bt376.1.length : Int) then (some ((rd bt376.1 0) == 2)) else (none)) else (some false)) else (some false)) else (some false)) else (some false)) else (some false)) else (none)) else (some false)) else (some false))) = some r := H
  have A2 := Aside0.mk A20
  clear A20
  replace H := Option.bind_eq_some_iff.mp H
  obtain ⟨⟨t376, t377⟩, A30, H⟩ := H
  replace H : (if t373 = 0 then (if (t370.length : Int) = 2 then (if 0 < (t370.length : Int) then (if ((rd_T26 t370 0).f0).toList = ([97] : List UInt8) then (if t375 = 0 then (if t374.toList = ([49] : List UInt8) then (if t377 = 0 then (if (t376.length : Int) = 256 then (if 0 < (t376.length : Int) then (some ((rd t376 0) == 2)) else (none)) else (some false)) else (some false)) else (some false)) else (some false)) else (some false)) else (none)) else (some false)) else (some false)) = some r := H
  have A3 := Aside0.mk A30
  clear A30
  by_cases c4 : t373 = 0
  · rw [if_pos c4] at H
    have c4b0 : (t373 == 0) = true := beq_iff_eq.mpr c4
    have c4b1 : (t373 != 0) = false := bne_eq_false_iff_eq.mpr c4
    clear c4
    by_cases c5 : (t370.length : Int) = 2
    · rw [if_pos c5] at H
      have c5b0 : ((t370.length : Int) == 2) = true := beq_iff_eq.mpr c5
      have c5b1 : ((t370.length : Int) != 2) = false := bne_eq_false_iff_eq.mpr c5
      clear c5
      by_cases c6 : 0 < (t370.length : Int)
      · rw [if_pos c6] at H
        have c6b0 : decide (0 < (t370.length : Int)) = true := decide_eq_true c6
        have c6b1 : decide (0 < t370.length) = true := decide_eq_true (by omega)
        clear c6
        by_cases c7 : ((rd_T26 t370 0).f0).toList = ([97] : List UInt8)
        · rw [if_pos c7] at H
          have c7b0 : (((rd_T26 t370 0).f0).toList == ([97] : List UInt8)) = true := beq_iff_eq.mpr c7
          have c7b1 : (((rd_T26 t370 0).f0).toList != ([97] : List UInt8)) = false := bne_eq_false_iff_eq.mpr c7
          clear c7
          by_cases c8 : t375 = 0
          · rw [if_pos c8] at H
            have c8b0 : (t375 == 0) = true := beq_iff_eq.mpr c8
            have c8b1 : (t375 != 0) = false := bne_eq_false_iff_eq.mpr c8
            clear c8
            by_cases c9 : t374.toList = ([49] : List UInt8)
            · rw [if_pos c9] at H
              have c9b0 : (t374.toList == ([49] : List UInt8)) = true := beq_iff_eq.mpr c9
              have c9b1 : (t374.toList != ([49] : List UInt8)) = false := bne_eq_false_iff_eq.mpr c9
              clear c9
              by_cases c10 : t377 = 0
              · rw [if_pos c10] at H
                have c10b0 : (t377 == 0) = true := beq_iff_eq.mpr c10
                have c10b1 : (t377 != 0) = false := bne_eq_false_iff_eq.mpr c10
                clear c10
                by_cases c11 : (t376.length : Int) = 256
                · rw [if_pos c11] at H
                  have c11b0 : ((t376.length : Int) == 256) = true := beq_iff_eq.mpr c11
                  have c11b1 : ((t376.length : Int) != 256) = false := bne_eq_false_iff_eq.mpr c11
                  clear c11
                  by_cases c12 : 0 < (t376.length : Int)
                  · rw [if_pos c12] at H
                    have c12b0 : decide (0 < (t376.length : Int)) = true := decide_eq_true c12
                    have c12b1 : decide (0 < t376.length) = true := decide_eq_true (by omega)
                    clear c12
                    obtain rfl := Option.some.inj H
                    go_enter Try.func13, Try.ntmps13
                    go_wp2_with (first | ((with_reducible refine gate_dst (N := 9) rfl ?_); (try (refine gate_guard (by rfl) ?_; dsimp only)); refine Kd.R_lit k26 _ 26 ?hg (N := 9) ?hd (xs := ([(⟨(⟨#[98]⟩ : ByteArray), (⟨#[49]⟩ : ByteArray)⟩ : S26)] : List (S26))) (inner := [.string (⟨#[98]⟩ : ByteArray), .string (⟨#[49]⟩ : ByteArray)]) (ok := fun _ => True) (okp := fun _ => True) ?hr ?hp (fun _ hk => hk) trivial (Below.refl _ _) (Nat.le_refl _) (by simp) ?_; (case hd => rfl); (case hg => rfl); (case hr => first | (go_simp; done) | (go_simp; rfl)); (case hp => exact (Reps.c2 (show Kd.M k26 _ _ _ (⟨(⟨#[98]⟩ : ByteArray), (⟨#[49]⟩ : ByteArray)⟩ : S26) [.string (⟨#[98]⟩ : ByteArray), .string (⟨#[49]⟩ : ByteArray)] from (k26_mkM _ _ _ (⟨(⟨#[98]⟩ : ByteArray), (⟨#[49]⟩ : ByteArray)⟩ : S26) )) (Reps.none _ _))); intro v368 w13 ho14 hb hg_ hnew_; clear hg_ hnew_; (first | rw [← Ny367.out] at ho14 | (simp only [Int.reduceToNat] at ho14; rw [← Ny367.out] at ho14)); have n0_ := Aside0.mk (Kd.R_lower ho14 (below_size (by repeat (first | (with_reducible first | exact HB.out | apply below_alloc | apply pw_below_drewN | apply below_drew1) | exact HB.out)))); have n1_ := Aside0.mk (below_step (by repeat (first | (with_reducible first | exact HB.out | apply below_alloc | apply pw_below_drewN | apply below_drew1) | exact HB.out)) hb); clear HB; have HO369 := n0_; have HB := n1_; clear n0_ n1_; clear hb ho14; obtain ⟨Ao15, co15, eo15⟩ := Kd.R_slice HO369.out; subst eo15) | ((with_reducible refine gate_callee (f := 14) rfl ?_); refine goesL_ (some 11) rfl rfl Try.func14 (by kernel_rfl) rfl #[.slice Ao15 y367.length co15, .agg #[.string (⟨#[97]⟩ : ByteArray), .string (⟨#[50]⟩ : ByteArray)]] rfl (by (try simp only [List.map_toArray, List.map_cons, List.map_nil]); first | done | rfl | (simp only [List.length_drop, List.length_take]; rfl)) ?_; (with_reducible refine (attr_Set.calls k _ _ y367 (⟨#[97]⟩ : ByteArray) (⟨#[50]⟩ : ByteArray) t370 t373 _ ?side1 ?side2 A1.out).mono ?_); (case side1 => repeat (first | exact (Kd.R_reads' HO369.out).2.2 | (with_reducible refine Kd.C_alloc ?_ _) | (with_reducible refine Kd.C_drewN ?_ _) | (with_reducible refine Kd.C_drew ?_))); (case side2 => exact (Kd.R_reads' HO369.out).2.1); rintro e w16 ⟨v371, rfl, ho0, hb⟩; refine ⟨_, rfl, ?_⟩; have n0_ := Aside0.mk (Kd.R_elder' (by (with_reducible repeat (first | apply Kd.R_alloc | apply Kd.R_drewN | apply Kd.R_drew)); exact HO369.out) (Kd.R_base ho0) hb); have n1_ := Aside0.mk (Kd.R_lower (Kd.R_new' ho0 (Kd.R_lt (by (with_reducible repeat (first | apply Kd.R_alloc | apply Kd.R_drewN | apply Kd.R_drew)); exact HO369.out))) (below_size (by repeat (first | (with_reducible first | exact HB.out | apply below_alloc | apply pw_below_drewN | apply below_drew1) | exact HB.out)))); have n2_ := Aside0.mk (below_step (by repeat (first | (with_reducible first | exact HB.out | apply below_alloc | apply pw_below_drewN | apply below_drew1) | exact HB.out)) hb); clear HO369; clear HB; have HO369 := n0_; have HO372 := n1_; have HB := n2_; clear n0_ n1_ n2_; (try clear hb); (try clear hb2); (try clear hk); (try clear hi); (try clear ho0); obtain ⟨Ao17, co17, eo17⟩ := Kd.R_slice HO372.out; subst eo17) | ((with_reducible refine gate_callee (f := 19) rfl ?_); refine goesL_ (some 16) rfl rfl Try.func19 (by kernel_rfl) rfl #[.slice Ao17 t370.length co17, .string (⟨#[98]⟩ : ByteArray)] rfl (by (try simp only [List.map_toArray, List.map_cons, List.map_nil]); first | done | rfl | (simp only [List.length_drop, List.length_take]; rfl)) ?_; (with_reducible refine (attr_Get.calls k _ _ t370 (⟨#[98]⟩ : ByteArray) t374 t375 _ ?side1 ?side2 A2.out).mono ?_); (case side1 => repeat (first | exact (Kd.R_reads' HO372.out).2.2 | (with_reducible refine Kd.C_alloc ?_ _) | (with_reducible refine Kd.C_drewN ?_ _) | (with_reducible refine Kd.C_drew ?_))); (case side2 => exact (Kd.R_reads' HO372.out).2.1); rintro e w18 ⟨rfl, hb⟩; refine ⟨_, rfl, ?_⟩; have n0_ := Aside0.mk (Kd.R_below (by (with_reducible repeat (first | apply Kd.R_alloc | apply Kd.R_drewN | apply Kd.R_drew)); exact HO369.out) hb); have n1_ := Aside0.mk (Kd.R_below (by (with_reducible repeat (first | apply Kd.R_alloc | apply Kd.R_drewN | apply Kd.R_drew)); exact HO372.out) hb); have n2_ := Aside0.mk (below_step (by repeat (first | (with_reducible first | exact HB.out | apply below_alloc | apply pw_below_drewN | apply below_drew1) | exact HB.out)) hb); clear HO369; clear HO372; clear HB; have HO369 := n0_; have HO372 := n1_; have HB := n2_; clear n0_ n1_ n2_; (try clear hb); (try clear hb2); (try clear hk); (try clear hi)) | ((with_reducible refine gate_callee (f := 21) rfl ?_); refine goesL_ (some 21) rfl rfl Try.func21 (by kernel_rfl) rfl #[.slice Ao17 t370.length co17] rfl (by (try simp only [List.map_toArray, List.map_cons, List.map_nil]); first | done | rfl | (simp only [List.length_drop, List.length_take]; rfl)) ?_; (with_reducible refine (attr_Encode.calls k _ _ t370 t376 t377 _ ?side1 ?side2 A3.out).mono ?_); (case side1 => repeat (first | exact (Kd.R_reads' HO372.out).2.2 | (with_reducible refine Kd.C_alloc ?_ _) | (with_reducible refine Kd.C_drewN ?_ _) | (with_reducible refine Kd.C_drew ?_))); (case side2 => exact (Kd.R_reads' HO372.out).2.1); rintro e w19 ⟨v378, rfl, ho0, hb⟩; refine ⟨_, rfl, ?_⟩; have n0_ := Aside0.mk (Kd.R_below (by (with_reducible repeat (first | apply Kd.R_alloc | apply Kd.R_drewN | apply Kd.R_drew)); exact HO369.out) hb); have n1_ := Aside0.mk (Kd.R_below (by (with_reducible repeat (first | apply Kd.R_alloc | apply Kd.R_drewN | apply Kd.R_drew)); exact HO372.out) hb); have n2_ := Aside0.mk (Kd.R_lower ho0 (below_size (by repeat (first | (with_reducible first | exact HB.out | apply below_alloc | apply pw_below_drewN | apply below_drew1) | exact HB.out)))); have n3_ := Aside0.mk (below_step (by repeat (first | (with_reducible first | exact HB.out | apply below_alloc | apply pw_below_drewN | apply below_drew1) | exact HB.out)) hb); clear HO369; clear HO372; clear HB; have HO369 := n0_; have HO372 := n1_; have HO379 := n2_; have HB := n3_; clear n0_ n1_ n2_ n3_; (try clear hb); (try clear hb2); (try clear hk); (try clear hi); (try clear ho0); have p380 : 0 ≤ (0 : Int) := (by omega); have q380 : 0 < (t370.length : Int) := of_decide_eq_true (by first | (with_reducible assumption) | assumption); obtain ⟨ad380, e380, hx380_0, hx380_1⟩ := at_T26 (Kd.R_reads' HO372.out).2.2 0 p380 q380; cases e380; have qi380 : (0 < t370.length) = True := eq_true (by omega); (try rw [show ((0 : Int)).toNat = 0 from rfl] at hx380_0); (try rw [show 0 * 2 = 0 from rfl] at hx380_0); (try rw [Addr.add_zero'] at hx380_0); (try rw [show ((0 : Int)).toNat = 0 from rfl] at hx380_1); (try rw [show 0 * 2 = 0 from rfl] at hx380_1); (try rw [Addr.add_zero'] at hx380_1); replace p380 := eq_true p380; replace q380 := eq_true q380; obtain ⟨Ao20, co20, eo20⟩ := Kd.R_slice HO379.out; subst eo20; have p381 : 0 ≤ (0 : Int) := (by omega); have q381 : 0 < (t376.length : Int) := of_decide_eq_true (by first | (with_reducible assumption) | assumption); obtain ⟨ad381, e381, hx381_0⟩ := Kd.at_int (Kd.R_reads' HO379.out).2.2 0 p381 q381; cases e381; have qi381 : (0 < t376.length) = True := eq_true (by omega); (try rw [show ((0 : Int)).toNat = 0 from rfl] at hx381_0); (try rw [Addr.add_zero'] at hx381_0); replace p381 := eq_true p381; replace q381 := eq_true q381))
                    go_ret
                    exact ⟨by first | rfl | (simp [errW_none, errW_some] <;> rfl) | (simp [*, errW_none, errW_some] <;> rfl), by repeat (first | (with_reducible first | exact HB.out | apply below_alloc | apply pw_below_drewN | apply below_drew1) | exact HB.out)⟩
                  · rw [if_neg c12] at H
                    exact absurd H (by simp)
                · rw [if_neg c11] at H
                  have c11b0 : ((t376.length : Int) == 256) = false := beq_eq_false_iff_ne.mpr c11
                  have c11b1 : ((t376.length : Int) != 256) = true := bne_iff_ne.mpr c11
                  obtain rfl := Option.some.inj H
                  go_enter Try.func13, Try.ntmps13
                  go_wp2_with (first | ((with_reducible refine gate_dst (N := 9) rfl ?_); (try (refine gate_guard (by rfl) ?_; dsimp only)); refine Kd.R_lit k26 _ 26 ?hg (N := 9) ?hd (xs := ([(⟨(⟨#[98]⟩ : ByteArray), (⟨#[49]⟩ : ByteArray)⟩ : S26)] : List (S26))) (inner := [.string (⟨#[98]⟩ : ByteArray), .string (⟨#[49]⟩ : ByteArray)]) (ok := fun _ => True) (okp := fun _ => True) ?hr ?hp (fun _ hk => hk) trivial (Below.refl _ _) (Nat.le_refl _) (by simp) ?_; (case hd => rfl); (case hg => rfl); (case hr => first | (go_simp; done) | (go_simp; rfl)); (case hp => exact (Reps.c2 (show Kd.M k26 _ _ _ (⟨(⟨#[98]⟩ : ByteArray), (⟨#[49]⟩ : ByteArray)⟩ : S26) [.string (⟨#[98]⟩ : ByteArray), .string (⟨#[49]⟩ : ByteArray)] from (k26_mkM _ _ _ (⟨(⟨#[98]⟩ : ByteArray), (⟨#[49]⟩ : ByteArray)⟩ : S26) )) (Reps.none _ _))); intro v368 w21 ho22 hb hg_ hnew_; clear hg_ hnew_; (first | rw [← Ny367.out] at ho22 | (simp only [Int.reduceToNat] at ho22; rw [← Ny367.out] at ho22)); have n0_ := Aside0.mk (Kd.R_lower ho22 (below_size (by repeat (first | (with_reducible first | exact HB.out | apply below_alloc | apply pw_below_drewN | apply below_drew1) | exact HB.out)))); have n1_ := Aside0.mk (below_step (by repeat (first | (with_reducible first | exact HB.out | apply below_alloc | apply pw_below_drewN | apply below_drew1) | exact HB.out)) hb); clear HB; have HO369 := n0_; have HB := n1_; clear n0_ n1_; clear hb ho22; obtain ⟨Ao23, co23, eo23⟩ := Kd.R_slice HO369.out; subst eo23) | ((with_reducible refine gate_callee (f := 14) rfl ?_); refine goesL_ (some 11) rfl rfl Try.func14 (by kernel_rfl) rfl #[.slice Ao23 y367.length co23, .agg #[.string (⟨#[97]⟩ : ByteArray), .string (⟨#[50]⟩ : ByteArray)]] rfl (by (try simp only [List.map_toArray, List.map_cons, List.map_nil]); first | done | rfl | (simp only [List.length_drop, List.length_take]; rfl)) ?_; (with_reducible refine (attr_Set.calls k _ _ y367 (⟨#[97]⟩ : ByteArray) (⟨#[50]⟩ : ByteArray) t370 t373 _ ?side1 ?side2 A1.out).mono ?_); (case side1 => repeat (first | exact (Kd.R_reads' HO369.out).2.2 | (with_reducible refine Kd.C_alloc ?_ _) | (with_reducible refine Kd.C_drewN ?_ _) | (with_reducible refine Kd.C_drew ?_))); (case side2 => exact (Kd.R_reads' HO369.out).2.1); rintro e w24 ⟨v371, rfl, ho0, hb⟩; refine ⟨_, rfl, ?_⟩; have n0_ := Aside0.mk (Kd.R_elder' (by (with_reducible repeat (first | apply Kd.R_alloc | apply Kd.R_drewN | apply Kd.R_drew)); exact HO369.out) (Kd.R_base ho0) hb); have n1_ := Aside0.mk (Kd.R_lower (Kd.R_new' ho0 (Kd.R_lt (by (with_reducible repeat (first | apply Kd.R_alloc | apply Kd.R_drewN | apply Kd.R_drew)); exact HO369.out))) (below_size (by repeat (first | (with_reducible first | exact HB.out | apply below_alloc | apply pw_below_drewN | apply below_drew1) | exact HB.out)))); have n2_ := Aside0.mk (below_step (by repeat (first | (with_reducible first | exact HB.out | apply below_alloc | apply pw_below_drewN | apply below_drew1) | exact HB.out)) hb); clear HO369; clear HB; have HO369 := n0_; have HO372 := n1_; have HB := n2_; clear n0_ n1_ n2_; (try clear hb); (try clear hb2); (try clear hk); (try clear hi); (try clear ho0); obtain ⟨Ao25, co25, eo25⟩ := Kd.R_slice HO372.out; subst eo25) | ((with_reducible refine gate_callee (f := 19) rfl ?_); refine goesL_ (some 16) rfl rfl Try.func19 (by kernel_rfl) rfl #[.slice Ao25 t370.length co25, .string (⟨#[98]⟩ : ByteArray)] rfl (by (try simp only [List.map_toArray, List.map_cons, List.map_nil]); first | done | rfl | (simp only [List.length_drop, List.length_take]; rfl)) ?_; (with_reducible refine (attr_Get.calls k _ _ t370 (⟨#[98]⟩ : ByteArray) t374 t375 _ ?side1 ?side2 A2.out).mono ?_); (case side1 => repeat (first | exact (Kd.R_reads' HO372.out).2.2 | (with_reducible refine Kd.C_alloc ?_ _) | (with_reducible refine Kd.C_drewN ?_ _) | (with_reducible refine Kd.C_drew ?_))); (case side2 => exact (Kd.R_reads' HO372.out).2.1); rintro e w26 ⟨rfl, hb⟩; refine ⟨_, rfl, ?_⟩; have n0_ := Aside0.mk (Kd.R_below (by (with_reducible repeat (first | apply Kd.R_alloc | apply Kd.R_drewN | apply Kd.R_drew)); exact HO369.out) hb); have n1_ := Aside0.mk (Kd.R_below (by (with_reducible repeat (first | apply Kd.R_alloc | apply Kd.R_drewN | apply Kd.R_drew)); exact HO372.out) hb); have n2_ := Aside0.mk (below_step (by repeat (first | (with_reducible first | exact HB.out | apply below_alloc | apply pw_below_drewN | apply below_drew1) | exact HB.out)) hb); clear HO369; clear HO372; clear HB; have HO369 := n0_; have HO372 := n1_; have HB := n2_; clear n0_ n1_ n2_; (try clear hb); (try clear hb2); (try clear hk); (try clear hi)) | ((with_reducible refine gate_callee (f := 21) rfl ?_); refine goesL_ (some 21) rfl rfl Try.func21 (by kernel_rfl) rfl #[.slice Ao25 t370.length co25] rfl (by (try simp only [List.map_toArray, List.map_cons, List.map_nil]); first | done | rfl | (simp only [List.length_drop, List.length_take]; rfl)) ?_; (with_reducible refine (attr_Encode.calls k _ _ t370 t376 t377 _ ?side1 ?side2 A3.out).mono ?_); (case side1 => repeat (first | exact (Kd.R_reads' HO372.out).2.2 | (with_reducible refine Kd.C_alloc ?_ _) | (with_reducible refine Kd.C_drewN ?_ _) | (with_reducible refine Kd.C_drew ?_))); (case side2 => exact (Kd.R_reads' HO372.out).2.1); rintro e w27 ⟨v378, rfl, ho0, hb⟩; refine ⟨_, rfl, ?_⟩; have n0_ := Aside0.mk (Kd.R_below (by (with_reducible repeat (first | apply Kd.R_alloc | apply Kd.R_drewN | apply Kd.R_drew)); exact HO369.out) hb); have n1_ := Aside0.mk (Kd.R_below (by (with_reducible repeat (first | apply Kd.R_alloc | apply Kd.R_drewN | apply Kd.R_drew)); exact HO372.out) hb); have n2_ := Aside0.mk (Kd.R_lower ho0 (below_size (by repeat (first | (with_reducible first | exact HB.out | apply below_alloc | apply pw_below_drewN | apply below_drew1) | exact HB.out)))); have n3_ := Aside0.mk (below_step (by repeat (first | (with_reducible first | exact HB.out | apply below_alloc | apply pw_below_drewN | apply below_drew1) | exact HB.out)) hb); clear HO369; clear HO372; clear HB; have HO369 := n0_; have HO372 := n1_; have HO379 := n2_; have HB := n3_; clear n0_ n1_ n2_ n3_; (try clear hb); (try clear hb2); (try clear hk); (try clear hi); (try clear ho0); have p380 : 0 ≤ (0 : Int) := (by omega); have q380 : 0 < (t370.length : Int) := of_decide_eq_true (by first | (with_reducible assumption) | assumption); obtain ⟨ad380, e380, hx380_0, hx380_1⟩ := at_T26 (Kd.R_reads' HO372.out).2.2 0 p380 q380; cases e380; have qi380 : (0 < t370.length) = True := eq_true (by omega); (try rw [show ((0 : Int)).toNat = 0 from rfl] at hx380_0); (try rw [show 0 * 2 = 0 from rfl] at hx380_0); (try rw [Addr.add_zero'] at hx380_0); (try rw [show ((0 : Int)).toNat = 0 from rfl] at hx380_1); (try rw [show 0 * 2 = 0 from rfl] at hx380_1); (try rw [Addr.add_zero'] at hx380_1); replace p380 := eq_true p380; replace q380 := eq_true q380; obtain ⟨Ao28, co28, eo28⟩ := Kd.R_slice HO379.out; subst eo28))
                  go_ret
                  exact ⟨by first | rfl | (simp [errW_none, errW_some] <;> rfl) | (simp [*, errW_none, errW_some] <;> rfl), by repeat (first | (with_reducible first | exact HB.out | apply below_alloc | apply pw_below_drewN | apply below_drew1) | exact HB.out)⟩
              · rw [if_neg c10] at H
                have c10b0 : (t377 == 0) = false := beq_eq_false_iff_ne.mpr c10
                have c10b1 : (t377 != 0) = true := bne_iff_ne.mpr c10
                obtain rfl := Option.some.inj H
                go_enter Try.func13, Try.ntmps13
                go_wp2_with (first | ((with_reducible refine gate_dst (N := 9) rfl ?_); (try (refine gate_guard (by rfl) ?_; dsimp only)); refine Kd.R_lit k26 _ 26 ?hg (N := 9) ?hd (xs := ([(⟨(⟨#[98]⟩ : ByteArray), (⟨#[49]⟩ : ByteArray)⟩ : S26)] : List (S26))) (inner := [.string (⟨#[98]⟩ : ByteArray), .string (⟨#[49]⟩ : ByteArray)]) (ok := fun _ => True) (okp := fun _ => True) ?hr ?hp (fun _ hk => hk) trivial (Below.refl _ _) (Nat.le_refl _) (by simp) ?_; (case hd => rfl); (case hg => rfl); (case hr => first | (go_simp; done) | (go_simp; rfl)); (case hp => exact (Reps.c2 (show Kd.M k26 _ _ _ (⟨(⟨#[98]⟩ : ByteArray), (⟨#[49]⟩ : ByteArray)⟩ : S26) [.string (⟨#[98]⟩ : ByteArray), .string (⟨#[49]⟩ : ByteArray)] from (k26_mkM _ _ _ (⟨(⟨#[98]⟩ : ByteArray), (⟨#[49]⟩ : ByteArray)⟩ : S26) )) (Reps.none _ _))); intro v368 w29 ho30 hb hg_ hnew_; clear hg_ hnew_; (first | rw [← Ny367.out] at ho30 | (simp only [Int.reduceToNat] at ho30; rw [← Ny367.out] at ho30)); have n0_ := Aside0.mk (Kd.R_lower ho30 (below_size (by repeat (first | (with_reducible first | exact HB.out | apply below_alloc | apply pw_below_drewN | apply below_drew1) | exact HB.out)))); have n1_ := Aside0.mk (below_step (by repeat (first | (with_reducible first | exact HB.out | apply below_alloc | apply pw_below_drewN | apply below_drew1) | exact HB.out)) hb); clear HB; have HO369 := n0_; have HB := n1_; clear n0_ n1_; clear hb ho30; obtain ⟨Ao31, co31, eo31⟩ := Kd.R_slice HO369.out; subst eo31) | ((with_reducible refine gate_callee (f := 14) rfl ?_); refine goesL_ (some 11) rfl rfl Try.func14 (by kernel_rfl) rfl #[.slice Ao31 y367.length co31, .agg #[.string (⟨#[97]⟩ : ByteArray), .string (⟨#[50]⟩ : ByteArray)]] rfl (by (try simp only [List.map_toArray, List.map_cons, List.map_nil]); first | done | rfl | (simp only [List.length_drop, List.length_take]; rfl)) ?_; (with_reducible refine (attr_Set.calls k _ _ y367 (⟨#[97]⟩ : ByteArray) (⟨#[50]⟩ : ByteArray) t370 t373 _ ?side1 ?side2 A1.out).mono ?_); (case side1 => repeat (first | exact (Kd.R_reads' HO369.out).2.2 | (with_reducible refine Kd.C_alloc ?_ _) | (with_reducible refine Kd.C_drewN ?_ _) | (with_reducible refine Kd.C_drew ?_))); (case side2 => exact (Kd.R_reads' HO369.out).2.1); rintro e w32 ⟨v371, rfl, ho0, hb⟩; refine ⟨_, rfl, ?_⟩; have n0_ := Aside0.mk (Kd.R_elder' (by (with_reducible repeat (first | apply Kd.R_alloc | apply Kd.R_drewN | apply Kd.R_drew)); exact HO369.out) (Kd.R_base ho0) hb); have n1_ := Aside0.mk (Kd.R_lower (Kd.R_new' ho0 (Kd.R_lt (by (with_reducible repeat (first | apply Kd.R_alloc | apply Kd.R_drewN | apply Kd.R_drew)); exact HO369.out))) (below_size (by repeat (first | (with_reducible first | exact HB.out | apply below_alloc | apply pw_below_drewN | apply below_drew1) | exact HB.out)))); have n2_ := Aside0.mk (below_step (by repeat (first | (with_reducible first | exact HB.out | apply below_alloc | apply pw_below_drewN | apply below_drew1) | exact HB.out)) hb); clear HO369; clear HB; have HO369 := n0_; have HO372 := n1_; have HB := n2_; clear n0_ n1_ n2_; (try clear hb); (try clear hb2); (try clear hk); (try clear hi); (try clear ho0); obtain ⟨Ao33, co33, eo33⟩ := Kd.R_slice HO372.out; subst eo33) | ((with_reducible refine gate_callee (f := 19) rfl ?_); refine goesL_ (some 16) rfl rfl Try.func19 (by kernel_rfl) rfl #[.slice Ao33 t370.length co33, .string (⟨#[98]⟩ : ByteArray)] rfl (by (try simp only [List.map_toArray, List.map_cons, List.map_nil]); first | done | rfl | (simp only [List.length_drop, List.length_take]; rfl)) ?_; (with_reducible refine (attr_Get.calls k _ _ t370 (⟨#[98]⟩ : ByteArray) t374 t375 _ ?side1 ?side2 A2.out).mono ?_); (case side1 => repeat (first | exact (Kd.R_reads' HO372.out).2.2 | (with_reducible refine Kd.C_alloc ?_ _) | (with_reducible refine Kd.C_drewN ?_ _) | (with_reducible refine Kd.C_drew ?_))); (case side2 => exact (Kd.R_reads' HO372.out).2.1); rintro e w34 ⟨rfl, hb⟩; refine ⟨_, rfl, ?_⟩; have n0_ := Aside0.mk (Kd.R_below (by (with_reducible repeat (first | apply Kd.R_alloc | apply Kd.R_drewN | apply Kd.R_drew)); exact HO369.out) hb); have n1_ := Aside0.mk (Kd.R_below (by (with_reducible repeat (first | apply Kd.R_alloc | apply Kd.R_drewN | apply Kd.R_drew)); exact HO372.out) hb); have n2_ := Aside0.mk (below_step (by repeat (first | (with_reducible first | exact HB.out | apply below_alloc | apply pw_below_drewN | apply below_drew1) | exact HB.out)) hb); clear HO369; clear HO372; clear HB; have HO369 := n0_; have HO372 := n1_; have HB := n2_; clear n0_ n1_ n2_; (try clear hb); (try clear hb2); (try clear hk); (try clear hi)) | ((with_reducible refine gate_callee (f := 21) rfl ?_); refine goesL_ (some 21) rfl rfl Try.func21 (by kernel_rfl) rfl #[.slice Ao33 t370.length co33] rfl (by (try simp only [List.map_toArray, List.map_cons, List.map_nil]); first | done | rfl | (simp only [List.length_drop, List.length_take]; rfl)) ?_; (with_reducible refine (attr_Encode.calls k _ _ t370 t376 t377 _ ?side1 ?side2 A3.out).mono ?_); (case side1 => repeat (first | exact (Kd.R_reads' HO372.out).2.2 | (with_reducible refine Kd.C_alloc ?_ _) | (with_reducible refine Kd.C_drewN ?_ _) | (with_reducible refine Kd.C_drew ?_))); (case side2 => exact (Kd.R_reads' HO372.out).2.1); rintro e w35 ⟨v378, rfl, ho0, hb⟩; refine ⟨_, rfl, ?_⟩; have n0_ := Aside0.mk (Kd.R_below (by (with_reducible repeat (first | apply Kd.R_alloc | apply Kd.R_drewN | apply Kd.R_drew)); exact HO369.out) hb); have n1_ := Aside0.mk (Kd.R_below (by (with_reducible repeat (first | apply Kd.R_alloc | apply Kd.R_drewN | apply Kd.R_drew)); exact HO372.out) hb); have n2_ := Aside0.mk (Kd.R_lower ho0 (below_size (by repeat (first | (with_reducible first | exact HB.out | apply below_alloc | apply pw_below_drewN | apply below_drew1) | exact HB.out)))); have n3_ := Aside0.mk (below_step (by repeat (first | (with_reducible first | exact HB.out | apply below_alloc | apply pw_below_drewN | apply below_drew1) | exact HB.out)) hb); clear HO369; clear HO372; clear HB; have HO369 := n0_; have HO372 := n1_; have HO379 := n2_; have HB := n3_; clear n0_ n1_ n2_ n3_; (try clear hb); (try clear hb2); (try clear hk); (try clear hi); (try clear ho0); have p380 : 0 ≤ (0 : Int) := (by omega); have q380 : 0 < (t370.length : Int) := of_decide_eq_true (by first | (with_reducible assumption) | assumption); obtain ⟨ad380, e380, hx380_0, hx380_1⟩ := at_T26 (Kd.R_reads' HO372.out).2.2 0 p380 q380; cases e380; have qi380 : (0 < t370.length) = True := eq_true (by omega); (try rw [show ((0 : Int)).toNat = 0 from rfl] at hx380_0); (try rw [show 0 * 2 = 0 from rfl] at hx380_0); (try rw [Addr.add_zero'] at hx380_0); (try rw [show ((0 : Int)).toNat = 0 from rfl] at hx380_1); (try rw [show 0 * 2 = 0 from rfl] at hx380_1); (try rw [Addr.add_zero'] at hx380_1); replace p380 := eq_true p380; replace q380 := eq_true q380))
                go_ret
                exact ⟨by first | rfl | (simp [errW_none, errW_some] <;> rfl) | (simp [*, errW_none, errW_some] <;> rfl), by repeat (first | (with_reducible first | exact HB.out | apply below_alloc | apply pw_below_drewN | apply below_drew1) | exact HB.out)⟩
            · rw [if_neg c9] at H
              have c9b0 : (t374.toList == ([49] : List UInt8)) = false := beq_eq_false_iff_ne.mpr c9
              have c9b1 : (t374.toList != ([49] : List UInt8)) = true := bne_iff_ne.mpr c9
              obtain rfl := Option.some.inj H
              go_enter Try.func13, Try.ntmps13
              go_wp2_with (first | ((with_reducible refine gate_dst (N := 9) rfl ?_); (try (refine gate_guard (by rfl) ?_; dsimp only)); refine Kd.R_lit k26 _ 26 ?hg (N := 9) ?hd (xs := ([(⟨(⟨#[98]⟩ : ByteArray), (⟨#[49]⟩ : ByteArray)⟩ : S26)] : List (S26))) (inner := [.string (⟨#[98]⟩ : ByteArray), .string (⟨#[49]⟩ : ByteArray)]) (ok := fun _ => True) (okp := fun _ => True) ?hr ?hp (fun _ hk => hk) trivial (Below.refl _ _) (Nat.le_refl _) (by simp) ?_; (case hd => rfl); (case hg => rfl); (case hr => first | (go_simp; done) | (go_simp; rfl)); (case hp => exact (Reps.c2 (show Kd.M k26 _ _ _ (⟨(⟨#[98]⟩ : ByteArray), (⟨#[49]⟩ : ByteArray)⟩ : S26) [.string (⟨#[98]⟩ : ByteArray), .string (⟨#[49]⟩ : ByteArray)] from (k26_mkM _ _ _ (⟨(⟨#[98]⟩ : ByteArray), (⟨#[49]⟩ : ByteArray)⟩ : S26) )) (Reps.none _ _))); intro v368 w36 ho37 hb hg_ hnew_; clear hg_ hnew_; (first | rw [← Ny367.out] at ho37 | (simp only [Int.reduceToNat] at ho37; rw [← Ny367.out] at ho37)); have n0_ := Aside0.mk (Kd.R_lower ho37 (below_size (by repeat (first | (with_reducible first | exact HB.out | apply below_alloc | apply pw_below_drewN | apply below_drew1) | exact HB.out)))); have n1_ := Aside0.mk (below_step (by repeat (first | (with_reducible first | exact HB.out | apply below_alloc | apply pw_below_drewN | apply below_drew1) | exact HB.out)) hb); clear HB; have HO369 := n0_; have HB := n1_; clear n0_ n1_; clear hb ho37; obtain ⟨Ao38, co38, eo38⟩ := Kd.R_slice HO369.out; subst eo38) | ((with_reducible refine gate_callee (f := 14) rfl ?_); refine goesL_ (some 11) rfl rfl Try.func14 (by kernel_rfl) rfl #[.slice Ao38 y367.length co38, .agg #[.string (⟨#[97]⟩ : ByteArray), .string (⟨#[50]⟩ : ByteArray)]] rfl (by (try simp only [List.map_toArray, List.map_cons, List.map_nil]); first | done | rfl | (simp only [List.length_drop, List.length_take]; rfl)) ?_; (with_reducible refine (attr_Set.calls k _ _ y367 (⟨#[97]⟩ : ByteArray) (⟨#[50]⟩ : ByteArray) t370 t373 _ ?side1 ?side2 A1.out).mono ?_); (case side1 => repeat (first | exact (Kd.R_reads' HO369.out).2.2 | (with_reducible refine Kd.C_alloc ?_ _) | (with_reducible refine Kd.C_drewN ?_ _) | (with_reducible refine Kd.C_drew ?_))); (case side2 => exact (Kd.R_reads' HO369.out).2.1); rintro e w39 ⟨v371, rfl, ho0, hb⟩; refine ⟨_, rfl, ?_⟩; have n0_ := Aside0.mk (Kd.R_elder' (by (with_reducible repeat (first | apply Kd.R_alloc | apply Kd.R_drewN | apply Kd.R_drew)); exact HO369.out) (Kd.R_base ho0) hb); have n1_ := Aside0.mk (Kd.R_lower (Kd.R_new' ho0 (Kd.R_lt (by (with_reducible repeat (first | apply Kd.R_alloc | apply Kd.R_drewN | apply Kd.R_drew)); exact HO369.out))) (below_size (by repeat (first | (with_reducible first | exact HB.out | apply below_alloc | apply pw_below_drewN | apply below_drew1) | exact HB.out)))); have n2_ := Aside0.mk (below_step (by repeat (first | (with_reducible first | exact HB.out | apply below_alloc | apply pw_below_drewN | apply below_drew1) | exact HB.out)) hb); clear HO369; clear HB; have HO369 := n0_; have HO372 := n1_; have HB := n2_; clear n0_ n1_ n2_; (try clear hb); (try clear hb2); (try clear hk); (try clear hi); (try clear ho0); obtain ⟨Ao40, co40, eo40⟩ := Kd.R_slice HO372.out; subst eo40) | ((with_reducible refine gate_callee (f := 19) rfl ?_); refine goesL_ (some 16) rfl rfl Try.func19 (by kernel_rfl) rfl #[.slice Ao40 t370.length co40, .string (⟨#[98]⟩ : ByteArray)] rfl (by (try simp only [List.map_toArray, List.map_cons, List.map_nil]); first | done | rfl | (simp only [List.length_drop, List.length_take]; rfl)) ?_; (with_reducible refine (attr_Get.calls k _ _ t370 (⟨#[98]⟩ : ByteArray) t374 t375 _ ?side1 ?side2 A2.out).mono ?_); (case side1 => repeat (first | exact (Kd.R_reads' HO372.out).2.2 | (with_reducible refine Kd.C_alloc ?_ _) | (with_reducible refine Kd.C_drewN ?_ _) | (with_reducible refine Kd.C_drew ?_))); (case side2 => exact (Kd.R_reads' HO372.out).2.1); rintro e w41 ⟨rfl, hb⟩; refine ⟨_, rfl, ?_⟩; have n0_ := Aside0.mk (Kd.R_below (by (with_reducible repeat (first | apply Kd.R_alloc | apply Kd.R_drewN | apply Kd.R_drew)); exact HO369.out) hb); have n1_ := Aside0.mk (Kd.R_below (by (with_reducible repeat (first | apply Kd.R_alloc | apply Kd.R_drewN | apply Kd.R_drew)); exact HO372.out) hb); have n2_ := Aside0.mk (below_step (by repeat (first | (with_reducible first | exact HB.out | apply below_alloc | apply pw_below_drewN | apply below_drew1) | exact HB.out)) hb); clear HO369; clear HO372; clear HB; have HO369 := n0_; have HO372 := n1_; have HB := n2_; clear n0_ n1_ n2_; (try clear hb); (try clear hb2); (try clear hk); (try clear hi)) | ((with_reducible refine gate_callee (f := 21) rfl ?_); refine goesL_ (some 21) rfl rfl Try.func21 (by kernel_rfl) rfl #[.slice Ao40 t370.length co40] rfl (by (try simp only [List.map_toArray, List.map_cons, List.map_nil]); first | done | rfl | (simp only [List.length_drop, List.length_take]; rfl)) ?_; (with_reducible refine (attr_Encode.calls k _ _ t370 t376 t377 _ ?side1 ?side2 A3.out).mono ?_); (case side1 => repeat (first | exact (Kd.R_reads' HO372.out).2.2 | (with_reducible refine Kd.C_alloc ?_ _) | (with_reducible refine Kd.C_drewN ?_ _) | (with_reducible refine Kd.C_drew ?_))); (case side2 => exact (Kd.R_reads' HO372.out).2.1); rintro e w42 ⟨v378, rfl, ho0, hb⟩; refine ⟨_, rfl, ?_⟩; have n0_ := Aside0.mk (Kd.R_below (by (with_reducible repeat (first | apply Kd.R_alloc | apply Kd.R_drewN | apply Kd.R_drew)); exact HO369.out) hb); have n1_ := Aside0.mk (Kd.R_below (by (with_reducible repeat (first | apply Kd.R_alloc | apply Kd.R_drewN | apply Kd.R_drew)); exact HO372.out) hb); have n2_ := Aside0.mk (Kd.R_lower ho0 (below_size (by repeat (first | (with_reducible first | exact HB.out | apply below_alloc | apply pw_below_drewN | apply below_drew1) | exact HB.out)))); have n3_ := Aside0.mk (below_step (by repeat (first | (with_reducible first | exact HB.out | apply below_alloc | apply pw_below_drewN | apply below_drew1) | exact HB.out)) hb); clear HO369; clear HO372; clear HB; have HO369 := n0_; have HO372 := n1_; have HO379 := n2_; have HB := n3_; clear n0_ n1_ n2_ n3_; (try clear hb); (try clear hb2); (try clear hk); (try clear hi); (try clear ho0); have p380 : 0 ≤ (0 : Int) := (by omega); have q380 : 0 < (t370.length : Int) := of_decide_eq_true (by first | (with_reducible assumption) | assumption); obtain ⟨ad380, e380, hx380_0, hx380_1⟩ := at_T26 (Kd.R_reads' HO372.out).2.2 0 p380 q380; cases e380; have qi380 : (0 < t370.length) = True := eq_true (by omega); (try rw [show ((0 : Int)).toNat = 0 from rfl] at hx380_0); (try rw [show 0 * 2 = 0 from rfl] at hx380_0); (try rw [Addr.add_zero'] at hx380_0); (try rw [show ((0 : Int)).toNat = 0 from rfl] at hx380_1); (try rw [show 0 * 2 = 0 from rfl] at hx380_1); (try rw [Addr.add_zero'] at hx380_1); replace p380 := eq_true p380; replace q380 := eq_true q380))
              go_ret
              exact ⟨by first | rfl | (simp [errW_none, errW_some] <;> rfl) | (simp [*, errW_none, errW_some] <;> rfl), by repeat (first | (with_reducible first | exact HB.out | apply below_alloc | apply pw_below_drewN | apply below_drew1) | exact HB.out)⟩
          · rw [if_neg c8] at H
            have c8b0 : (t375 == 0) = false := beq_eq_false_iff_ne.mpr c8
            have c8b1 : (t375 != 0) = true := bne_iff_ne.mpr c8
            obtain rfl := Option.some.inj H
            go_enter Try.func13, Try.ntmps13
            go_wp2_with (first | ((with_reducible refine gate_dst (N := 9) rfl ?_); (try (refine gate_guard (by rfl) ?_; dsimp only)); refine Kd.R_lit k26 _ 26 ?hg (N := 9) ?hd (xs := ([(⟨(⟨#[98]⟩ : ByteArray), (⟨#[49]⟩ : ByteArray)⟩ : S26)] : List (S26))) (inner := [.string (⟨#[98]⟩ : ByteArray), .string (⟨#[49]⟩ : ByteArray)]) (ok := fun _ => True) (okp := fun _ => True) ?hr ?hp (fun _ hk => hk) trivial (Below.refl _ _) (Nat.le_refl _) (by simp) ?_; (case hd => rfl); (case hg => rfl); (case hr => first | (go_simp; done) | (go_simp; rfl)); (case hp => exact (Reps.c2 (show Kd.M k26 _ _ _ (⟨(⟨#[98]⟩ : ByteArray), (⟨#[49]⟩ : ByteArray)⟩ : S26) [.string (⟨#[98]⟩ : ByteArray), .string (⟨#[49]⟩ : ByteArray)] from (k26_mkM _ _ _ (⟨(⟨#[98]⟩ : ByteArray), (⟨#[49]⟩ : ByteArray)⟩ : S26) )) (Reps.none _ _))); intro v368 w43 ho44 hb hg_ hnew_; clear hg_ hnew_; (first | rw [← Ny367.out] at ho44 | (simp only [Int.reduceToNat] at ho44; rw [← Ny367.out] at ho44)); have n0_ := Aside0.mk (Kd.R_lower ho44 (below_size (by repeat (first | (with_reducible first | exact HB.out | apply below_alloc | apply pw_below_drewN | apply below_drew1) | exact HB.out)))); have n1_ := Aside0.mk (below_step (by repeat (first | (with_reducible first | exact HB.out | apply below_alloc | apply pw_below_drewN | apply below_drew1) | exact HB.out)) hb); clear HB; have HO369 := n0_; have HB := n1_; clear n0_ n1_; clear hb ho44; obtain ⟨Ao45, co45, eo45⟩ := Kd.R_slice HO369.out; subst eo45) | ((with_reducible refine gate_callee (f := 14) rfl ?_); refine goesL_ (some 11) rfl rfl Try.func14 (by kernel_rfl) rfl #[.slice Ao45 y367.length co45, .agg #[.string (⟨#[97]⟩ : ByteArray), .string (⟨#[50]⟩ : ByteArray)]] rfl (by (try simp only [List.map_toArray, List.map_cons, List.map_nil]); first | done | rfl | (simp only [List.length_drop, List.length_take]; rfl)) ?_; (with_reducible refine (attr_Set.calls k _ _ y367 (⟨#[97]⟩ : ByteArray) (⟨#[50]⟩ : ByteArray) t370 t373 _ ?side1 ?side2 A1.out).mono ?_); (case side1 => repeat (first | exact (Kd.R_reads' HO369.out).2.2 | (with_reducible refine Kd.C_alloc ?_ _) | (with_reducible refine Kd.C_drewN ?_ _) | (with_reducible refine Kd.C_drew ?_))); (case side2 => exact (Kd.R_reads' HO369.out).2.1); rintro e w46 ⟨v371, rfl, ho0, hb⟩; refine ⟨_, rfl, ?_⟩; have n0_ := Aside0.mk (Kd.R_elder' (by (with_reducible repeat (first | apply Kd.R_alloc | apply Kd.R_drewN | apply Kd.R_drew)); exact HO369.out) (Kd.R_base ho0) hb); have n1_ := Aside0.mk (Kd.R_lower (Kd.R_new' ho0 (Kd.R_lt (by (with_reducible repeat (first | apply Kd.R_alloc | apply Kd.R_drewN | apply Kd.R_drew)); exact HO369.out))) (below_size (by repeat (first | (with_reducible first | exact HB.out | apply below_alloc | apply pw_below_drewN | apply below_drew1) | exact HB.out)))); have n2_ := Aside0.mk (below_step (by repeat (first | (with_reducible first | exact HB.out | apply below_alloc | apply pw_below_drewN | apply below_drew1) | exact HB.out)) hb); clear HO369; clear HB; have HO369 := n0_; have HO372 := n1_; have HB := n2_; clear n0_ n1_ n2_; (try clear hb); (try clear hb2); (try clear hk); (try clear hi); (try clear ho0); obtain ⟨Ao47, co47, eo47⟩ := Kd.R_slice HO372.out; subst eo47) | ((with_reducible refine gate_callee (f := 19) rfl ?_); refine goesL_ (some 16) rfl rfl Try.func19 (by kernel_rfl) rfl #[.slice Ao47 t370.length co47, .string (⟨#[98]⟩ : ByteArray)] rfl (by (try simp only [List.map_toArray, List.map_cons, List.map_nil]); first | done | rfl | (simp only [List.length_drop, List.length_take]; rfl)) ?_; (with_reducible refine (attr_Get.calls k _ _ t370 (⟨#[98]⟩ : ByteArray) t374 t375 _ ?side1 ?side2 A2.out).mono ?_); (case side1 => repeat (first | exact (Kd.R_reads' HO372.out).2.2 | (with_reducible refine Kd.C_alloc ?_ _) | (with_reducible refine Kd.C_drewN ?_ _) | (with_reducible refine Kd.C_drew ?_))); (case side2 => exact (Kd.R_reads' HO372.out).2.1); rintro e w48 ⟨rfl, hb⟩; refine ⟨_, rfl, ?_⟩; have n0_ := Aside0.mk (Kd.R_below (by (with_reducible repeat (first | apply Kd.R_alloc | apply Kd.R_drewN | apply Kd.R_drew)); exact HO369.out) hb); have n1_ := Aside0.mk (Kd.R_below (by (with_reducible repeat (first | apply Kd.R_alloc | apply Kd.R_drewN | apply Kd.R_drew)); exact HO372.out) hb); have n2_ := Aside0.mk (below_step (by repeat (first | (with_reducible first | exact HB.out | apply below_alloc | apply pw_below_drewN | apply below_drew1) | exact HB.out)) hb); clear HO369; clear HO372; clear HB; have HO369 := n0_; have HO372 := n1_; have HB := n2_; clear n0_ n1_ n2_; (try clear hb); (try clear hb2); (try clear hk); (try clear hi)) | ((with_reducible refine gate_callee (f := 21) rfl ?_); refine goesL_ (some 21) rfl rfl Try.func21 (by kernel_rfl) rfl #[.slice Ao47 t370.length co47] rfl (by (try simp only [List.map_toArray, List.map_cons, List.map_nil]); first | done | rfl | (simp only [List.length_drop, List.length_take]; rfl)) ?_; (with_reducible refine (attr_Encode.calls k _ _ t370 t376 t377 _ ?side1 ?side2 A3.out).mono ?_); (case side1 => repeat (first | exact (Kd.R_reads' HO372.out).2.2 | (with_reducible refine Kd.C_alloc ?_ _) | (with_reducible refine Kd.C_drewN ?_ _) | (with_reducible refine Kd.C_drew ?_))); (case side2 => exact (Kd.R_reads' HO372.out).2.1); rintro e w49 ⟨v378, rfl, ho0, hb⟩; refine ⟨_, rfl, ?_⟩; have n0_ := Aside0.mk (Kd.R_below (by (with_reducible repeat (first | apply Kd.R_alloc | apply Kd.R_drewN | apply Kd.R_drew)); exact HO369.out) hb); have n1_ := Aside0.mk (Kd.R_below (by (with_reducible repeat (first | apply Kd.R_alloc | apply Kd.R_drewN | apply Kd.R_drew)); exact HO372.out) hb); have n2_ := Aside0.mk (Kd.R_lower ho0 (below_size (by repeat (first | (with_reducible first | exact HB.out | apply below_alloc | apply pw_below_drewN | apply below_drew1) | exact HB.out)))); have n3_ := Aside0.mk (below_step (by repeat (first | (with_reducible first | exact HB.out | apply below_alloc | apply pw_below_drewN | apply below_drew1) | exact HB.out)) hb); clear HO369; clear HO372; clear HB; have HO369 := n0_; have HO372 := n1_; have HO379 := n2_; have HB := n3_; clear n0_ n1_ n2_ n3_; (try clear hb); (try clear hb2); (try clear hk); (try clear hi); (try clear ho0); have p380 : 0 ≤ (0 : Int) := (by omega); have q380 : 0 < (t370.length : Int) := of_decide_eq_true (by first | (with_reducible assumption) | assumption); obtain ⟨ad380, e380, hx380_0, hx380_1⟩ := at_T26 (Kd.R_reads' HO372.out).2.2 0 p380 q380; cases e380; have qi380 : (0 < t370.length) = True := eq_true (by omega); (try rw [show ((0 : Int)).toNat = 0 from rfl] at hx380_0); (try rw [show 0 * 2 = 0 from rfl] at hx380_0); (try rw [Addr.add_zero'] at hx380_0); (try rw [show ((0 : Int)).toNat = 0 from rfl] at hx380_1); (try rw [show 0 * 2 = 0 from rfl] at hx380_1); (try rw [Addr.add_zero'] at hx380_1); replace p380 := eq_true p380; replace q380 := eq_true q380))
            go_ret
            exact ⟨by first | rfl | (simp [errW_none, errW_some] <;> rfl) | (simp [*, errW_none, errW_some] <;> rfl), by repeat (first | (with_reducible first | exact HB.out | apply below_alloc | apply pw_below_drewN | apply below_drew1) | exact HB.out)⟩
        · rw [if_neg c7] at H
          have c7b0 : (((rd_T26 t370 0).f0).toList == ([97] : List UInt8)) = false := beq_eq_false_iff_ne.mpr c7
          have c7b1 : (((rd_T26 t370 0).f0).toList != ([97] : List UInt8)) = true := bne_iff_ne.mpr c7
          obtain rfl := Option.some.inj H
          go_enter Try.func13, Try.ntmps13
          go_wp2_with (first | ((with_reducible refine gate_dst (N := 9) rfl ?_); (try (refine gate_guard (by rfl) ?_; dsimp only)); refine Kd.R_lit k26 _ 26 ?hg (N := 9) ?hd (xs := ([(⟨(⟨#[98]⟩ : ByteArray), (⟨#[49]⟩ : ByteArray)⟩ : S26)] : List (S26))) (inner := [.string (⟨#[98]⟩ : ByteArray), .string (⟨#[49]⟩ : ByteArray)]) (ok := fun _ => True) (okp := fun _ => True) ?hr ?hp (fun _ hk => hk) trivial (Below.refl _ _) (Nat.le_refl _) (by simp) ?_; (case hd => rfl); (case hg => rfl); (case hr => first | (go_simp; done) | (go_simp; rfl)); (case hp => exact (Reps.c2 (show Kd.M k26 _ _ _ (⟨(⟨#[98]⟩ : ByteArray), (⟨#[49]⟩ : ByteArray)⟩ : S26) [.string (⟨#[98]⟩ : ByteArray), .string (⟨#[49]⟩ : ByteArray)] from (k26_mkM _ _ _ (⟨(⟨#[98]⟩ : ByteArray), (⟨#[49]⟩ : ByteArray)⟩ : S26) )) (Reps.none _ _))); intro v368 w50 ho51 hb hg_ hnew_; clear hg_ hnew_; (first | rw [← Ny367.out] at ho51 | (simp only [Int.reduceToNat] at ho51; rw [← Ny367.out] at ho51)); have n0_ := Aside0.mk (Kd.R_lower ho51 (below_size (by repeat (first | (with_reducible first | exact HB.out | apply below_alloc | apply pw_below_drewN | apply below_drew1) | exact HB.out)))); have n1_ := Aside0.mk (below_step (by repeat (first | (with_reducible first | exact HB.out | apply below_alloc | apply pw_below_drewN | apply below_drew1) | exact HB.out)) hb); clear HB; have HO369 := n0_; have HB := n1_; clear n0_ n1_; clear hb ho51; obtain ⟨Ao52, co52, eo52⟩ := Kd.R_slice HO369.out; subst eo52) | ((with_reducible refine gate_callee (f := 14) rfl ?_); refine goesL_ (some 11) rfl rfl Try.func14 (by kernel_rfl) rfl #[.slice Ao52 y367.length co52, .agg #[.string (⟨#[97]⟩ : ByteArray), .string (⟨#[50]⟩ : ByteArray)]] rfl (by (try simp only [List.map_toArray, List.map_cons, List.map_nil]); first | done | rfl | (simp only [List.length_drop, List.length_take]; rfl)) ?_; (with_reducible refine (attr_Set.calls k _ _ y367 (⟨#[97]⟩ : ByteArray) (⟨#[50]⟩ : ByteArray) t370 t373 _ ?side1 ?side2 A1.out).mono ?_); (case side1 => repeat (first | exact (Kd.R_reads' HO369.out).2.2 | (with_reducible refine Kd.C_alloc ?_ _) | (with_reducible refine Kd.C_drewN ?_ _) | (with_reducible refine Kd.C_drew ?_))); (case side2 => exact (Kd.R_reads' HO369.out).2.1); rintro e w53 ⟨v371, rfl, ho0, hb⟩; refine ⟨_, rfl, ?_⟩; have n0_ := Aside0.mk (Kd.R_elder' (by (with_reducible repeat (first | apply Kd.R_alloc | apply Kd.R_drewN | apply Kd.R_drew)); exact HO369.out) (Kd.R_base ho0) hb); have n1_ := Aside0.mk (Kd.R_lower (Kd.R_new' ho0 (Kd.R_lt (by (with_reducible repeat (first | apply Kd.R_alloc | apply Kd.R_drewN | apply Kd.R_drew)); exact HO369.out))) (below_size (by repeat (first | (with_reducible first | exact HB.out | apply below_alloc | apply pw_below_drewN | apply below_drew1) | exact HB.out)))); have n2_ := Aside0.mk (below_step (by repeat (first | (with_reducible first | exact HB.out | apply below_alloc | apply pw_below_drewN | apply below_drew1) | exact HB.out)) hb); clear HO369; clear HB; have HO369 := n0_; have HO372 := n1_; have HB := n2_; clear n0_ n1_ n2_; (try clear hb); (try clear hb2); (try clear hk); (try clear hi); (try clear ho0); obtain ⟨Ao54, co54, eo54⟩ := Kd.R_slice HO372.out; subst eo54) | ((with_reducible refine gate_callee (f := 19) rfl ?_); refine goesL_ (some 16) rfl rfl Try.func19 (by kernel_rfl) rfl #[.slice Ao54 t370.length co54, .string (⟨#[98]⟩ : ByteArray)] rfl (by (try simp only [List.map_toArray, List.map_cons, List.map_nil]); first | done | rfl | (simp only [List.length_drop, List.length_take]; rfl)) ?_; (with_reducible refine (attr_Get.calls k _ _ t370 (⟨#[98]⟩ : ByteArray) t374 t375 _ ?side1 ?side2 A2.out).mono ?_); (case side1 => repeat (first | exact (Kd.R_reads' HO372.out).2.2 | (with_reducible refine Kd.C_alloc ?_ _) | (with_reducible refine Kd.C_drewN ?_ _) | (with_reducible refine Kd.C_drew ?_))); (case side2 => exact (Kd.R_reads' HO372.out).2.1); rintro e w55 ⟨rfl, hb⟩; refine ⟨_, rfl, ?_⟩; have n0_ := Aside0.mk (Kd.R_below (by (with_reducible repeat (first | apply Kd.R_alloc | apply Kd.R_drewN | apply Kd.R_drew)); exact HO369.out) hb); have n1_ := Aside0.mk (Kd.R_below (by (with_reducible repeat (first | apply Kd.R_alloc | apply Kd.R_drewN | apply Kd.R_drew)); exact HO372.out) hb); have n2_ := Aside0.mk (below_step (by repeat (first | (with_reducible first | exact HB.out | apply below_alloc | apply pw_below_drewN | apply below_drew1) | exact HB.out)) hb); clear HO369; clear HO372; clear HB; have HO369 := n0_; have HO372 := n1_; have HB := n2_; clear n0_ n1_ n2_; (try clear hb); (try clear hb2); (try clear hk); (try clear hi)) | ((with_reducible refine gate_callee (f := 21) rfl ?_); refine goesL_ (some 21) rfl rfl Try.func21 (by kernel_rfl) rfl #[.slice Ao54 t370.length co54] rfl (by (try simp only [List.map_toArray, List.map_cons, List.map_nil]); first | done | rfl | (simp only [List.length_drop, List.length_take]; rfl)) ?_; (with_reducible refine (attr_Encode.calls k _ _ t370 t376 t377 _ ?side1 ?side2 A3.out).mono ?_); (case side1 => repeat (first | exact (Kd.R_reads' HO372.out).2.2 | (with_reducible refine Kd.C_alloc ?_ _) | (with_reducible refine Kd.C_drewN ?_ _) | (with_reducible refine Kd.C_drew ?_))); (case side2 => exact (Kd.R_reads' HO372.out).2.1); rintro e w56 ⟨v378, rfl, ho0, hb⟩; refine ⟨_, rfl, ?_⟩; have n0_ := Aside0.mk (Kd.R_below (by (with_reducible repeat (first | apply Kd.R_alloc | apply Kd.R_drewN | apply Kd.R_drew)); exact HO369.out) hb); have n1_ := Aside0.mk (Kd.R_below (by (with_reducible repeat (first | apply Kd.R_alloc | apply Kd.R_drewN | apply Kd.R_drew)); exact HO372.out) hb); have n2_ := Aside0.mk (Kd.R_lower ho0 (below_size (by repeat (first | (with_reducible first | exact HB.out | apply below_alloc | apply pw_below_drewN | apply below_drew1) | exact HB.out)))); have n3_ := Aside0.mk (below_step (by repeat (first | (with_reducible first | exact HB.out | apply below_alloc | apply pw_below_drewN | apply below_drew1) | exact HB.out)) hb); clear HO369; clear HO372; clear HB; have HO369 := n0_; have HO372 := n1_; have HO379 := n2_; have HB := n3_; clear n0_ n1_ n2_ n3_; (try clear hb); (try clear hb2); (try clear hk); (try clear hi); (try clear ho0); have p380 : 0 ≤ (0 : Int) := (by omega); have q380 : 0 < (t370.length : Int) := of_decide_eq_true (by first | (with_reducible assumption) | assumption); obtain ⟨ad380, e380, hx380_0, hx380_1⟩ := at_T26 (Kd.R_reads' HO372.out).2.2 0 p380 q380; cases e380; have qi380 : (0 < t370.length) = True := eq_true (by omega); (try rw [show ((0 : Int)).toNat = 0 from rfl] at hx380_0); (try rw [show 0 * 2 = 0 from rfl] at hx380_0); (try rw [Addr.add_zero'] at hx380_0); (try rw [show ((0 : Int)).toNat = 0 from rfl] at hx380_1); (try rw [show 0 * 2 = 0 from rfl] at hx380_1); (try rw [Addr.add_zero'] at hx380_1); replace p380 := eq_true p380; replace q380 := eq_true q380))
          go_ret
          exact ⟨by first | rfl | (simp [errW_none, errW_some] <;> rfl) | (simp [*, errW_none, errW_some] <;> rfl), by repeat (first | (with_reducible first | exact HB.out | apply below_alloc | apply pw_below_drewN | apply below_drew1) | exact HB.out)⟩
      · rw [if_neg c6] at H
        exact absurd H (by simp)
    · rw [if_neg c5] at H
      have c5b0 : ((t370.length : Int) == 2) = false := beq_eq_false_iff_ne.mpr c5
      have c5b1 : ((t370.length : Int) != 2) = true := bne_iff_ne.mpr c5
      obtain rfl := Option.some.inj H
      go_enter Try.func13, Try.ntmps13
      go_wp2_with (first | ((with_reducible refine gate_dst (N := 9) rfl ?_); (try (refine gate_guard (by rfl) ?_; dsimp only)); refine Kd.R_lit k26 _ 26 ?hg (N := 9) ?hd (xs := ([(⟨(⟨#[98]⟩ : ByteArray), (⟨#[49]⟩ : ByteArray)⟩ : S26)] : List (S26))) (inner := [.string (⟨#[98]⟩ : ByteArray), .string (⟨#[49]⟩ : ByteArray)]) (ok := fun _ => True) (okp := fun _ => True) ?hr ?hp (fun _ hk => hk) trivial (Below.refl _ _) (Nat.le_refl _) (by simp) ?_; (case hd => rfl); (case hg => rfl); (case hr => first | (go_simp; done) | (go_simp; rfl)); (case hp => exact (Reps.c2 (show Kd.M k26 _ _ _ (⟨(⟨#[98]⟩ : ByteArray), (⟨#[49]⟩ : ByteArray)⟩ : S26) [.string (⟨#[98]⟩ : ByteArray), .string (⟨#[49]⟩ : ByteArray)] from (k26_mkM _ _ _ (⟨(⟨#[98]⟩ : ByteArray), (⟨#[49]⟩ : ByteArray)⟩ : S26) )) (Reps.none _ _))); intro v368 w57 ho58 hb hg_ hnew_; clear hg_ hnew_; (first | rw [← Ny367.out] at ho58 | (simp only [Int.reduceToNat] at ho58; rw [← Ny367.out] at ho58)); have n0_ := Aside0.mk (Kd.R_lower ho58 (below_size (by repeat (first | (with_reducible first | exact HB.out | apply below_alloc | apply pw_below_drewN | apply below_drew1) | exact HB.out)))); have n1_ := Aside0.mk (below_step (by repeat (first | (with_reducible first | exact HB.out | apply below_alloc | apply pw_below_drewN | apply below_drew1) | exact HB.out)) hb); clear HB; have HO369 := n0_; have HB := n1_; clear n0_ n1_; clear hb ho58; obtain ⟨Ao59, co59, eo59⟩ := Kd.R_slice HO369.out; subst eo59) | ((with_reducible refine gate_callee (f := 14) rfl ?_); refine goesL_ (some 11) rfl rfl Try.func14 (by kernel_rfl) rfl #[.slice Ao59 y367.length co59, .agg #[.string (⟨#[97]⟩ : ByteArray), .string (⟨#[50]⟩ : ByteArray)]] rfl (by (try simp only [List.map_toArray, List.map_cons, List.map_nil]); first | done | rfl | (simp only [List.length_drop, List.length_take]; rfl)) ?_; (with_reducible refine (attr_Set.calls k _ _ y367 (⟨#[97]⟩ : ByteArray) (⟨#[50]⟩ : ByteArray) t370 t373 _ ?side1 ?side2 A1.out).mono ?_); (case side1 => repeat (first | exact (Kd.R_reads' HO369.out).2.2 | (with_reducible refine Kd.C_alloc ?_ _) | (with_reducible refine Kd.C_drewN ?_ _) | (with_reducible refine Kd.C_drew ?_))); (case side2 => exact (Kd.R_reads' HO369.out).2.1); rintro e w60 ⟨v371, rfl, ho0, hb⟩; refine ⟨_, rfl, ?_⟩; have n0_ := Aside0.mk (Kd.R_elder' (by (with_reducible repeat (first | apply Kd.R_alloc | apply Kd.R_drewN | apply Kd.R_drew)); exact HO369.out) (Kd.R_base ho0) hb); have n1_ := Aside0.mk (Kd.R_lower (Kd.R_new' ho0 (Kd.R_lt (by (with_reducible repeat (first | apply Kd.R_alloc | apply Kd.R_drewN | apply Kd.R_drew)); exact HO369.out))) (below_size (by repeat (first | (with_reducible first | exact HB.out | apply below_alloc | apply pw_below_drewN | apply below_drew1) | exact HB.out)))); have n2_ := Aside0.mk (below_step (by repeat (first | (with_reducible first | exact HB.out | apply below_alloc | apply pw_below_drewN | apply below_drew1) | exact HB.out)) hb); clear HO369; clear HB; have HO369 := n0_; have HO372 := n1_; have HB := n2_; clear n0_ n1_ n2_; (try clear hb); (try clear hb2); (try clear hk); (try clear hi); (try clear ho0); obtain ⟨Ao61, co61, eo61⟩ := Kd.R_slice HO372.out; subst eo61) | ((with_reducible refine gate_callee (f := 19) rfl ?_); refine goesL_ (some 16) rfl rfl Try.func19 (by kernel_rfl) rfl #[.slice Ao61 t370.length co61, .string (⟨#[98]⟩ : ByteArray)] rfl (by (try simp only [List.map_toArray, List.map_cons, List.map_nil]); first | done | rfl | (simp only [List.length_drop, List.length_take]; rfl)) ?_; (with_reducible refine (attr_Get.calls k _ _ t370 (⟨#[98]⟩ : ByteArray) t374 t375 _ ?side1 ?side2 A2.out).mono ?_); (case side1 => repeat (first | exact (Kd.R_reads' HO372.out).2.2 | (with_reducible refine Kd.C_alloc ?_ _) | (with_reducible refine Kd.C_drewN ?_ _) | (with_reducible refine Kd.C_drew ?_))); (case side2 => exact (Kd.R_reads' HO372.out).2.1); rintro e w62 ⟨rfl, hb⟩; refine ⟨_, rfl, ?_⟩; have n0_ := Aside0.mk (Kd.R_below (by (with_reducible repeat (first | apply Kd.R_alloc | apply Kd.R_drewN | apply Kd.R_drew)); exact HO369.out) hb); have n1_ := Aside0.mk (Kd.R_below (by (with_reducible repeat (first | apply Kd.R_alloc | apply Kd.R_drewN | apply Kd.R_drew)); exact HO372.out) hb); have n2_ := Aside0.mk (below_step (by repeat (first | (with_reducible first | exact HB.out | apply below_alloc | apply pw_below_drewN | apply below_drew1) | exact HB.out)) hb); clear HO369; clear HO372; clear HB; have HO369 := n0_; have HO372 := n1_; have HB := n2_; clear n0_ n1_ n2_; (try clear hb); (try clear hb2); (try clear hk); (try clear hi)) | ((with_reducible refine gate_callee (f := 21) rfl ?_); refine goesL_ (some 21) rfl rfl Try.func21 (by kernel_rfl) rfl #[.slice Ao61 t370.length co61] rfl (by (try simp only [List.map_toArray, List.map_cons, List.map_nil]); first | done | rfl | (simp only [List.length_drop, List.length_take]; rfl)) ?_; (with_reducible refine (attr_Encode.calls k _ _ t370 t376 t377 _ ?side1 ?side2 A3.out).mono ?_); (case side1 => repeat (first | exact (Kd.R_reads' HO372.out).2.2 | (with_reducible refine Kd.C_alloc ?_ _) | (with_reducible refine Kd.C_drewN ?_ _) | (with_reducible refine Kd.C_drew ?_))); (case side2 => exact (Kd.R_reads' HO372.out).2.1); rintro e w63 ⟨v378, rfl, ho0, hb⟩; refine ⟨_, rfl, ?_⟩; have n0_ := Aside0.mk (Kd.R_below (by (with_reducible repeat (first | apply Kd.R_alloc | apply Kd.R_drewN | apply Kd.R_drew)); exact HO369.out) hb); have n1_ := Aside0.mk (Kd.R_below (by (with_reducible repeat (first | apply Kd.R_alloc | apply Kd.R_drewN | apply Kd.R_drew)); exact HO372.out) hb); have n2_ := Aside0.mk (Kd.R_lower ho0 (below_size (by repeat (first | (with_reducible first | exact HB.out | apply below_alloc | apply pw_below_drewN | apply below_drew1) | exact HB.out)))); have n3_ := Aside0.mk (below_step (by repeat (first | (with_reducible first | exact HB.out | apply below_alloc | apply pw_below_drewN | apply below_drew1) | exact HB.out)) hb); clear HO369; clear HO372; clear HB; have HO369 := n0_; have HO372 := n1_; have HO379 := n2_; have HB := n3_; clear n0_ n1_ n2_ n3_; (try clear hb); (try clear hb2); (try clear hk); (try clear hi); (try clear ho0)))
      go_ret
      exact ⟨by first | rfl | (simp [errW_none, errW_some] <;> rfl) | (simp [*, errW_none, errW_some] <;> rfl), by repeat (first | (with_reducible first | exact HB.out | apply below_alloc | apply pw_below_drewN | apply below_drew1) | exact HB.out)⟩
  · rw [if_neg c4] at H
    have c4b0 : (t373 == 0) = false := beq_eq_false_iff_ne.mpr c4
    have c4b1 : (t373 != 0) = true := bne_iff_ne.mpr c4
    obtain rfl := Option.some.inj H
    go_enter Try.func13, Try.ntmps13
    go_wp2_with (first | ((with_reducible refine gate_dst (N := 9) rfl ?_); (try (refine gate_guard (by rfl) ?_; dsimp only)); refine Kd.R_lit k26 _ 26 ?hg (N := 9) ?hd (xs := ([(⟨(⟨#[98]⟩ : ByteArray), (⟨#[49]⟩ : ByteArray)⟩ : S26)] : List (S26))) (inner := [.string (⟨#[98]⟩ : ByteArray), .string (⟨#[49]⟩ : ByteArray)]) (ok := fun _ => True) (okp := fun _ => True) ?hr ?hp (fun _ hk => hk) trivial (Below.refl _ _) (Nat.le_refl _) (by simp) ?_; (case hd => rfl); (case hg => rfl); (case hr => first | (go_simp; done) | (go_simp; rfl)); (case hp => exact (Reps.c2 (show Kd.M k26 _ _ _ (⟨(⟨#[98]⟩ : ByteArray), (⟨#[49]⟩ : ByteArray)⟩ : S26) [.string (⟨#[98]⟩ : ByteArray), .string (⟨#[49]⟩ : ByteArray)] from (k26_mkM _ _ _ (⟨(⟨#[98]⟩ : ByteArray), (⟨#[49]⟩ : ByteArray)⟩ : S26) )) (Reps.none _ _))); intro v368 w64 ho65 hb hg_ hnew_; clear hg_ hnew_; (first | rw [← Ny367.out] at ho65 | (simp only [Int.reduceToNat] at ho65; rw [← Ny367.out] at ho65)); have n0_ := Aside0.mk (Kd.R_lower ho65 (below_size (by repeat (first | (with_reducible first | exact HB.out | apply below_alloc | apply pw_below_drewN | apply below_drew1) | exact HB.out)))); have n1_ := Aside0.mk (below_step (by repeat (first | (with_reducible first | exact HB.out | apply below_alloc | apply pw_below_drewN | apply below_drew1) | exact HB.out)) hb); clear HB; have HO369 := n0_; have HB := n1_; clear n0_ n1_; clear hb ho65; obtain ⟨Ao66, co66, eo66⟩ := Kd.R_slice HO369.out; subst eo66) | ((with_reducible refine gate_callee (f := 14) rfl ?_); refine goesL_ (some 11) rfl rfl Try.func14 (by kernel_rfl) rfl #[.slice Ao66 y367.length co66, .agg #[.string (⟨#[97]⟩ : ByteArray), .string (⟨#[50]⟩ : ByteArray)]] rfl (by (try simp only [List.map_toArray, List.map_cons, List.map_nil]); first | done | rfl | (simp only [List.length_drop, List.length_take]; rfl)) ?_; (with_reducible refine (attr_Set.calls k _ _ y367 (⟨#[97]⟩ : ByteArray) (⟨#[50]⟩ : ByteArray) t370 t373 _ ?side1 ?side2 A1.out).mono ?_); (case side1 => repeat (first | exact (Kd.R_reads' HO369.out).2.2 | (with_reducible refine Kd.C_alloc ?_ _) | (with_reducible refine Kd.C_drewN ?_ _) | (with_reducible refine Kd.C_drew ?_))); (case side2 => exact (Kd.R_reads' HO369.out).2.1); rintro e w67 ⟨v371, rfl, ho0, hb⟩; refine ⟨_, rfl, ?_⟩; have n0_ := Aside0.mk (Kd.R_elder' (by (with_reducible repeat (first | apply Kd.R_alloc | apply Kd.R_drewN | apply Kd.R_drew)); exact HO369.out) (Kd.R_base ho0) hb); have n1_ := Aside0.mk (Kd.R_lower (Kd.R_new' ho0 (Kd.R_lt (by (with_reducible repeat (first | apply Kd.R_alloc | apply Kd.R_drewN | apply Kd.R_drew)); exact HO369.out))) (below_size (by repeat (first | (with_reducible first | exact HB.out | apply below_alloc | apply pw_below_drewN | apply below_drew1) | exact HB.out)))); have n2_ := Aside0.mk (below_step (by repeat (first | (with_reducible first | exact HB.out | apply below_alloc | apply pw_below_drewN | apply below_drew1) | exact HB.out)) hb); clear HO369; clear HB; have HO369 := n0_; have HO372 := n1_; have HB := n2_; clear n0_ n1_ n2_; (try clear hb); (try clear hb2); (try clear hk); (try clear hi); (try clear ho0); obtain ⟨Ao68, co68, eo68⟩ := Kd.R_slice HO372.out; subst eo68) | ((with_reducible refine gate_callee (f := 19) rfl ?_); refine goesL_ (some 16) rfl rfl Try.func19 (by kernel_rfl) rfl #[.slice Ao68 t370.length co68, .string (⟨#[98]⟩ : ByteArray)] rfl (by (try simp only [List.map_toArray, List.map_cons, List.map_nil]); first | done | rfl | (simp only [List.length_drop, List.length_take]; rfl)) ?_; (with_reducible refine (attr_Get.calls k _ _ t370 (⟨#[98]⟩ : ByteArray) t374 t375 _ ?side1 ?side2 A2.out).mono ?_); (case side1 => repeat (first | exact (Kd.R_reads' HO372.out).2.2 | (with_reducible refine Kd.C_alloc ?_ _) | (with_reducible refine Kd.C_drewN ?_ _) | (with_reducible refine Kd.C_drew ?_))); (case side2 => exact (Kd.R_reads' HO372.out).2.1); rintro e w69 ⟨rfl, hb⟩; refine ⟨_, rfl, ?_⟩; have n0_ := Aside0.mk (Kd.R_below (by (with_reducible repeat (first | apply Kd.R_alloc | apply Kd.R_drewN | apply Kd.R_drew)); exact HO369.out) hb); have n1_ := Aside0.mk (Kd.R_below (by (with_reducible repeat (first | apply Kd.R_alloc | apply Kd.R_drewN | apply Kd.R_drew)); exact HO372.out) hb); have n2_ := Aside0.mk (below_step (by repeat (first | (with_reducible first | exact HB.out | apply below_alloc | apply pw_below_drewN | apply below_drew1) | exact HB.out)) hb); clear HO369; clear HO372; clear HB; have HO369 := n0_; have HO372 := n1_; have HB := n2_; clear n0_ n1_ n2_; (try clear hb); (try clear hb2); (try clear hk); (try clear hi)) | ((with_reducible refine gate_callee (f := 21) rfl ?_); refine goesL_ (some 21) rfl rfl Try.func21 (by kernel_rfl) rfl #[.slice Ao68 t370.length co68] rfl (by (try simp only [List.map_toArray, List.map_cons, List.map_nil]); first | done | rfl | (simp only [List.length_drop, List.length_take]; rfl)) ?_; (with_reducible refine (attr_Encode.calls k _ _ t370 t376 t377 _ ?side1 ?side2 A3.out).mono ?_); (case side1 => repeat (first | exact (Kd.R_reads' HO372.out).2.2 | (with_reducible refine Kd.C_alloc ?_ _) | (with_reducible refine Kd.C_drewN ?_ _) | (with_reducible refine Kd.C_drew ?_))); (case side2 => exact (Kd.R_reads' HO372.out).2.1); rintro e w70 ⟨v378, rfl, ho0, hb⟩; refine ⟨_, rfl, ?_⟩; have n0_ := Aside0.mk (Kd.R_below (by (with_reducible repeat (first | apply Kd.R_alloc | apply Kd.R_drewN | apply Kd.R_drew)); exact HO369.out) hb); have n1_ := Aside0.mk (Kd.R_below (by (with_reducible repeat (first | apply Kd.R_alloc | apply Kd.R_drewN | apply Kd.R_drew)); exact HO372.out) hb); have n2_ := Aside0.mk (Kd.R_lower ho0 (below_size (by repeat (first | (with_reducible first | exact HB.out | apply below_alloc | apply pw_below_drewN | apply below_drew1) | exact HB.out)))); have n3_ := Aside0.mk (below_step (by repeat (first | (with_reducible first | exact HB.out | apply below_alloc | apply pw_below_drewN | apply below_drew1) | exact HB.out)) hb); clear HO369; clear HO372; clear HB; have HO369 := n0_; have HO372 := n1_; have HO379 := n2_; have HB := n3_; clear n0_ n1_ n2_ n3_; (try clear hb); (try clear hb2); (try clear hk); (try clear hi); (try clear ho0)))
    go_ret
    exact ⟨by first | rfl | (simp [errW_none, errW_some] <;> rfl) | (simp [*, errW_none, errW_some] <;> rfl), by repeat (first | (with_reducible first | exact HB.out | apply below_alloc | apply pw_below_drewN | apply below_drew1) | exact HB.out)⟩
end Go.Proofs.Ytffaggckhneakaa.Pr
end
section
namespace Go.Proofs.Ytffaggckhneakaa.At
open Go.RowKit Go.Proofs.YtffaggckhneakaaW.PrintWords Go.Proofs.YtffaggckhneakaaW.PrintMore Go.Proofs.Ytffaggckhneakaa.Pr Go.Proofs.Ytffaggckhneakaa.Od Go.Proofs.Ytffaggckhneakaa.Cr
set_option linter.unusedVariables false
set_option linter.unusedSimpArgs false
def Fits (l : List E) : Prop := l.length ≤ 4398046510976
theorem o26 : Op.Opens Try.prog 22 (Kd.slice 26 k26) Fits :=
  Op.opens_imp (Op.opens_slice Try.underlying22 (by kernel_rfl) (B := 32) (by kernel_rfl)
    (Op.opens_iso (T := fun _ : E => True) (fun x => ⟨x.1, x.2⟩) (fun _ => rfl) (fun _ _ => trivial)
      (Op.opens_struct Try.underlying26 (by kernel_rfl) (Op.opensAt_cons rfl (by kernel_rfl) (Op.opens_string Try.underlying9) (Op.opensAt_last rfl (by kernel_rfl) (Op.opens_string Try.underlying9))))))
    (fun l h => by unfold Fits; omega)
def xb : E := ⟨⟨#[98]⟩, ⟨#[49]⟩⟩
def xa : E := ⟨⟨#[97]⟩, ⟨#[50]⟩⟩
theorem alive_set : setR [xb] xa = ([xa, xb], 0) := by
  unfold setR
  rw [if_pos ⟨by decide, by decide⟩, if_pos (by decide)]; rfl
theorem alive_get : getR [xa, xb] xb.f0.data.toList = (⟨#[49]⟩, 0) := by
  unfold getR
  rw [if_pos (by decide)]; rfl
theorem alive_enc : (encR [xa, xb]).2 = 0 := encR_iff.2 ⟨by decide, by decide⟩
theorem alive_bytes : (encR [xa, xb]).1 = encP [xa, xb] ++ bytesN 4 (sumB (encP [xa, xb])).toNat := by
  have hi := encR_iff.1 alive_enc
  unfold encR; rw [if_pos hi.1, if_neg (by omega)]
theorem alive_first : rd (encR [xa, xb]).1 0 = 2 := by
  rw [alive_bytes]; rfl
theorem alive_ev : Ev (fun k => undercroftlaw13_alive.f k) true := by
  unfold undercroftlaw13_alive.f
  refine Ev.bind (set_ev [xb] xa (by decide)) ?_
  rw [alive_set]
  refine Ev.bind (get_ev [xa, xb] xb.f0 (by decide)) ?_
  rw [alive_get]
  refine Ev.bind (enc_ev [xa, xb] (by decide)) ?_
  have e2 : (encR [xa, xb]).1.length = 256 := encR_len alive_enc
  have e3 : rd_T26 [xa, xb] 0 = xa := rfl
  have e4 : xa.f0.toList = ([97] : List UInt8) := by rw [Lib.toList_data]; rfl
  have e5 : (⟨#[49]⟩ : ByteArray).toList = ([49] : List UInt8) := by rw [Lib.toList_data]
  simp only [alive_enc, e2, e3, e4, e5, alive_first, if_true, List.length_cons, List.length_nil, show ((256 : Nat) : Int) = 256 from rfl, if_pos (show (0 : Int) < 256 by decide), show ((0 + 1 + 1 : Nat) : Int) = 2 from rfl, if_pos (show (0 : Int) < 2 by decide), beq_self_eq_true]
  exact Ev.now _
theorem setR_cases (l : List E) (x : E) : (right none l = true ∧ okE x = true ∧ sumL (put x l) ≤ 250 ∧ setR l x = (put x l, 0)) ∨ (∃ c : Int, (c = 1 ∨ c = 15) ∧ setR l x = ([], c)) := by
  unfold setR
  by_cases h : right none l = true ∧ okE x = true
  · rw [if_pos h]
    by_cases hs : sumL (put x l) ≤ 250
    · rw [if_pos hs]; exact .inl ⟨h.1, h.2, hs, rfl⟩
    · rw [if_neg hs]; exact .inr ⟨15, .inr rfl, rfl⟩
  · rw [if_neg h]; exact .inr ⟨1, .inl rfl, rfl⟩
theorem put_get {l : List E} {x : E} (hr : right none l = true) : getF (nb x) (put x l) = some x := by
  obtain ⟨A, M, C, rfl, hA, hC, hM⟩ := split (nb x) l ((right_iff l none).1 hr).2.2
  rw [put_split hA hC hM, show A ++ x :: C = A ++ ([x] ++ C) from rfl, get_split hA hC (.inr ⟨x, rfl, rfl⟩)]; rfl
theorem put_other {l : List E} {x : E} {o : List UInt8} (hr : right none l = true) (ho : ¬ o = nb x) : getF o (put x l) = getF o l := by
  obtain ⟨A, M, C, rfl, hA, hC, hM⟩ := split (nb x) l ((right_iff l none).1 hr).2.2
  have hxo : ¬ nb x = o := fun h => ho h.symm
  rw [put_split hA hC hM]
  unfold getF
  rw [List.find?_append, List.find?_append, List.find?_append, List.find?_cons_of_neg (by simp [hxo])]
  rcases hM with rfl | ⟨m, rfl, hm⟩
  · rfl
  · rw [show List.find? (fun e => decide (nb e = o)) [m] = none by simp [hm, hxo], Option.none_or]
theorem rem_get {l : List E} {s : List UInt8} : getF s (rem s l) = none := by
  unfold getF rem
  refine List.find?_eq_none.2 fun e he => ?_
  have := (List.mem_filter.1 he).2
  simpa using this
end Go.Proofs.Ytffaggckhneakaa.At
end
section
namespace Go.Proofs.Ytffaggckhneakaa.Pr
open Go.RowKit Go.Proofs.YtffaggckhneakaaW.PrintWords Go.Proofs.YtffaggckhneakaaW.PrintLast Go.Proofs.YtffaggckhneakaaW.PrintMore
attribute [local go_sem] max2_int min2_int max_two min_two max_three min_three max_four min_four
attribute [local go_sem] Go.Proofs.Ytffaggckhneakaa.Hl.str_geq Go.Proofs.Ytffaggckhneakaa.Hl.str_gtr Go.Proofs.Ytffaggckhneakaa.Hl.str_leq
set_option linter.unusedVariables false
set_option linter.unusedSimpArgs false
mutual
def undercroftlaw13_AttrGets.j0 : Nat → List (S26) → ByteArray → List (S26) → Bool → ByteArray → ByteArray → Option (Bool)
  | 0, _, _, _, _, _, _ => none
  | k + 1, x0, x2, x7, x50, x542000, x542001 => if x50 = true then (some false) else (if x2.toList = x542000.toList then (undercroftlaw13_AttrGets.j1 k x7 x542000 x542001) else ((attr_Get.f k x0 x2).bind fun bt549 => ((attr_Get.f k x7 x2).bind fun bt551 => (if bt549.1.toList = bt551.1.toList then (if bt549.2 = bt551.2 then (undercroftlaw13_AttrGets.j1 k x7 x542000 x542001) else (some false)) else (some false)))))
def undercroftlaw13_AttrGets.j1 : Nat → List (S26) → ByteArray → ByteArray → Option (Bool)
  | 0, _, _, _ => none
  | k + 1, x7, x542000, x542001 => (attr_Drop.f k x7 x542000).bind fun bt553 => ((attr_Get.f k bt553.1 x542000).bind fun bt557 => ((attr_Drop.f k bt553.1 x542000).bind fun bt559 => ((attr_Encode.f k x7).bind fun bt563 => (if bt553.2 = 0 then (if bt557.2 = 15 then (if bt559.2 = 15 then (some (bt563.2 == 0)) else (some false)) else (some false)) else (some false)))))
end
def undercroftlaw13_AttrGets.f (k : Nat) (l0 : List (S26)) (a1_0 : ByteArray) (a1_1 : ByteArray) (a2 : ByteArray) : Option (Bool) := (undercroftlaw13_alive.f k).bind fun t542 => (if t542 = true then ((attr_Set.f k l0 a1_0 a1_1).bind fun bt543 => (if bt543.2 = 0 then ((attr_Get.f k bt543.1 a1_0).bind fun bt547 => (if bt547.2 = 0 then (undercroftlaw13_AttrGets.j0 k l0 a2 bt543.1 (bt547.1.toList != a1_1.toList) a1_0 a1_1) else (undercroftlaw13_AttrGets.j0 k l0 a2 bt543.1 true a1_0 a1_1))) else (some ((bt543.1.length : Int) == 0)))) else (some false))
set_option maxHeartbeats 8000000 in
set_option maxRecDepth 100000 in
theorem undercroftlaw13_AttrGets.calls (k : Nat) (A0 : Option Addr) (c0 : Nat) (l0 : List (S26)) (a1_0 : ByteArray) (a1_1 : ByteArray) (a2 : ByteArray) (r : Bool) (w : World) (hr0 : Kd.C k26 w A0 l0.length l0) (hc0 : l0.length ≤ c0) (h : undercroftlaw13_AttrGets.f k l0 a1_0 a1_1 a2 = some r) :
    Calls Try.prog 5 #[.slice A0 l0.length c0, .agg #[.string a1_0, .string a1_1], .string a2] w fun e w' => e = .returned (.bool r) ∧ Below w.heap.size w w' := by
  have hu26 := Try.underlying26
  have HR0 := Aside0.mk hr0
  have HC0 := Aside0.mk hc0
  clear hr0 hc0
  have HB := Aside0.mk (Below.refl w.heap.size w)
  have H : ((undercroftlaw13_alive.f k).bind fun t542 => (if t542 = true then ((attr_Set.f k l0 a1_0 a1_1).bind fun bt543 => (if bt543.2 = 0 then ((attr_Get.f k bt543.1 a1_0).bind fun bt547 => (if bt547.2 = 0 then (undercroftlaw13_AttrGets.j0 k l0 a2 bt543.1 (bt547.1.toList != a1_1.toList) a1_0 a1_1) else (undercroftlaw13_AttrGets.j0 k l0 a2 bt543.1 true a1_0 a1_1))) else (some ((bt543.1.length : Int) == 0)))) else (some false))) = some r := h
  clear h
  replace H := Option.bind_eq_some_iff.mp H
  obtain ⟨t542, A40, H⟩ := H
  replace H : (if t542 = true then ((attr_Set.f k l0 a1_0 a1_1).bind fun bt543 => (if bt543.2 = 0 then ((attr_Get.f k bt543.1 a1_0).bind fun bt547 => (if bt547.2 = 0 then (undercroftlaw13_AttrGets.j0 k l0 a2 bt543.1 (bt547.1.toList != a1_1.toList) a1_0 a1_1) else (undercroftlaw13_AttrGets.j0 k l0 a2 bt543.1 true a1_0 a1_1))) else (some ((bt543.1.length : Int) == 0)))) else (some false)) = some r := H
  have A4 := Aside0.mk A40
  clear A40
  by_cases c5 : t542 = true
  · subst c5
    have H1 : ((attr_Set.f k l0 a1_0 a1_1).bind fun bt543 => (if bt543.2 = 0 then ((attr_Get.f k bt543.1 a1_0).bind fun bt547 => (if bt547.2 = 0 then (undercroftlaw13_AttrGets.j0 k l0 a2 bt543.1 (bt547.1.toList != a1_1.toList) a1_0 a1_1) else (undercroftlaw13_AttrGets.j0 k l0 a2 bt543.1 true a1_0 a1_1))) else (some ((bt543.1.length : Int) == 0)))) = some r := by rw [if_pos rfl] at H; exact H
    clear H
    have H := H1
    clear H1
    replace H := Option.bind_eq_some_iff.mp H
    obtain ⟨⟨t543, t546⟩, A60, H⟩ := H
    replace H : (if t546 = 0 then ((attr_Get.f k t543 a1_0).bind fun bt547 => (if bt547.2 = 0 then (undercroftlaw13_AttrGets.j0 k l0 a2 t543 (bt547.1.toList != a1_1.toList) a1_0 a1_1) else (undercroftlaw13_AttrGets.j0 k l0 a2 t543 true a1_0 a1_1))) else (some ((t543.length : Int) == 0))) = some r := H
    have A6 := Aside0.mk A60
    clear A60
    by_cases c7 : t546 = 0
    · rw [if_pos c7] at H
      have c7b0 : (t546 == 0) = true := beq_iff_eq.mpr c7
      have c7b1 : (t546 != 0) = false := bne_eq_false_iff_eq.mpr c7
      clear c7
      replace H := Option.bind_eq_some_iff.mp H
      obtain ⟨⟨t547, t548⟩, A80, H⟩ := H
      replace H : (if t548 = 0 then (undercroftlaw13_AttrGets.j0 k l0 a2 t543 (t547.toList != a1_1.toList) a1_0 a1_1) else (undercroftlaw13_AttrGets.j0 k l0 a2 t543 true a1_0 a1_1)) = some r := H
      have A8 := Aside0.mk A80
      clear A80
      have HC9 := Aside0.mk H
      clear H
      go_enter Try.func5, Try.ntmps5
      go_upto_region 7 with (first | ((with_reducible refine gate_dst (N := 4) rfl ?_); refine box_event ?hg (N := 4) ?hd (cs := #[.string a1_0, .string a1_1]) (t := 26) ?hr ?_; (case hd => rfl); (case hg => rfl); (case hr => first | (go_simp; done) | (go_simp; rfl)); intro gb541 hg w10 hbox hb; have n0_ := Aside0.mk (below_step (by repeat (first | (with_reducible first | exact HB.out | apply below_alloc | apply pw_below_drewN | apply below_drew1) | exact HB.out)) hb); have n1_ := Aside0.mk (hbox); have n2_ := Aside0.mk ((by rw [hg]; exact (below_size (by repeat (first | (with_reducible first | exact HB.out | apply below_alloc | apply pw_below_drewN | apply below_drew1) | exact HB.out))) : w.heap.size ≤ gb541)); have n3_ := Aside0.mk ((by rw [hg]; exact (below_size (by repeat (first | (with_reducible first | exact HB.out | apply below_alloc | apply pw_below_drewN | apply below_drew1) | exact HB.out))) : w.heap.size ≤ gb541)); clear HB; have HB := n0_; have BK541 := n1_; have GW541 := n2_; have GE541 := n3_; clear n0_ n1_ n2_ n3_; clear hb hbox hg) | ((with_reducible refine gate_callee (f := 13) rfl ?_); refine goesL_ (some 23) rfl rfl Try.func13 (by kernel_rfl) rfl #[] rfl (by (try simp only [List.map_toArray, List.map_cons, List.map_nil]); first | done | rfl | (simp only [List.length_drop, List.length_take]; rfl)) ?_; (with_reducible refine (undercroftlaw13_alive.calls k  true _ A4.out).mono ?_); rintro e w11 ⟨rfl, hb⟩; refine ⟨_, rfl, ?_⟩; have n0_ := Aside0.mk (blk_below (g := gb541) (o := .cells #[.string a1_0, .string a1_1] 26 (0, 0)) (by (with_reducible repeat (first | refine blk_drewN ?_ _ | refine blk_drew ?_ | refine blk_alloc ?_ _)); exact BK541.out) hb); have n1_ := Aside0.mk (below_step (by repeat (first | (with_reducible first | exact HB.out | apply below_alloc | apply pw_below_drewN | apply below_drew1 | refine below_set ?_ GE541.out) | exact HB.out)) hb); clear BK541; clear HB; have BK541 := n0_; have HB := n1_; clear n0_ n1_; (try clear hb); (try clear hb2); (try clear hk); (try clear hi); have hcz12_0 : w11.cell? ⟨gb541, 0, none⟩ = some (.string a1_0) := (blk_cell BK541.out 0).trans rfl; have hcz12_1 : w11.cell? ⟨gb541, 1, none⟩ = some (.string a1_1) := (blk_cell BK541.out 1).trans rfl; have hfz12_0 := blk_frozen BK541.out 0; have hfz12_1 := blk_frozen BK541.out 1) | ((with_reducible refine gate_callee (f := 14) rfl ?_); refine goesL_ (some 28) rfl rfl Try.func14 (by kernel_rfl) rfl #[.slice A0 l0.length c0, .agg #[.string a1_0, .string a1_1]] rfl (by (try simp only [List.map_toArray, List.map_cons, List.map_nil]); first | done | rfl | (simp only [List.length_drop, List.length_take]; rfl)) ?_; (with_reducible refine (attr_Set.calls k _ _ l0 a1_0 a1_1 t543 t546 _ ?side1 ?side2 A6.out).mono ?_); (case side1 => repeat (first | exact (Kd.C_below HR0.out HB.out) | (with_reducible refine Kd.C_alloc ?_ _) | (with_reducible refine Kd.C_drewN ?_ _) | (with_reducible refine Kd.C_drew ?_))); (case side2 => exact HC0.out); rintro e w13 ⟨v544, rfl, ho0, hb⟩; refine ⟨_, rfl, ?_⟩; have n0_ := Aside0.mk (Kd.R_lower (Kd.R_newB ho0 (g := gb541) (o := .cells #[.string a1_0, .string a1_1] 26 (0, 0)) (by (with_reducible repeat (first | refine blk_drewN ?_ _ | refine blk_drew ?_ | refine blk_alloc ?_ _)); exact BK541.out)) (below_size (by repeat (first | (with_reducible first | exact HB.out | apply below_alloc | apply pw_below_drewN | apply below_drew1 | refine below_set ?_ GE541.out) | exact HB.out)))); have n1_ := Aside0.mk (blk_below (g := gb541) (o := .cells #[.string a1_0, .string a1_1] 26 (0, 0)) (by (with_reducible repeat (first | refine blk_drewN ?_ _ | refine blk_drew ?_ | refine blk_alloc ?_ _)); exact BK541.out) hb); have n2_ := Aside0.mk (below_step (by repeat (first | (with_reducible first | exact HB.out | apply below_alloc | apply pw_below_drewN | apply below_drew1 | refine below_set ?_ GE541.out) | exact HB.out)) hb); clear BK541; clear HB; have HO545 := n0_; have BK541 := n1_; have HB := n2_; clear n0_ n1_ n2_; (try clear hb); (try clear hb2); (try clear hk); (try clear hi); (try clear ho0); have hcz14_0 : w13.cell? ⟨gb541, 0, none⟩ = some (.string a1_0) := (blk_cell BK541.out 0).trans rfl; have hcz14_1 : w13.cell? ⟨gb541, 1, none⟩ = some (.string a1_1) := (blk_cell BK541.out 1).trans rfl; have hfz14_0 := blk_frozen BK541.out 0; have hfz14_1 := blk_frozen BK541.out 1; obtain ⟨Ao15, co15, eo15⟩ := Kd.R_slice HO545.out; subst eo15) | ((with_reducible refine gate_callee (f := 19) rfl ?_); refine goesL_ (some 40) rfl rfl Try.func19 (by kernel_rfl) rfl #[.slice Ao15 t543.length co15, .string a1_0] rfl (by (try simp only [List.map_toArray, List.map_cons, List.map_nil]); first | done | rfl | (simp only [List.length_drop, List.length_take]; rfl)) ?_; (with_reducible refine (attr_Get.calls k _ _ t543 a1_0 t547 t548 _ ?side1 ?side2 A8.out).mono ?_); (case side1 => repeat (first | exact (Kd.R_reads' HO545.out).2.2 | (with_reducible refine Kd.C_alloc ?_ _) | (with_reducible refine Kd.C_drewN ?_ _) | (with_reducible refine Kd.C_drew ?_))); (case side2 => exact (Kd.R_reads' HO545.out).2.1); rintro e w16 ⟨rfl, hb⟩; refine ⟨_, rfl, ?_⟩; have n0_ := Aside0.mk (Kd.R_below (by (with_reducible repeat (first | apply Kd.R_alloc | apply Kd.R_drewN | apply Kd.R_drew)); exact HO545.out) hb); have n1_ := Aside0.mk (blk_below (g := gb541) (o := .cells #[.string a1_0, .string a1_1] 26 (0, 0)) (by (with_reducible repeat (first | refine blk_drewN ?_ _ | refine blk_drew ?_ | refine blk_alloc ?_ _)); exact BK541.out) hb); have n2_ := Aside0.mk (below_step (by repeat (first | (with_reducible first | exact HB.out | apply below_alloc | apply pw_below_drewN | apply below_drew1 | refine below_set ?_ GE541.out) | exact HB.out)) hb); clear HO545; clear BK541; clear HB; have HO545 := n0_; have BK541 := n1_; have HB := n2_; clear n0_ n1_ n2_; (try clear hb); (try clear hb2); (try clear hk); (try clear hi)))
      (try simp only [Act.put, List.setIfInBounds_toArray, List.set_cons_zero, List.set_cons_succ])
      go_cut [50] (fun v50 wc => ∃ (kq : Nat) (x50_8 : Bool), v50 = .bool x50_8 ∧ Aside0 (undercroftlaw13_AttrGets.j0 kq l0 a2 t543 x50_8 a1_0 a1_1 = some r) ∧ Aside0 (kq ≤ k) ∧ Aside0 (Kd.R k26 26 wc w.heap.size (fun k_ => k_ ≠ gb541) (.slice Ao15 t543.length co15) t543) ∧ Aside0 (wc.heap[gb541]? = some (.cells #[.string a1_0, .string a1_1] 26 (0, 0))) ∧ Aside0 (Below w.heap.size w wc))
      case first =>
        have H := HC9.out
        clear HC9
        by_cases c17 : t548 = 0
        · rw [if_pos c17] at H
          have c17b0 : (t548 == 0) = true := beq_iff_eq.mpr c17
          have c17b1 : (t548 != 0) = false := bne_eq_false_iff_eq.mpr c17
          clear c17
          (first | rw [c17b0] | (simp only [i64_w, i32_w]; rw [c17b0]) | skip)
          have H' := Aside0.mk H
          clear H
          have hcz18_0 : w16.cell? ⟨gb541, 0, none⟩ = some (.string a1_0) := (blk_cell BK541.out 0).trans rfl
          have hcz18_1 : w16.cell? ⟨gb541, 1, none⟩ = some (.string a1_1) := (blk_cell BK541.out 1).trans rfl
          have hfz18_0 := blk_frozen BK541.out 0
          have hfz18_1 := blk_frozen BK541.out 1
          go_wp2
          go_meet
          case rel => exact ⟨_, ((t547.toList != a1_1.toList)), (by first | rfl | (simp; done) | (simp [*]; done)), H', ⟨by first | omega | exact Nat.le_refl _⟩, ⟨by (with_reducible repeat (first | apply Kd.R_alloc | apply Kd.R_drewN | apply Kd.R_drew)); exact Kd.R_mono HO545.out (fun _ hk => hk.2)⟩, ⟨by (with_reducible repeat (first | refine blk_drewN ?_ _ | refine blk_drew ?_ | refine blk_alloc ?_ _)); exact BK541.out⟩, ⟨by repeat (first | (with_reducible first | exact HB.out | apply below_alloc | apply pw_below_drewN | apply below_drew1 | refine below_set ?_ GE541.out) | exact HB.out)⟩⟩
        · rw [if_neg c17] at H
          have c17b0 : (t548 == 0) = false := beq_eq_false_iff_ne.mpr c17
          have c17b1 : (t548 != 0) = true := bne_iff_ne.mpr c17
          (first | rw [c17b0] | (simp only [i64_w, i32_w]; rw [c17b0]) | skip)
          have H' := Aside0.mk H
          clear H
          go_wp2
          go_meet
          case rel => exact ⟨_, (true), (by first | rfl | (simp; done) | (simp [*]; done)), H', ⟨by first | omega | exact Nat.le_refl _⟩, ⟨by (with_reducible repeat (first | apply Kd.R_alloc | apply Kd.R_drewN | apply Kd.R_drew)); exact Kd.R_mono HO545.out (fun _ hk => hk.2)⟩, ⟨by (with_reducible repeat (first | refine blk_drewN ?_ _ | refine blk_drew ?_ | refine blk_alloc ?_ _)); exact BK541.out⟩, ⟨by repeat (first | (with_reducible first | exact HB.out | apply below_alloc | apply pw_below_drewN | apply below_drew1 | refine below_set ?_ GE541.out) | exact HB.out)⟩⟩
      case rest =>
        clear HC9
        try clear c1
        try clear p2
        try clear c5
        try clear c7
        try clear c7b0
        try clear c7b1
        try clear c13
        try clear c14
        try clear c17
        try clear c17b0
        try clear c17b1
        try clear hcz12_0
        try clear hcz12_1
        try clear hcz14_0
        try clear hcz14_1
        try clear hcz18_0
        try clear hcz18_1
        try clear hfz12_0
        try clear hfz12_1
        try clear hfz14_0
        try clear hfz14_1
        try clear hfz18_0
        try clear hfz18_1
        obtain ⟨kq, x50_8, rfl, HA, HJ8, HO_7, BK541, HB⟩ := hcut
        cases kq with
        | zero => exact absurd HA.out (by intro h_; cases h_)
        | succ kj8 =>
          have H := HA.out
          clear HA
          simp only [undercroftlaw13_AttrGets.j0] at H
          by_cases c19 : x50_8 = true
          · subst c19
            have H1 : (some false) = some r := by rw [if_pos rfl] at H; exact H
            clear H
            have H := H1
            clear H1
            obtain rfl := Option.some.inj H
            go_wp2
            go_ret
            exact ⟨by first | rfl | (simp [errW_none, errW_some] <;> rfl) | (simp [*, errW_none, errW_some] <;> rfl), by repeat (first | (with_reducible first | exact HB.out | apply below_alloc | apply pw_below_drewN | apply below_drew1 | refine below_set ?_ GE541.out) | exact HB.out)⟩
          · replace c19 := Bool.eq_false_iff.mpr c19
            subst c19
            have H1 : (if a2.toList = a1_0.toList then (undercroftlaw13_AttrGets.j1 kj8 t543 a1_0 a1_1) else ((attr_Get.f kj8 l0 a2).bind fun bt549 => ((attr_Get.f kj8 t543 a2).bind fun bt551 => (if bt549.1.toList = bt551.1.toList then (if bt549.2 = bt551.2 then (undercroftlaw13_AttrGets.j1 kj8 t543 a1_0 a1_1) else (some false)) else (some false))))) = some r := by rw [if_neg (show ¬ (false = true) by decide)] at H; exact H
            clear H
            have H := H1
            clear H1
            have HC20 := Aside0.mk H
            clear H
            have hcz21_0 : wc.cell? ⟨gb541, 0, none⟩ = some (.string a1_0) := (blk_cell BK541.out 0).trans rfl
            have hcz21_1 : wc.cell? ⟨gb541, 1, none⟩ = some (.string a1_1) := (blk_cell BK541.out 1).trans rfl
            have hfz21_0 := blk_frozen BK541.out 0
            have hfz21_1 := blk_frozen BK541.out 1
            go_upto_if 54 with (fail)
            go_cut [] (fun wc => ∃ (kq : Nat), Aside0 (undercroftlaw13_AttrGets.j1 kq t543 a1_0 a1_1 = some r) ∧ Aside0 (kq ≤ kj8) ∧ Aside0 (Kd.R k26 26 wc w.heap.size (fun k_ => k_ ≠ gb541) (.slice Ao15 t543.length co15) t543) ∧ Aside0 (wc.heap[gb541]? = some (.cells #[.string a1_0, .string a1_1] 26 (0, 0))) ∧ Aside0 (Below w.heap.size w wc))
            case first =>
              have H := HC20.out
              clear HC20
              by_cases c22 : a2.toList = a1_0.toList
              · rw [if_pos c22] at H
                have c22b0 : (a2.toList == a1_0.toList) = true := beq_iff_eq.mpr c22
                have c22b1 : (a2.toList != a1_0.toList) = false := bne_eq_false_iff_eq.mpr c22
                clear c22
                (first | rw [c22b0] | (simp only [i64_w, i32_w]; rw [c22b0]) | skip)
                have H' := Aside0.mk H
                clear H
                go_wp2
                go_meet
                case rel => exact ⟨_, H', ⟨by have := HJ8.out; first | omega | exact Nat.le_refl _⟩, ⟨by (with_reducible repeat (first | apply Kd.R_alloc | apply Kd.R_drewN | apply Kd.R_drew)); exact HO_7.out⟩, ⟨by (with_reducible repeat (first | refine blk_drewN ?_ _ | refine blk_drew ?_ | refine blk_alloc ?_ _)); exact BK541.out⟩, ⟨by repeat (first | (with_reducible first | exact HB.out | apply below_alloc | apply pw_below_drewN | apply below_drew1 | refine below_set ?_ GE541.out) | exact HB.out)⟩⟩
              · rw [if_neg c22] at H
                have c22b0 : (a2.toList == a1_0.toList) = false := beq_eq_false_iff_ne.mpr c22
                have c22b1 : (a2.toList != a1_0.toList) = true := bne_iff_ne.mpr c22
                (first | rw [c22b0] | (simp only [i64_w, i32_w]; rw [c22b0]) | skip)
                replace H := Option.bind_eq_some_iff.mp H
                obtain ⟨⟨t549, t550⟩, A230, H⟩ := H
                replace H : ((attr_Get.f kj8 t543 a2).bind fun bt551 => (if t549.toList = bt551.1.toList then (if t550 = bt551.2 then (undercroftlaw13_AttrGets.j1 kj8 t543 a1_0 a1_1) else (some false)) else (some false))) = some r := H
                have A23 := Aside0.mk A230
                clear A230
                replace H := Option.bind_eq_some_iff.mp H
                obtain ⟨⟨t551, t552⟩, A240, H⟩ := H
                replace H : (if t549.toList = t551.toList then (if t550 = t552 then (undercroftlaw13_AttrGets.j1 kj8 t543 a1_0 a1_1) else (some false)) else (some false)) = some r := H
                have A24 := Aside0.mk A240
                clear A240
                by_cases c25 : t549.toList = t551.toList
                · rw [if_pos c25] at H
                  have c25b0 : (t549.toList == t551.toList) = true := beq_iff_eq.mpr c25
                  have c25b1 : (t549.toList != t551.toList) = false := bne_eq_false_iff_eq.mpr c25
                  clear c25
                  by_cases c26 : t550 = t552
                  · rw [if_pos c26] at H
                    have c26b0 : (t550 == t552) = true := beq_iff_eq.mpr c26
                    have c26b1 : (t550 != t552) = false := bne_eq_false_iff_eq.mpr c26
                    clear c26
                    have H' := Aside0.mk H
                    clear H
                    go_wp2_with (first | ((with_reducible refine gate_callee (f := 19) rfl ?_); refine goesL_ (some 58) rfl rfl Try.func19 (by kernel_rfl) rfl #[.slice A0 l0.length c0, .string a2] rfl (by (try simp only [List.map_toArray, List.map_cons, List.map_nil]); first | done | rfl | (simp only [List.length_drop, List.length_take]; rfl)) ?_; (with_reducible refine (attr_Get.calls kj8 _ _ l0 a2 t549 t550 _ ?side1 ?side2 A23.out).mono ?_); (case side1 => repeat (first | exact (Kd.C_below HR0.out HB.out) | (with_reducible refine Kd.C_alloc ?_ _) | (with_reducible refine Kd.C_drewN ?_ _) | (with_reducible refine Kd.C_drew ?_))); (case side2 => exact HC0.out); rintro e w27 ⟨rfl, hb⟩; refine ⟨_, rfl, ?_⟩; have n0_ := Aside0.mk (Kd.R_below (by (with_reducible repeat (first | apply Kd.R_alloc | apply Kd.R_drewN | apply Kd.R_drew)); exact HO_7.out) hb); have n1_ := Aside0.mk (blk_below (g := gb541) (o := .cells #[.string a1_0, .string a1_1] 26 (0, 0)) (by (with_reducible repeat (first | refine blk_drewN ?_ _ | refine blk_drew ?_ | refine blk_alloc ?_ _)); exact BK541.out) hb); have n2_ := Aside0.mk (below_step (by repeat (first | (with_reducible first | exact HB.out | apply below_alloc | apply pw_below_drewN | apply below_drew1 | refine below_set ?_ GE541.out) | exact HB.out)) hb); clear HO_7; clear BK541; clear HB; have HO_7 := n0_; have BK541 := n1_; have HB := n2_; clear n0_ n1_ n2_; (try clear hb); (try clear hb2); (try clear hk); (try clear hi)) | ((with_reducible refine gate_callee (f := 19) rfl ?_); refine goesL_ (some 64) rfl rfl Try.func19 (by kernel_rfl) rfl #[.slice Ao15 t543.length co15, .string a2] rfl (by (try simp only [List.map_toArray, List.map_cons, List.map_nil]); first | done | rfl | (simp only [List.length_drop, List.length_take]; rfl)) ?_; (with_reducible refine (attr_Get.calls kj8 _ _ t543 a2 t551 t552 _ ?side1 ?side2 A24.out).mono ?_); (case side1 => repeat (first | exact (Kd.R_reads' HO_7.out).2.2 | (with_reducible refine Kd.C_alloc ?_ _) | (with_reducible refine Kd.C_drewN ?_ _) | (with_reducible refine Kd.C_drew ?_))); (case side2 => exact (Kd.R_reads' HO_7.out).2.1); rintro e w28 ⟨rfl, hb⟩; refine ⟨_, rfl, ?_⟩; have n0_ := Aside0.mk (Kd.R_below (by (with_reducible repeat (first | apply Kd.R_alloc | apply Kd.R_drewN | apply Kd.R_drew)); exact HO_7.out) hb); have n1_ := Aside0.mk (blk_below (g := gb541) (o := .cells #[.string a1_0, .string a1_1] 26 (0, 0)) (by (with_reducible repeat (first | refine blk_drewN ?_ _ | refine blk_drew ?_ | refine blk_alloc ?_ _)); exact BK541.out) hb); have n2_ := Aside0.mk (below_step (by repeat (first | (with_reducible first | exact HB.out | apply below_alloc | apply pw_below_drewN | apply below_drew1 | refine below_set ?_ GE541.out) | exact HB.out)) hb); clear HO_7; clear BK541; clear HB; have HO_7 := n0_; have BK541 := n1_; have HB := n2_; clear n0_ n1_ n2_; (try clear hb); (try clear hb2); (try clear hk); (try clear hi)))
                    go_meet
                    case rel => exact ⟨_, H', ⟨by have := HJ8.out; first | omega | exact Nat.le_refl _⟩, ⟨by (with_reducible repeat (first | apply Kd.R_alloc | apply Kd.R_drewN | apply Kd.R_drew)); exact HO_7.out⟩, ⟨by (with_reducible repeat (first | refine blk_drewN ?_ _ | refine blk_drew ?_ | refine blk_alloc ?_ _)); exact BK541.out⟩, ⟨by repeat (first | (with_reducible first | exact HB.out | apply below_alloc | apply pw_below_drewN | apply below_drew1 | refine below_set ?_ GE541.out) | exact HB.out)⟩⟩
                  · rw [if_neg c26] at H
                    have c26b0 : (t550 == t552) = false := beq_eq_false_iff_ne.mpr c26
                    have c26b1 : (t550 != t552) = true := bne_iff_ne.mpr c26
                    obtain rfl := Option.some.inj H
                    go_wp2_with (first | ((with_reducible refine gate_callee (f := 19) rfl ?_); refine goesL_ (some 58) rfl rfl Try.func19 (by kernel_rfl) rfl #[.slice A0 l0.length c0, .string a2] rfl (by (try simp only [List.map_toArray, List.map_cons, List.map_nil]); first | done | rfl | (simp only [List.length_drop, List.length_take]; rfl)) ?_; (with_reducible refine (attr_Get.calls kj8 _ _ l0 a2 t549 t550 _ ?side1 ?side2 A23.out).mono ?_); (case side1 => repeat (first | exact (Kd.C_below HR0.out HB.out) | (with_reducible refine Kd.C_alloc ?_ _) | (with_reducible refine Kd.C_drewN ?_ _) | (with_reducible refine Kd.C_drew ?_))); (case side2 => exact HC0.out); rintro e w29 ⟨rfl, hb⟩; refine ⟨_, rfl, ?_⟩; have n0_ := Aside0.mk (Kd.R_below (by (with_reducible repeat (first | apply Kd.R_alloc | apply Kd.R_drewN | apply Kd.R_drew)); exact HO_7.out) hb); have n1_ := Aside0.mk (blk_below (g := gb541) (o := .cells #[.string a1_0, .string a1_1] 26 (0, 0)) (by (with_reducible repeat (first | refine blk_drewN ?_ _ | refine blk_drew ?_ | refine blk_alloc ?_ _)); exact BK541.out) hb); have n2_ := Aside0.mk (below_step (by repeat (first | (with_reducible first | exact HB.out | apply below_alloc | apply pw_below_drewN | apply below_drew1 | refine below_set ?_ GE541.out) | exact HB.out)) hb); clear HO_7; clear BK541; clear HB; have HO_7 := n0_; have BK541 := n1_; have HB := n2_; clear n0_ n1_ n2_; (try clear hb); (try clear hb2); (try clear hk); (try clear hi)) | ((with_reducible refine gate_callee (f := 19) rfl ?_); refine goesL_ (some 64) rfl rfl Try.func19 (by kernel_rfl) rfl #[.slice Ao15 t543.length co15, .string a2] rfl (by (try simp only [List.map_toArray, List.map_cons, List.map_nil]); first | done | rfl | (simp only [List.length_drop, List.length_take]; rfl)) ?_; (with_reducible refine (attr_Get.calls kj8 _ _ t543 a2 t551 t552 _ ?side1 ?side2 A24.out).mono ?_); (case side1 => repeat (first | exact (Kd.R_reads' HO_7.out).2.2 | (with_reducible refine Kd.C_alloc ?_ _) | (with_reducible refine Kd.C_drewN ?_ _) | (with_reducible refine Kd.C_drew ?_))); (case side2 => exact (Kd.R_reads' HO_7.out).2.1); rintro e w30 ⟨rfl, hb⟩; refine ⟨_, rfl, ?_⟩; have n0_ := Aside0.mk (Kd.R_below (by (with_reducible repeat (first | apply Kd.R_alloc | apply Kd.R_drewN | apply Kd.R_drew)); exact HO_7.out) hb); have n1_ := Aside0.mk (blk_below (g := gb541) (o := .cells #[.string a1_0, .string a1_1] 26 (0, 0)) (by (with_reducible repeat (first | refine blk_drewN ?_ _ | refine blk_drew ?_ | refine blk_alloc ?_ _)); exact BK541.out) hb); have n2_ := Aside0.mk (below_step (by repeat (first | (with_reducible first | exact HB.out | apply below_alloc | apply pw_below_drewN | apply below_drew1 | refine below_set ?_ GE541.out) | exact HB.out)) hb); clear HO_7; clear BK541; clear HB; have HO_7 := n0_; have BK541 := n1_; have HB := n2_; clear n0_ n1_ n2_; (try clear hb); (try clear hb2); (try clear hk); (try clear hi)))
                    go_ret
                    exact ⟨by first | rfl | (simp [errW_none, errW_some] <;> rfl) | (simp [*, errW_none, errW_some] <;> rfl), by repeat (first | (with_reducible first | exact HB.out | apply below_alloc | apply pw_below_drewN | apply below_drew1 | refine below_set ?_ GE541.out) | exact HB.out)⟩
                · rw [if_neg c25] at H
                  have c25b0 : (t549.toList == t551.toList) = false := beq_eq_false_iff_ne.mpr c25
                  have c25b1 : (t549.toList != t551.toList) = true := bne_iff_ne.mpr c25
                  obtain rfl := Option.some.inj H
                  go_wp2_with (first | ((with_reducible refine gate_callee (f := 19) rfl ?_); refine goesL_ (some 58) rfl rfl Try.func19 (by kernel_rfl) rfl #[.slice A0 l0.length c0, .string a2] rfl (by (try simp only [List.map_toArray, List.map_cons, List.map_nil]); first | done | rfl | (simp only [List.length_drop, List.length_take]; rfl)) ?_; (with_reducible refine (attr_Get.calls kj8 _ _ l0 a2 t549 t550 _ ?side1 ?side2 A23.out).mono ?_); (case side1 => repeat (first | exact (Kd.C_below HR0.out HB.out) | (with_reducible refine Kd.C_alloc ?_ _) | (with_reducible refine Kd.C_drewN ?_ _) | (with_reducible refine Kd.C_drew ?_))); (case side2 => exact HC0.out); rintro e w31 ⟨rfl, hb⟩; refine ⟨_, rfl, ?_⟩; have n0_ := Aside0.mk (Kd.R_below (by (with_reducible repeat (first | apply Kd.R_alloc | apply Kd.R_drewN | apply Kd.R_drew)); exact HO_7.out) hb); have n1_ := Aside0.mk (blk_below (g := gb541) (o := .cells #[.string a1_0, .string a1_1] 26 (0, 0)) (by (with_reducible repeat (first | refine blk_drewN ?_ _ | refine blk_drew ?_ | refine blk_alloc ?_ _)); exact BK541.out) hb); have n2_ := Aside0.mk (below_step (by repeat (first | (with_reducible first | exact HB.out | apply below_alloc | apply pw_below_drewN | apply below_drew1 | refine below_set ?_ GE541.out) | exact HB.out)) hb); clear HO_7; clear BK541; clear HB; have HO_7 := n0_; have BK541 := n1_; have HB := n2_; clear n0_ n1_ n2_; (try clear hb); (try clear hb2); (try clear hk); (try clear hi)) | ((with_reducible refine gate_callee (f := 19) rfl ?_); refine goesL_ (some 64) rfl rfl Try.func19 (by kernel_rfl) rfl #[.slice Ao15 t543.length co15, .string a2] rfl (by (try simp only [List.map_toArray, List.map_cons, List.map_nil]); first | done | rfl | (simp only [List.length_drop, List.length_take]; rfl)) ?_; (with_reducible refine (attr_Get.calls kj8 _ _ t543 a2 t551 t552 _ ?side1 ?side2 A24.out).mono ?_); (case side1 => repeat (first | exact (Kd.R_reads' HO_7.out).2.2 | (with_reducible refine Kd.C_alloc ?_ _) | (with_reducible refine Kd.C_drewN ?_ _) | (with_reducible refine Kd.C_drew ?_))); (case side2 => exact (Kd.R_reads' HO_7.out).2.1); rintro e w32 ⟨rfl, hb⟩; refine ⟨_, rfl, ?_⟩; have n0_ := Aside0.mk (Kd.R_below (by (with_reducible repeat (first | apply Kd.R_alloc | apply Kd.R_drewN | apply Kd.R_drew)); exact HO_7.out) hb); have n1_ := Aside0.mk (blk_below (g := gb541) (o := .cells #[.string a1_0, .string a1_1] 26 (0, 0)) (by (with_reducible repeat (first | refine blk_drewN ?_ _ | refine blk_drew ?_ | refine blk_alloc ?_ _)); exact BK541.out) hb); have n2_ := Aside0.mk (below_step (by repeat (first | (with_reducible first | exact HB.out | apply below_alloc | apply pw_below_drewN | apply below_drew1 | refine below_set ?_ GE541.out) | exact HB.out)) hb); clear HO_7; clear BK541; clear HB; have HO_7 := n0_; have BK541 := n1_; have HB := n2_; clear n0_ n1_ n2_; (try clear hb); (try clear hb2); (try clear hk); (try clear hi)))
                  go_ret
                  exact ⟨by first | rfl | (simp [errW_none, errW_some] <;> rfl) | (simp [*, errW_none, errW_some] <;> rfl), by repeat (first | (with_reducible first | exact HB.out | apply below_alloc | apply pw_below_drewN | apply below_drew1 | refine below_set ?_ GE541.out) | exact HB.out)⟩
            case rest =>
              clear HC20
              try clear c1
              try clear c2
              try clear p2
              try clear c5
              try clear c7
              try clear c7b0
              try clear c7b1
              try clear c13
              try clear c14
              try clear c17
              try clear c17b0
              try clear c17b1
              try clear c19
              try clear c22
              try clear c22b0
              try clear c22b1
              try clear c25
              try clear c25b0
              try clear c25b1
              try clear c26
              try clear c26b0
              try clear c26b1
              try clear hcz12_0
              try clear hcz12_1
              try clear hcz14_0
              try clear hcz14_1
              try clear hcz18_0
              try clear hcz18_1
              try clear hcz21_0
              try clear hcz21_1
              try clear hfz12_0
              try clear hfz12_1
              try clear hfz14_0
              try clear hfz14_1
              try clear hfz18_0
              try clear hfz18_1
              try clear hfz21_0
              try clear hfz21_1
              try clear p2
              obtain ⟨kq, HA, HJ19, HO_7, BK541, HB⟩ := hcut
              cases kq with
              | zero => exact absurd HA.out (by intro h_; cases h_)
              | succ kj19 =>
                have H := HA.out
                clear HA
                simp only [undercroftlaw13_AttrGets.j1] at H
                replace H := Option.bind_eq_some_iff.mp H
                obtain ⟨⟨t553, t554⟩, A330, H⟩ := H
                replace H : ((attr_Get.f kj19 t553 a1_0).bind fun bt557 => ((attr_Drop.f kj19 t553 a1_0).bind fun bt559 => ((attr_Encode.f kj19 t543).bind fun bt563 => (if t554 = 0 then (if bt557.2 = 15 then (if bt559.2 = 15 then (some (bt563.2 == 0)) else (some false)) else (some false)) else (some false))))) = some r := H
                have A33 := Aside0.mk A330
                clear A330
                replace H := Option.bind_eq_some_iff.mp H
                obtain ⟨⟨t557, t558⟩, A340, H⟩ := H
                replace H : ((attr_Drop.f kj19 t553 a1_0).bind fun bt559 => ((attr_Encode.f kj19 t543).bind fun bt563 => (if t554 = 0 then (if t558 = 15 then (if bt559.2 = 15 then (some (bt563.2 == 0)) else (some false)) else (some false)) else (some false)))) = some r := H
                have A34 := Aside0.mk A340
                clear A340
                replace H := Option.bind_eq_some_iff.mp H
                obtain ⟨⟨t559, t560⟩, A350, H⟩ := H
                replace H : ((attr_Encode.f kj19 t543).bind fun bt563 => (if t554 = 0 then (if t558 = 15 then (if t560 = 15 then (some (bt563.2 == 0)) else (some false)) else (some false)) else (some false))) = some r := H
                have A35 := Aside0.mk A350
                clear A350
                replace H := Option.bind_eq_some_iff.mp H
                obtain ⟨⟨t563, t564⟩, A360, H⟩ := H
                replace H : (if t554 = 0 then (if t558 = 15 then (if t560 = 15 then (some (t564 == 0)) else (some false)) else (some false)) else (some false)) = some r := H
                have A36 := Aside0.mk A360
                clear A360
                by_cases c37 : t554 = 0
                · rw [if_pos c37] at H
                  have c37b0 : (t554 == 0) = true := beq_iff_eq.mpr c37
                  have c37b1 : (t554 != 0) = false := bne_eq_false_iff_eq.mpr c37
                  clear c37
                  by_cases c38 : t558 = 15
                  · rw [if_pos c38] at H
                    have c38b0 : (t558 == 15) = true := beq_iff_eq.mpr c38
                    have c38b1 : (t558 != 15) = false := bne_eq_false_iff_eq.mpr c38
                    clear c38
                    by_cases c39 : t560 = 15
                    · rw [if_pos c39] at H
                      have c39b0 : (t560 == 15) = true := beq_iff_eq.mpr c39
                      have c39b1 : (t560 != 15) = false := bne_eq_false_iff_eq.mpr c39
                      clear c39
                      obtain rfl := Option.some.inj H
                      have hcz40_0 : wc.cell? ⟨gb541, 0, none⟩ = some (.string a1_0) := (blk_cell BK541.out 0).trans rfl
                      have hcz40_1 : wc.cell? ⟨gb541, 1, none⟩ = some (.string a1_1) := (blk_cell BK541.out 1).trans rfl
                      have hfz40_0 := blk_frozen BK541.out 0
                      have hfz40_1 := blk_frozen BK541.out 1
                      go_wp2_with (first | ((with_reducible refine gate_callee (f := 17) rfl ?_); refine goesL_ (some 79) rfl rfl Try.func17 (by kernel_rfl) rfl #[.slice Ao15 t543.length co15, .string a1_0] rfl (by (try simp only [List.map_toArray, List.map_cons, List.map_nil]); first | done | rfl | (simp only [List.length_drop, List.length_take]; rfl)) ?_; (with_reducible refine (attr_Drop.calls kj19 _ _ t543 a1_0 t553 t554 _ ?side1 ?side2 A33.out).mono ?_); (case side1 => repeat (first | exact (Kd.R_reads' HO_7.out).2.2 | (with_reducible refine Kd.C_alloc ?_ _) | (with_reducible refine Kd.C_drewN ?_ _) | (with_reducible refine Kd.C_drew ?_))); (case side2 => exact (Kd.R_reads' HO_7.out).2.1); rintro e w41 ⟨v555, rfl, ho0, hb⟩; refine ⟨_, rfl, ?_⟩; have n0_ := Aside0.mk (Kd.R_elder' (by (with_reducible repeat (first | apply Kd.R_alloc | apply Kd.R_drewN | apply Kd.R_drew)); exact HO_7.out) (Kd.R_base ho0) hb); have n1_ := Aside0.mk (Kd.R_lower (Kd.R_newB (Kd.R_new' ho0 (Kd.R_lt (by (with_reducible repeat (first | apply Kd.R_alloc | apply Kd.R_drewN | apply Kd.R_drew)); exact HO_7.out))) (g := gb541) (o := .cells #[.string a1_0, .string a1_1] 26 (0, 0)) (by (with_reducible repeat (first | refine blk_drewN ?_ _ | refine blk_drew ?_ | refine blk_alloc ?_ _)); exact BK541.out)) (below_size (by repeat (first | (with_reducible first | exact HB.out | apply below_alloc | apply pw_below_drewN | apply below_drew1 | refine below_set ?_ GE541.out) | exact HB.out)))); have n2_ := Aside0.mk (blk_below (g := gb541) (o := .cells #[.string a1_0, .string a1_1] 26 (0, 0)) (by (with_reducible repeat (first | refine blk_drewN ?_ _ | refine blk_drew ?_ | refine blk_alloc ?_ _)); exact BK541.out) hb); have n3_ := Aside0.mk (below_step (by repeat (first | (with_reducible first | exact HB.out | apply below_alloc | apply pw_below_drewN | apply below_drew1 | refine below_set ?_ GE541.out) | exact HB.out)) hb); clear HO_7; clear BK541; clear HB; have HO_7 := n0_; have HO556 := n1_; have BK541 := n2_; have HB := n3_; clear n0_ n1_ n2_ n3_; (try clear hb); (try clear hb2); (try clear hk); (try clear hi); (try clear ho0); have hcz42_0 : w41.cell? ⟨gb541, 0, none⟩ = some (.string a1_0) := (blk_cell BK541.out 0).trans rfl; have hcz42_1 : w41.cell? ⟨gb541, 1, none⟩ = some (.string a1_1) := (blk_cell BK541.out 1).trans rfl; have hfz42_0 := blk_frozen BK541.out 0; have hfz42_1 := blk_frozen BK541.out 1; obtain ⟨Ao43, co43, eo43⟩ := Kd.R_slice HO556.out; subst eo43) | ((with_reducible refine gate_callee (f := 19) rfl ?_); refine goesL_ (some 86) rfl rfl Try.func19 (by kernel_rfl) rfl #[.slice Ao43 t553.length co43, .string a1_0] rfl (by (try simp only [List.map_toArray, List.map_cons, List.map_nil]); first | done | rfl | (simp only [List.length_drop, List.length_take]; rfl)) ?_; (with_reducible refine (attr_Get.calls kj19 _ _ t553 a1_0 t557 t558 _ ?side1 ?side2 A34.out).mono ?_); (case side1 => repeat (first | exact (Kd.R_reads' HO556.out).2.2 | (with_reducible refine Kd.C_alloc ?_ _) | (with_reducible refine Kd.C_drewN ?_ _) | (with_reducible refine Kd.C_drew ?_))); (case side2 => exact (Kd.R_reads' HO556.out).2.1); rintro e w44 ⟨rfl, hb⟩; refine ⟨_, rfl, ?_⟩; have n0_ := Aside0.mk (Kd.R_below (by (with_reducible repeat (first | apply Kd.R_alloc | apply Kd.R_drewN | apply Kd.R_drew)); exact HO_7.out) hb); have n1_ := Aside0.mk (Kd.R_below (by (with_reducible repeat (first | apply Kd.R_alloc | apply Kd.R_drewN | apply Kd.R_drew)); exact HO556.out) hb); have n2_ := Aside0.mk (blk_below (g := gb541) (o := .cells #[.string a1_0, .string a1_1] 26 (0, 0)) (by (with_reducible repeat (first | refine blk_drewN ?_ _ | refine blk_drew ?_ | refine blk_alloc ?_ _)); exact BK541.out) hb); have n3_ := Aside0.mk (below_step (by repeat (first | (with_reducible first | exact HB.out | apply below_alloc | apply pw_below_drewN | apply below_drew1 | refine below_set ?_ GE541.out) | exact HB.out)) hb); clear HO_7; clear HO556; clear BK541; clear HB; have HO_7 := n0_; have HO556 := n1_; have BK541 := n2_; have HB := n3_; clear n0_ n1_ n2_ n3_; (try clear hb); (try clear hb2); (try clear hk); (try clear hi); have hcz45_0 : w44.cell? ⟨gb541, 0, none⟩ = some (.string a1_0) := (blk_cell BK541.out 0).trans rfl; have hcz45_1 : w44.cell? ⟨gb541, 1, none⟩ = some (.string a1_1) := (blk_cell BK541.out 1).trans rfl; have hfz45_0 := blk_frozen BK541.out 0; have hfz45_1 := blk_frozen BK541.out 1) | ((with_reducible refine gate_callee (f := 17) rfl ?_); refine goesL_ (some 93) rfl rfl Try.func17 (by kernel_rfl) rfl #[.slice Ao43 t553.length co43, .string a1_0] rfl (by (try simp only [List.map_toArray, List.map_cons, List.map_nil]); first | done | rfl | (simp only [List.length_drop, List.length_take]; rfl)) ?_; (with_reducible refine (attr_Drop.calls kj19 _ _ t553 a1_0 t559 t560 _ ?side1 ?side2 A35.out).mono ?_); (case side1 => repeat (first | exact (Kd.R_reads' HO556.out).2.2 | (with_reducible refine Kd.C_alloc ?_ _) | (with_reducible refine Kd.C_drewN ?_ _) | (with_reducible refine Kd.C_drew ?_))); (case side2 => exact (Kd.R_reads' HO556.out).2.1); rintro e w46 ⟨v561, rfl, ho0, hb⟩; refine ⟨_, rfl, ?_⟩; have n0_ := Aside0.mk (Kd.R_elder' (by (with_reducible repeat (first | apply Kd.R_alloc | apply Kd.R_drewN | apply Kd.R_drew)); exact HO_7.out) (Kd.R_base ho0) hb); have n1_ := Aside0.mk (Kd.R_elder' (by (with_reducible repeat (first | apply Kd.R_alloc | apply Kd.R_drewN | apply Kd.R_drew)); exact HO556.out) (Kd.R_base ho0) hb); have n2_ := Aside0.mk (Kd.R_lower (Kd.R_newB (Kd.R_new' (Kd.R_new' ho0 (Kd.R_lt (by (with_reducible repeat (first | apply Kd.R_alloc | apply Kd.R_drewN | apply Kd.R_drew)); exact HO_7.out))) (Kd.R_lt (by (with_reducible repeat (first | apply Kd.R_alloc | apply Kd.R_drewN | apply Kd.R_drew)); exact HO556.out))) (g := gb541) (o := .cells #[.string a1_0, .string a1_1] 26 (0, 0)) (by (with_reducible repeat (first | refine blk_drewN ?_ _ | refine blk_drew ?_ | refine blk_alloc ?_ _)); exact BK541.out)) (below_size (by repeat (first | (with_reducible first | exact HB.out | apply below_alloc | apply pw_below_drewN | apply below_drew1 | refine below_set ?_ GE541.out) | exact HB.out)))); have n3_ := Aside0.mk (blk_below (g := gb541) (o := .cells #[.string a1_0, .string a1_1] 26 (0, 0)) (by (with_reducible repeat (first | refine blk_drewN ?_ _ | refine blk_drew ?_ | refine blk_alloc ?_ _)); exact BK541.out) hb); have n4_ := Aside0.mk (below_step (by repeat (first | (with_reducible first | exact HB.out | apply below_alloc | apply pw_below_drewN | apply below_drew1 | refine below_set ?_ GE541.out) | exact HB.out)) hb); clear HO_7; clear HO556; clear BK541; clear HB; have HO_7 := n0_; have HO556 := n1_; have HO562 := n2_; have BK541 := n3_; have HB := n4_; clear n0_ n1_ n2_ n3_ n4_; (try clear hb); (try clear hb2); (try clear hk); (try clear hi); (try clear ho0)) | ((with_reducible refine gate_callee (f := 21) rfl ?_); refine goesL_ (some 98) rfl rfl Try.func21 (by kernel_rfl) rfl #[.slice Ao15 t543.length co15] rfl (by (try simp only [List.map_toArray, List.map_cons, List.map_nil]); first | done | rfl | (simp only [List.length_drop, List.length_take]; rfl)) ?_; (with_reducible refine (attr_Encode.calls kj19 _ _ t543 t563 t564 _ ?side1 ?side2 A36.out).mono ?_); (case side1 => repeat (first | exact (Kd.R_reads' HO_7.out).2.2 | (with_reducible refine Kd.C_alloc ?_ _) | (with_reducible refine Kd.C_drewN ?_ _) | (with_reducible refine Kd.C_drew ?_))); (case side2 => exact (Kd.R_reads' HO_7.out).2.1); rintro e w47 ⟨v565, rfl, ho0, hb⟩; refine ⟨_, rfl, ?_⟩; have n0_ := Aside0.mk (Kd.R_below (by (with_reducible repeat (first | apply Kd.R_alloc | apply Kd.R_drewN | apply Kd.R_drew)); exact HO_7.out) hb); have n1_ := Aside0.mk (Kd.R_below (by (with_reducible repeat (first | apply Kd.R_alloc | apply Kd.R_drewN | apply Kd.R_drew)); exact HO556.out) hb); have n2_ := Aside0.mk (Kd.R_below (by (with_reducible repeat (first | apply Kd.R_alloc | apply Kd.R_drewN | apply Kd.R_drew)); exact HO562.out) hb); have n3_ := Aside0.mk (Kd.R_lower ho0 (below_size (by repeat (first | (with_reducible first | exact HB.out | apply below_alloc | apply pw_below_drewN | apply below_drew1 | refine below_set ?_ GE541.out) | exact HB.out)))); have n4_ := Aside0.mk (blk_below (g := gb541) (o := .cells #[.string a1_0, .string a1_1] 26 (0, 0)) (by (with_reducible repeat (first | refine blk_drewN ?_ _ | refine blk_drew ?_ | refine blk_alloc ?_ _)); exact BK541.out) hb); have n5_ := Aside0.mk (below_step (by repeat (first | (with_reducible first | exact HB.out | apply below_alloc | apply pw_below_drewN | apply below_drew1 | refine below_set ?_ GE541.out) | exact HB.out)) hb); clear HO_7; clear HO556; clear HO562; clear BK541; clear HB; have HO_7 := n0_; have HO556 := n1_; have HO562 := n2_; have HO566 := n3_; have BK541 := n4_; have HB := n5_; clear n0_ n1_ n2_ n3_ n4_ n5_; (try clear hb); (try clear hb2); (try clear hk); (try clear hi); (try clear ho0)))
                      go_ret
                      exact ⟨by first | rfl | (simp [errW_none, errW_some] <;> rfl) | (simp [*, errW_none, errW_some] <;> rfl), by repeat (first | (with_reducible first | exact HB.out | apply below_alloc | apply pw_below_drewN | apply below_drew1 | refine below_set ?_ GE541.out) | exact HB.out)⟩
                    · rw [if_neg c39] at H
                      have c39b0 : (t560 == 15) = false := beq_eq_false_iff_ne.mpr c39
                      have c39b1 : (t560 != 15) = true := bne_iff_ne.mpr c39
                      obtain rfl := Option.some.inj H
                      have hcz48_0 : wc.cell? ⟨gb541, 0, none⟩ = some (.string a1_0) := (blk_cell BK541.out 0).trans rfl
                      have hcz48_1 : wc.cell? ⟨gb541, 1, none⟩ = some (.string a1_1) := (blk_cell BK541.out 1).trans rfl
                      have hfz48_0 := blk_frozen BK541.out 0
                      have hfz48_1 := blk_frozen BK541.out 1
                      go_wp2_with (first | ((with_reducible refine gate_callee (f := 17) rfl ?_); refine goesL_ (some 79) rfl rfl Try.func17 (by kernel_rfl) rfl #[.slice Ao15 t543.length co15, .string a1_0] rfl (by (try simp only [List.map_toArray, List.map_cons, List.map_nil]); first | done | rfl | (simp only [List.length_drop, List.length_take]; rfl)) ?_; (with_reducible refine (attr_Drop.calls kj19 _ _ t543 a1_0 t553 t554 _ ?side1 ?side2 A33.out).mono ?_); (case side1 => repeat (first | exact (Kd.R_reads' HO_7.out).2.2 | (with_reducible refine Kd.C_alloc ?_ _) | (with_reducible refine Kd.C_drewN ?_ _) | (with_reducible refine Kd.C_drew ?_))); (case side2 => exact (Kd.R_reads' HO_7.out).2.1); rintro e w49 ⟨v555, rfl, ho0, hb⟩; refine ⟨_, rfl, ?_⟩; have n0_ := Aside0.mk (Kd.R_elder' (by (with_reducible repeat (first | apply Kd.R_alloc | apply Kd.R_drewN | apply Kd.R_drew)); exact HO_7.out) (Kd.R_base ho0) hb); have n1_ := Aside0.mk (Kd.R_lower (Kd.R_newB (Kd.R_new' ho0 (Kd.R_lt (by (with_reducible repeat (first | apply Kd.R_alloc | apply Kd.R_drewN | apply Kd.R_drew)); exact HO_7.out))) (g := gb541) (o := .cells #[.string a1_0, .string a1_1] 26 (0, 0)) (by (with_reducible repeat (first | refine blk_drewN ?_ _ | refine blk_drew ?_ | refine blk_alloc ?_ _)); exact BK541.out)) (below_size (by repeat (first | (with_reducible first | exact HB.out | apply below_alloc | apply pw_below_drewN | apply below_drew1 | refine below_set ?_ GE541.out) | exact HB.out)))); have n2_ := Aside0.mk (blk_below (g := gb541) (o := .cells #[.string a1_0, .string a1_1] 26 (0, 0)) (by (with_reducible repeat (first | refine blk_drewN ?_ _ | refine blk_drew ?_ | refine blk_alloc ?_ _)); exact BK541.out) hb); have n3_ := Aside0.mk (below_step (by repeat (first | (with_reducible first | exact HB.out | apply below_alloc | apply pw_below_drewN | apply below_drew1 | refine below_set ?_ GE541.out) | exact HB.out)) hb); clear HO_7; clear BK541; clear HB; have HO_7 := n0_; have HO556 := n1_; have BK541 := n2_; have HB := n3_; clear n0_ n1_ n2_ n3_; (try clear hb); (try clear hb2); (try clear hk); (try clear hi); (try clear ho0); have hcz50_0 : w49.cell? ⟨gb541, 0, none⟩ = some (.string a1_0) := (blk_cell BK541.out 0).trans rfl; have hcz50_1 : w49.cell? ⟨gb541, 1, none⟩ = some (.string a1_1) := (blk_cell BK541.out 1).trans rfl; have hfz50_0 := blk_frozen BK541.out 0; have hfz50_1 := blk_frozen BK541.out 1; obtain ⟨Ao51, co51, eo51⟩ := Kd.R_slice HO556.out; subst eo51) | ((with_reducible refine gate_callee (f := 19) rfl ?_); refine goesL_ (some 86) rfl rfl Try.func19 (by kernel_rfl) rfl #[.slice Ao51 t553.length co51, .string a1_0] rfl (by (try simp only [List.map_toArray, List.map_cons, List.map_nil]); first | done | rfl | (simp only [List.length_drop, List.length_take]; rfl)) ?_; (with_reducible refine (attr_Get.calls kj19 _ _ t553 a1_0 t557 t558 _ ?side1 ?side2 A34.out).mono ?_); (case side1 => repeat (first | exact (Kd.R_reads' HO556.out).2.2 | (with_reducible refine Kd.C_alloc ?_ _) | (with_reducible refine Kd.C_drewN ?_ _) | (with_reducible refine Kd.C_drew ?_))); (case side2 => exact (Kd.R_reads' HO556.out).2.1); rintro e w52 ⟨rfl, hb⟩; refine ⟨_, rfl, ?_⟩; have n0_ := Aside0.mk (Kd.R_below (by (with_reducible repeat (first | apply Kd.R_alloc | apply Kd.R_drewN | apply Kd.R_drew)); exact HO_7.out) hb); have n1_ := Aside0.mk (Kd.R_below (by (with_reducible repeat (first | apply Kd.R_alloc | apply Kd.R_drewN | apply Kd.R_drew)); exact HO556.out) hb); have n2_ := Aside0.mk (blk_below (g := gb541) (o := .cells #[.string a1_0, .string a1_1] 26 (0, 0)) (by (with_reducible repeat (first | refine blk_drewN ?_ _ | refine blk_drew ?_ | refine blk_alloc ?_ _)); exact BK541.out) hb); have n3_ := Aside0.mk (below_step (by repeat (first | (with_reducible first | exact HB.out | apply below_alloc | apply pw_below_drewN | apply below_drew1 | refine below_set ?_ GE541.out) | exact HB.out)) hb); clear HO_7; clear HO556; clear BK541; clear HB; have HO_7 := n0_; have HO556 := n1_; have BK541 := n2_; have HB := n3_; clear n0_ n1_ n2_ n3_; (try clear hb); (try clear hb2); (try clear hk); (try clear hi); have hcz53_0 : w52.cell? ⟨gb541, 0, none⟩ = some (.string a1_0) := (blk_cell BK541.out 0).trans rfl; have hcz53_1 : w52.cell? ⟨gb541, 1, none⟩ = some (.string a1_1) := (blk_cell BK541.out 1).trans rfl; have hfz53_0 := blk_frozen BK541.out 0; have hfz53_1 := blk_frozen BK541.out 1) | ((with_reducible refine gate_callee (f := 17) rfl ?_); refine goesL_ (some 93) rfl rfl Try.func17 (by kernel_rfl) rfl #[.slice Ao51 t553.length co51, .string a1_0] rfl (by (try simp only [List.map_toArray, List.map_cons, List.map_nil]); first | done | rfl | (simp only [List.length_drop, List.length_take]; rfl)) ?_; (with_reducible refine (attr_Drop.calls kj19 _ _ t553 a1_0 t559 t560 _ ?side1 ?side2 A35.out).mono ?_); (case side1 => repeat (first | exact (Kd.R_reads' HO556.out).2.2 | (with_reducible refine Kd.C_alloc ?_ _) | (with_reducible refine Kd.C_drewN ?_ _) | (with_reducible refine Kd.C_drew ?_))); (case side2 => exact (Kd.R_reads' HO556.out).2.1); rintro e w54 ⟨v561, rfl, ho0, hb⟩; refine ⟨_, rfl, ?_⟩; have n0_ := Aside0.mk (Kd.R_elder' (by (with_reducible repeat (first | apply Kd.R_alloc | apply Kd.R_drewN | apply Kd.R_drew)); exact HO_7.out) (Kd.R_base ho0) hb); have n1_ := Aside0.mk (Kd.R_elder' (by (with_reducible repeat (first | apply Kd.R_alloc | apply Kd.R_drewN | apply Kd.R_drew)); exact HO556.out) (Kd.R_base ho0) hb); have n2_ := Aside0.mk (Kd.R_lower (Kd.R_newB (Kd.R_new' (Kd.R_new' ho0 (Kd.R_lt (by (with_reducible repeat (first | apply Kd.R_alloc | apply Kd.R_drewN | apply Kd.R_drew)); exact HO_7.out))) (Kd.R_lt (by (with_reducible repeat (first | apply Kd.R_alloc | apply Kd.R_drewN | apply Kd.R_drew)); exact HO556.out))) (g := gb541) (o := .cells #[.string a1_0, .string a1_1] 26 (0, 0)) (by (with_reducible repeat (first | refine blk_drewN ?_ _ | refine blk_drew ?_ | refine blk_alloc ?_ _)); exact BK541.out)) (below_size (by repeat (first | (with_reducible first | exact HB.out | apply below_alloc | apply pw_below_drewN | apply below_drew1 | refine below_set ?_ GE541.out) | exact HB.out)))); have n3_ := Aside0.mk (blk_below (g := gb541) (o := .cells #[.string a1_0, .string a1_1] 26 (0, 0)) (by (with_reducible repeat (first | refine blk_drewN ?_ _ | refine blk_drew ?_ | refine blk_alloc ?_ _)); exact BK541.out) hb); have n4_ := Aside0.mk (below_step (by repeat (first | (with_reducible first | exact HB.out | apply below_alloc | apply pw_below_drewN | apply below_drew1 | refine below_set ?_ GE541.out) | exact HB.out)) hb); clear HO_7; clear HO556; clear BK541; clear HB; have HO_7 := n0_; have HO556 := n1_; have HO562 := n2_; have BK541 := n3_; have HB := n4_; clear n0_ n1_ n2_ n3_ n4_; (try clear hb); (try clear hb2); (try clear hk); (try clear hi); (try clear ho0)) | ((with_reducible refine gate_callee (f := 21) rfl ?_); refine goesL_ (some 98) rfl rfl Try.func21 (by kernel_rfl) rfl #[.slice Ao15 t543.length co15] rfl (by (try simp only [List.map_toArray, List.map_cons, List.map_nil]); first | done | rfl | (simp only [List.length_drop, List.length_take]; rfl)) ?_; (with_reducible refine (attr_Encode.calls kj19 _ _ t543 t563 t564 _ ?side1 ?side2 A36.out).mono ?_); (case side1 => repeat (first | exact (Kd.R_reads' HO_7.out).2.2 | (with_reducible refine Kd.C_alloc ?_ _) | (with_reducible refine Kd.C_drewN ?_ _) | (with_reducible refine Kd.C_drew ?_))); (case side2 => exact (Kd.R_reads' HO_7.out).2.1); rintro e w55 ⟨v565, rfl, ho0, hb⟩; refine ⟨_, rfl, ?_⟩; have n0_ := Aside0.mk (Kd.R_below (by (with_reducible repeat (first | apply Kd.R_alloc | apply Kd.R_drewN | apply Kd.R_drew)); exact HO_7.out) hb); have n1_ := Aside0.mk (Kd.R_below (by (with_reducible repeat (first | apply Kd.R_alloc | apply Kd.R_drewN | apply Kd.R_drew)); exact HO556.out) hb); have n2_ := Aside0.mk (Kd.R_below (by (with_reducible repeat (first | apply Kd.R_alloc | apply Kd.R_drewN | apply Kd.R_drew)); exact HO562.out) hb); have n3_ := Aside0.mk (Kd.R_lower ho0 (below_size (by repeat (first | (with_reducible first | exact HB.out | apply below_alloc | apply pw_below_drewN | apply below_drew1 | refine below_set ?_ GE541.out) | exact HB.out)))); have n4_ := Aside0.mk (blk_below (g := gb541) (o := .cells #[.string a1_0, .string a1_1] 26 (0, 0)) (by (with_reducible repeat (first | refine blk_drewN ?_ _ | refine blk_drew ?_ | refine blk_alloc ?_ _)); exact BK541.out) hb); have n5_ := Aside0.mk (below_step (by repeat (first | (with_reducible first | exact HB.out | apply below_alloc | apply pw_below_drewN | apply below_drew1 | refine below_set ?_ GE541.out) | exact HB.out)) hb); clear HO_7; clear HO556; clear HO562; clear BK541; clear HB; have HO_7 := n0_; have HO556 := n1_; have HO562 := n2_; have HO566 := n3_; have BK541 := n4_; have HB := n5_; clear n0_ n1_ n2_ n3_ n4_ n5_; (try clear hb); (try clear hb2); (try clear hk); (try clear hi); (try clear ho0)))
                      go_ret
                      exact ⟨by first | rfl | (simp [errW_none, errW_some] <;> rfl) | (simp [*, errW_none, errW_some] <;> rfl), by repeat (first | (with_reducible first | exact HB.out | apply below_alloc | apply pw_below_drewN | apply below_drew1 | refine below_set ?_ GE541.out) | exact HB.out)⟩
                  · rw [if_neg c38] at H
                    have c38b0 : (t558 == 15) = false := beq_eq_false_iff_ne.mpr c38
                    have c38b1 : (t558 != 15) = true := bne_iff_ne.mpr c38
                    obtain rfl := Option.some.inj H
                    have hcz56_0 : wc.cell? ⟨gb541, 0, none⟩ = some (.string a1_0) := (blk_cell BK541.out 0).trans rfl
                    have hcz56_1 : wc.cell? ⟨gb541, 1, none⟩ = some (.string a1_1) := (blk_cell BK541.out 1).trans rfl
                    have hfz56_0 := blk_frozen BK541.out 0
                    have hfz56_1 := blk_frozen BK541.out 1
                    go_wp2_with (first | ((with_reducible refine gate_callee (f := 17) rfl ?_); refine goesL_ (some 79) rfl rfl Try.func17 (by kernel_rfl) rfl #[.slice Ao15 t543.length co15, .string a1_0] rfl (by (try simp only [List.map_toArray, List.map_cons, List.map_nil]); first | done | rfl | (simp only [List.length_drop, List.length_take]; rfl)) ?_; (with_reducible refine (attr_Drop.calls kj19 _ _ t543 a1_0 t553 t554 _ ?side1 ?side2 A33.out).mono ?_); (case side1 => repeat (first | exact (Kd.R_reads' HO_7.out).2.2 | (with_reducible refine Kd.C_alloc ?_ _) | (with_reducible refine Kd.C_drewN ?_ _) | (with_reducible refine Kd.C_drew ?_))); (case side2 => exact (Kd.R_reads' HO_7.out).2.1); rintro e w57 ⟨v555, rfl, ho0, hb⟩; refine ⟨_, rfl, ?_⟩; have n0_ := Aside0.mk (Kd.R_elder' (by (with_reducible repeat (first | apply Kd.R_alloc | apply Kd.R_drewN | apply Kd.R_drew)); exact HO_7.out) (Kd.R_base ho0) hb); have n1_ := Aside0.mk (Kd.R_lower (Kd.R_newB (Kd.R_new' ho0 (Kd.R_lt (by (with_reducible repeat (first | apply Kd.R_alloc | apply Kd.R_drewN | apply Kd.R_drew)); exact HO_7.out))) (g := gb541) (o := .cells #[.string a1_0, .string a1_1] 26 (0, 0)) (by (with_reducible repeat (first | refine blk_drewN ?_ _ | refine blk_drew ?_ | refine blk_alloc ?_ _)); exact BK541.out)) (below_size (by repeat (first | (with_reducible first | exact HB.out | apply below_alloc | apply pw_below_drewN | apply below_drew1 | refine below_set ?_ GE541.out) | exact HB.out)))); have n2_ := Aside0.mk (blk_below (g := gb541) (o := .cells #[.string a1_0, .string a1_1] 26 (0, 0)) (by (with_reducible repeat (first | refine blk_drewN ?_ _ | refine blk_drew ?_ | refine blk_alloc ?_ _)); exact BK541.out) hb); have n3_ := Aside0.mk (below_step (by repeat (first | (with_reducible first | exact HB.out | apply below_alloc | apply pw_below_drewN | apply below_drew1 | refine below_set ?_ GE541.out) | exact HB.out)) hb); clear HO_7; clear BK541; clear HB; have HO_7 := n0_; have HO556 := n1_; have BK541 := n2_; have HB := n3_; clear n0_ n1_ n2_ n3_; (try clear hb); (try clear hb2); (try clear hk); (try clear hi); (try clear ho0); have hcz58_0 : w57.cell? ⟨gb541, 0, none⟩ = some (.string a1_0) := (blk_cell BK541.out 0).trans rfl; have hcz58_1 : w57.cell? ⟨gb541, 1, none⟩ = some (.string a1_1) := (blk_cell BK541.out 1).trans rfl; have hfz58_0 := blk_frozen BK541.out 0; have hfz58_1 := blk_frozen BK541.out 1; obtain ⟨Ao59, co59, eo59⟩ := Kd.R_slice HO556.out; subst eo59) | ((with_reducible refine gate_callee (f := 19) rfl ?_); refine goesL_ (some 86) rfl rfl Try.func19 (by kernel_rfl) rfl #[.slice Ao59 t553.length co59, .string a1_0] rfl (by (try simp only [List.map_toArray, List.map_cons, List.map_nil]); first | done | rfl | (simp only [List.length_drop, List.length_take]; rfl)) ?_; (with_reducible refine (attr_Get.calls kj19 _ _ t553 a1_0 t557 t558 _ ?side1 ?side2 A34.out).mono ?_); (case side1 => repeat (first | exact (Kd.R_reads' HO556.out).2.2 | (with_reducible refine Kd.C_alloc ?_ _) | (with_reducible refine Kd.C_drewN ?_ _) | (with_reducible refine Kd.C_drew ?_))); (case side2 => exact (Kd.R_reads' HO556.out).2.1); rintro e w60 ⟨rfl, hb⟩; refine ⟨_, rfl, ?_⟩; have n0_ := Aside0.mk (Kd.R_below (by (with_reducible repeat (first | apply Kd.R_alloc | apply Kd.R_drewN | apply Kd.R_drew)); exact HO_7.out) hb); have n1_ := Aside0.mk (Kd.R_below (by (with_reducible repeat (first | apply Kd.R_alloc | apply Kd.R_drewN | apply Kd.R_drew)); exact HO556.out) hb); have n2_ := Aside0.mk (blk_below (g := gb541) (o := .cells #[.string a1_0, .string a1_1] 26 (0, 0)) (by (with_reducible repeat (first | refine blk_drewN ?_ _ | refine blk_drew ?_ | refine blk_alloc ?_ _)); exact BK541.out) hb); have n3_ := Aside0.mk (below_step (by repeat (first | (with_reducible first | exact HB.out | apply below_alloc | apply pw_below_drewN | apply below_drew1 | refine below_set ?_ GE541.out) | exact HB.out)) hb); clear HO_7; clear HO556; clear BK541; clear HB; have HO_7 := n0_; have HO556 := n1_; have BK541 := n2_; have HB := n3_; clear n0_ n1_ n2_ n3_; (try clear hb); (try clear hb2); (try clear hk); (try clear hi); have hcz61_0 : w60.cell? ⟨gb541, 0, none⟩ = some (.string a1_0) := (blk_cell BK541.out 0).trans rfl; have hcz61_1 : w60.cell? ⟨gb541, 1, none⟩ = some (.string a1_1) := (blk_cell BK541.out 1).trans rfl; have hfz61_0 := blk_frozen BK541.out 0; have hfz61_1 := blk_frozen BK541.out 1) | ((with_reducible refine gate_callee (f := 17) rfl ?_); refine goesL_ (some 93) rfl rfl Try.func17 (by kernel_rfl) rfl #[.slice Ao59 t553.length co59, .string a1_0] rfl (by (try simp only [List.map_toArray, List.map_cons, List.map_nil]); first | done | rfl | (simp only [List.length_drop, List.length_take]; rfl)) ?_; (with_reducible refine (attr_Drop.calls kj19 _ _ t553 a1_0 t559 t560 _ ?side1 ?side2 A35.out).mono ?_); (case side1 => repeat (first | exact (Kd.R_reads' HO556.out).2.2 | (with_reducible refine Kd.C_alloc ?_ _) | (with_reducible refine Kd.C_drewN ?_ _) | (with_reducible refine Kd.C_drew ?_))); (case side2 => exact (Kd.R_reads' HO556.out).2.1); rintro e w62 ⟨v561, rfl, ho0, hb⟩; refine ⟨_, rfl, ?_⟩; have n0_ := Aside0.mk (Kd.R_elder' (by (with_reducible repeat (first | apply Kd.R_alloc | apply Kd.R_drewN | apply Kd.R_drew)); exact HO_7.out) (Kd.R_base ho0) hb); have n1_ := Aside0.mk (Kd.R_elder' (by (with_reducible repeat (first | apply Kd.R_alloc | apply Kd.R_drewN | apply Kd.R_drew)); exact HO556.out) (Kd.R_base ho0) hb); have n2_ := Aside0.mk (Kd.R_lower (Kd.R_newB (Kd.R_new' (Kd.R_new' ho0 (Kd.R_lt (by (with_reducible repeat (first | apply Kd.R_alloc | apply Kd.R_drewN | apply Kd.R_drew)); exact HO_7.out))) (Kd.R_lt (by (with_reducible repeat (first | apply Kd.R_alloc | apply Kd.R_drewN | apply Kd.R_drew)); exact HO556.out))) (g := gb541) (o := .cells #[.string a1_0, .string a1_1] 26 (0, 0)) (by (with_reducible repeat (first | refine blk_drewN ?_ _ | refine blk_drew ?_ | refine blk_alloc ?_ _)); exact BK541.out)) (below_size (by repeat (first | (with_reducible first | exact HB.out | apply below_alloc | apply pw_below_drewN | apply below_drew1 | refine below_set ?_ GE541.out) | exact HB.out)))); have n3_ := Aside0.mk (blk_below (g := gb541) (o := .cells #[.string a1_0, .string a1_1] 26 (0, 0)) (by (with_reducible repeat (first | refine blk_drewN ?_ _ | refine blk_drew ?_ | refine blk_alloc ?_ _)); exact BK541.out) hb); have n4_ := Aside0.mk (below_step (by repeat (first | (with_reducible first | exact HB.out | apply below_alloc | apply pw_below_drewN | apply below_drew1 | refine below_set ?_ GE541.out) | exact HB.out)) hb); clear HO_7; clear HO556; clear BK541; clear HB; have HO_7 := n0_; have HO556 := n1_; have HO562 := n2_; have BK541 := n3_; have HB := n4_; clear n0_ n1_ n2_ n3_ n4_; (try clear hb); (try clear hb2); (try clear hk); (try clear hi); (try clear ho0)) | ((with_reducible refine gate_callee (f := 21) rfl ?_); refine goesL_ (some 98) rfl rfl Try.func21 (by kernel_rfl) rfl #[.slice Ao15 t543.length co15] rfl (by (try simp only [List.map_toArray, List.map_cons, List.map_nil]); first | done | rfl | (simp only [List.length_drop, List.length_take]; rfl)) ?_; (with_reducible refine (attr_Encode.calls kj19 _ _ t543 t563 t564 _ ?side1 ?side2 A36.out).mono ?_); (case side1 => repeat (first | exact (Kd.R_reads' HO_7.out).2.2 | (with_reducible refine Kd.C_alloc ?_ _) | (with_reducible refine Kd.C_drewN ?_ _) | (with_reducible refine Kd.C_drew ?_))); (case side2 => exact (Kd.R_reads' HO_7.out).2.1); rintro e w63 ⟨v565, rfl, ho0, hb⟩; refine ⟨_, rfl, ?_⟩; have n0_ := Aside0.mk (Kd.R_below (by (with_reducible repeat (first | apply Kd.R_alloc | apply Kd.R_drewN | apply Kd.R_drew)); exact HO_7.out) hb); have n1_ := Aside0.mk (Kd.R_below (by (with_reducible repeat (first | apply Kd.R_alloc | apply Kd.R_drewN | apply Kd.R_drew)); exact HO556.out) hb); have n2_ := Aside0.mk (Kd.R_below (by (with_reducible repeat (first | apply Kd.R_alloc | apply Kd.R_drewN | apply Kd.R_drew)); exact HO562.out) hb); have n3_ := Aside0.mk (Kd.R_lower ho0 (below_size (by repeat (first | (with_reducible first | exact HB.out | apply below_alloc | apply pw_below_drewN | apply below_drew1 | refine below_set ?_ GE541.out) | exact HB.out)))); have n4_ := Aside0.mk (blk_below (g := gb541) (o := .cells #[.string a1_0, .string a1_1] 26 (0, 0)) (by (with_reducible repeat (first | refine blk_drewN ?_ _ | refine blk_drew ?_ | refine blk_alloc ?_ _)); exact BK541.out) hb); have n5_ := Aside0.mk (below_step (by repeat (first | (with_reducible first | exact HB.out | apply below_alloc | apply pw_below_drewN | apply below_drew1 | refine below_set ?_ GE541.out) | exact HB.out)) hb); clear HO_7; clear HO556; clear HO562; clear BK541; clear HB; have HO_7 := n0_; have HO556 := n1_; have HO562 := n2_; have HO566 := n3_; have BK541 := n4_; have HB := n5_; clear n0_ n1_ n2_ n3_ n4_ n5_; (try clear hb); (try clear hb2); (try clear hk); (try clear hi); (try clear ho0)))
                    go_ret
                    exact ⟨by first | rfl | (simp [errW_none, errW_some] <;> rfl) | (simp [*, errW_none, errW_some] <;> rfl), by repeat (first | (with_reducible first | exact HB.out | apply below_alloc | apply pw_below_drewN | apply below_drew1 | refine below_set ?_ GE541.out) | exact HB.out)⟩
                · rw [if_neg c37] at H
                  have c37b0 : (t554 == 0) = false := beq_eq_false_iff_ne.mpr c37
                  have c37b1 : (t554 != 0) = true := bne_iff_ne.mpr c37
                  obtain rfl := Option.some.inj H
                  have hcz64_0 : wc.cell? ⟨gb541, 0, none⟩ = some (.string a1_0) := (blk_cell BK541.out 0).trans rfl
                  have hcz64_1 : wc.cell? ⟨gb541, 1, none⟩ = some (.string a1_1) := (blk_cell BK541.out 1).trans rfl
                  have hfz64_0 := blk_frozen BK541.out 0
                  have hfz64_1 := blk_frozen BK541.out 1
                  go_wp2_with (first | ((with_reducible refine gate_callee (f := 17) rfl ?_); refine goesL_ (some 79) rfl rfl Try.func17 (by kernel_rfl) rfl #[.slice Ao15 t543.length co15, .string a1_0] rfl (by (try simp only [List.map_toArray, List.map_cons, List.map_nil]); first | done | rfl | (simp only [List.length_drop, List.length_take]; rfl)) ?_; (with_reducible refine (attr_Drop.calls kj19 _ _ t543 a1_0 t553 t554 _ ?side1 ?side2 A33.out).mono ?_); (case side1 => repeat (first | exact (Kd.R_reads' HO_7.out).2.2 | (with_reducible refine Kd.C_alloc ?_ _) | (with_reducible refine Kd.C_drewN ?_ _) | (with_reducible refine Kd.C_drew ?_))); (case side2 => exact (Kd.R_reads' HO_7.out).2.1); rintro e w65 ⟨v555, rfl, ho0, hb⟩; refine ⟨_, rfl, ?_⟩; have n0_ := Aside0.mk (Kd.R_elder' (by (with_reducible repeat (first | apply Kd.R_alloc | apply Kd.R_drewN | apply Kd.R_drew)); exact HO_7.out) (Kd.R_base ho0) hb); have n1_ := Aside0.mk (Kd.R_lower (Kd.R_newB (Kd.R_new' ho0 (Kd.R_lt (by (with_reducible repeat (first | apply Kd.R_alloc | apply Kd.R_drewN | apply Kd.R_drew)); exact HO_7.out))) (g := gb541) (o := .cells #[.string a1_0, .string a1_1] 26 (0, 0)) (by (with_reducible repeat (first | refine blk_drewN ?_ _ | refine blk_drew ?_ | refine blk_alloc ?_ _)); exact BK541.out)) (below_size (by repeat (first | (with_reducible first | exact HB.out | apply below_alloc | apply pw_below_drewN | apply below_drew1 | refine below_set ?_ GE541.out) | exact HB.out)))); have n2_ := Aside0.mk (blk_below (g := gb541) (o := .cells #[.string a1_0, .string a1_1] 26 (0, 0)) (by (with_reducible repeat (first | refine blk_drewN ?_ _ | refine blk_drew ?_ | refine blk_alloc ?_ _)); exact BK541.out) hb); have n3_ := Aside0.mk (below_step (by repeat (first | (with_reducible first | exact HB.out | apply below_alloc | apply pw_below_drewN | apply below_drew1 | refine below_set ?_ GE541.out) | exact HB.out)) hb); clear HO_7; clear BK541; clear HB; have HO_7 := n0_; have HO556 := n1_; have BK541 := n2_; have HB := n3_; clear n0_ n1_ n2_ n3_; (try clear hb); (try clear hb2); (try clear hk); (try clear hi); (try clear ho0); have hcz66_0 : w65.cell? ⟨gb541, 0, none⟩ = some (.string a1_0) := (blk_cell BK541.out 0).trans rfl; have hcz66_1 : w65.cell? ⟨gb541, 1, none⟩ = some (.string a1_1) := (blk_cell BK541.out 1).trans rfl; have hfz66_0 := blk_frozen BK541.out 0; have hfz66_1 := blk_frozen BK541.out 1; obtain ⟨Ao67, co67, eo67⟩ := Kd.R_slice HO556.out; subst eo67) | ((with_reducible refine gate_callee (f := 19) rfl ?_); refine goesL_ (some 86) rfl rfl Try.func19 (by kernel_rfl) rfl #[.slice Ao67 t553.length co67, .string a1_0] rfl (by (try simp only [List.map_toArray, List.map_cons, List.map_nil]); first | done | rfl | (simp only [List.length_drop, List.length_take]; rfl)) ?_; (with_reducible refine (attr_Get.calls kj19 _ _ t553 a1_0 t557 t558 _ ?side1 ?side2 A34.out).mono ?_); (case side1 => repeat (first | exact (Kd.R_reads' HO556.out).2.2 | (with_reducible refine Kd.C_alloc ?_ _) | (with_reducible refine Kd.C_drewN ?_ _) | (with_reducible refine Kd.C_drew ?_))); (case side2 => exact (Kd.R_reads' HO556.out).2.1); rintro e w68 ⟨rfl, hb⟩; refine ⟨_, rfl, ?_⟩; have n0_ := Aside0.mk (Kd.R_below (by (with_reducible repeat (first | apply Kd.R_alloc | apply Kd.R_drewN | apply Kd.R_drew)); exact HO_7.out) hb); have n1_ := Aside0.mk (Kd.R_below (by (with_reducible repeat (first | apply Kd.R_alloc | apply Kd.R_drewN | apply Kd.R_drew)); exact HO556.out) hb); have n2_ := Aside0.mk (blk_below (g := gb541) (o := .cells #[.string a1_0, .string a1_1] 26 (0, 0)) (by (with_reducible repeat (first | refine blk_drewN ?_ _ | refine blk_drew ?_ | refine blk_alloc ?_ _)); exact BK541.out) hb); have n3_ := Aside0.mk (below_step (by repeat (first | (with_reducible first | exact HB.out | apply below_alloc | apply pw_below_drewN | apply below_drew1 | refine below_set ?_ GE541.out) | exact HB.out)) hb); clear HO_7; clear HO556; clear BK541; clear HB; have HO_7 := n0_; have HO556 := n1_; have BK541 := n2_; have HB := n3_; clear n0_ n1_ n2_ n3_; (try clear hb); (try clear hb2); (try clear hk); (try clear hi); have hcz69_0 : w68.cell? ⟨gb541, 0, none⟩ = some (.string a1_0) := (blk_cell BK541.out 0).trans rfl; have hcz69_1 : w68.cell? ⟨gb541, 1, none⟩ = some (.string a1_1) := (blk_cell BK541.out 1).trans rfl; have hfz69_0 := blk_frozen BK541.out 0; have hfz69_1 := blk_frozen BK541.out 1) | ((with_reducible refine gate_callee (f := 17) rfl ?_); refine goesL_ (some 93) rfl rfl Try.func17 (by kernel_rfl) rfl #[.slice Ao67 t553.length co67, .string a1_0] rfl (by (try simp only [List.map_toArray, List.map_cons, List.map_nil]); first | done | rfl | (simp only [List.length_drop, List.length_take]; rfl)) ?_; (with_reducible refine (attr_Drop.calls kj19 _ _ t553 a1_0 t559 t560 _ ?side1 ?side2 A35.out).mono ?_); (case side1 => repeat (first | exact (Kd.R_reads' HO556.out).2.2 | (with_reducible refine Kd.C_alloc ?_ _) | (with_reducible refine Kd.C_drewN ?_ _) | (with_reducible refine Kd.C_drew ?_))); (case side2 => exact (Kd.R_reads' HO556.out).2.1); rintro e w70 ⟨v561, rfl, ho0, hb⟩; refine ⟨_, rfl, ?_⟩; have n0_ := Aside0.mk (Kd.R_elder' (by (with_reducible repeat (first | apply Kd.R_alloc | apply Kd.R_drewN | apply Kd.R_drew)); exact HO_7.out) (Kd.R_base ho0) hb); have n1_ := Aside0.mk (Kd.R_elder' (by (with_reducible repeat (first | apply Kd.R_alloc | apply Kd.R_drewN | apply Kd.R_drew)); exact HO556.out) (Kd.R_base ho0) hb); have n2_ := Aside0.mk (Kd.R_lower (Kd.R_newB (Kd.R_new' (Kd.R_new' ho0 (Kd.R_lt (by (with_reducible repeat (first | apply Kd.R_alloc | apply Kd.R_drewN | apply Kd.R_drew)); exact HO_7.out))) (Kd.R_lt (by (with_reducible repeat (first | apply Kd.R_alloc | apply Kd.R_drewN | apply Kd.R_drew)); exact HO556.out))) (g := gb541) (o := .cells #[.string a1_0, .string a1_1] 26 (0, 0)) (by (with_reducible repeat (first | refine blk_drewN ?_ _ | refine blk_drew ?_ | refine blk_alloc ?_ _)); exact BK541.out)) (below_size (by repeat (first | (with_reducible first | exact HB.out | apply below_alloc | apply pw_below_drewN | apply below_drew1 | refine below_set ?_ GE541.out) | exact HB.out)))); have n3_ := Aside0.mk (blk_below (g := gb541) (o := .cells #[.string a1_0, .string a1_1] 26 (0, 0)) (by (with_reducible repeat (first | refine blk_drewN ?_ _ | refine blk_drew ?_ | refine blk_alloc ?_ _)); exact BK541.out) hb); have n4_ := Aside0.mk (below_step (by repeat (first | (with_reducible first | exact HB.out | apply below_alloc | apply pw_below_drewN | apply below_drew1 | refine below_set ?_ GE541.out) | exact HB.out)) hb); clear HO_7; clear HO556; clear BK541; clear HB; have HO_7 := n0_; have HO556 := n1_; have HO562 := n2_; have BK541 := n3_; have HB := n4_; clear n0_ n1_ n2_ n3_ n4_; (try clear hb); (try clear hb2); (try clear hk); (try clear hi); (try clear ho0)) | ((with_reducible refine gate_callee (f := 21) rfl ?_); refine goesL_ (some 98) rfl rfl Try.func21 (by kernel_rfl) rfl #[.slice Ao15 t543.length co15] rfl (by (try simp only [List.map_toArray, List.map_cons, List.map_nil]); first | done | rfl | (simp only [List.length_drop, List.length_take]; rfl)) ?_; (with_reducible refine (attr_Encode.calls kj19 _ _ t543 t563 t564 _ ?side1 ?side2 A36.out).mono ?_); (case side1 => repeat (first | exact (Kd.R_reads' HO_7.out).2.2 | (with_reducible refine Kd.C_alloc ?_ _) | (with_reducible refine Kd.C_drewN ?_ _) | (with_reducible refine Kd.C_drew ?_))); (case side2 => exact (Kd.R_reads' HO_7.out).2.1); rintro e w71 ⟨v565, rfl, ho0, hb⟩; refine ⟨_, rfl, ?_⟩; have n0_ := Aside0.mk (Kd.R_below (by (with_reducible repeat (first | apply Kd.R_alloc | apply Kd.R_drewN | apply Kd.R_drew)); exact HO_7.out) hb); have n1_ := Aside0.mk (Kd.R_below (by (with_reducible repeat (first | apply Kd.R_alloc | apply Kd.R_drewN | apply Kd.R_drew)); exact HO556.out) hb); have n2_ := Aside0.mk (Kd.R_below (by (with_reducible repeat (first | apply Kd.R_alloc | apply Kd.R_drewN | apply Kd.R_drew)); exact HO562.out) hb); have n3_ := Aside0.mk (Kd.R_lower ho0 (below_size (by repeat (first | (with_reducible first | exact HB.out | apply below_alloc | apply pw_below_drewN | apply below_drew1 | refine below_set ?_ GE541.out) | exact HB.out)))); have n4_ := Aside0.mk (blk_below (g := gb541) (o := .cells #[.string a1_0, .string a1_1] 26 (0, 0)) (by (with_reducible repeat (first | refine blk_drewN ?_ _ | refine blk_drew ?_ | refine blk_alloc ?_ _)); exact BK541.out) hb); have n5_ := Aside0.mk (below_step (by repeat (first | (with_reducible first | exact HB.out | apply below_alloc | apply pw_below_drewN | apply below_drew1 | refine below_set ?_ GE541.out) | exact HB.out)) hb); clear HO_7; clear HO556; clear HO562; clear BK541; clear HB; have HO_7 := n0_; have HO556 := n1_; have HO562 := n2_; have HO566 := n3_; have BK541 := n4_; have HB := n5_; clear n0_ n1_ n2_ n3_ n4_ n5_; (try clear hb); (try clear hb2); (try clear hk); (try clear hi); (try clear ho0)))
                  go_ret
                  exact ⟨by first | rfl | (simp [errW_none, errW_some] <;> rfl) | (simp [*, errW_none, errW_some] <;> rfl), by repeat (first | (with_reducible first | exact HB.out | apply below_alloc | apply pw_below_drewN | apply below_drew1 | refine below_set ?_ GE541.out) | exact HB.out)⟩
    · rw [if_neg c7] at H
      have c7b0 : (t546 == 0) = false := beq_eq_false_iff_ne.mpr c7
      have c7b1 : (t546 != 0) = true := bne_iff_ne.mpr c7
      obtain rfl := Option.some.inj H
      go_enter Try.func5, Try.ntmps5
      go_wp2_with (first | ((with_reducible refine gate_dst (N := 4) rfl ?_); refine box_event ?hg (N := 4) ?hd (cs := #[.string a1_0, .string a1_1]) (t := 26) ?hr ?_; (case hd => rfl); (case hg => rfl); (case hr => first | (go_simp; done) | (go_simp; rfl)); intro gb541 hg w72 hbox hb; have n0_ := Aside0.mk (below_step (by repeat (first | (with_reducible first | exact HB.out | apply below_alloc | apply pw_below_drewN | apply below_drew1) | exact HB.out)) hb); have n1_ := Aside0.mk (hbox); have n2_ := Aside0.mk ((by rw [hg]; exact (below_size (by repeat (first | (with_reducible first | exact HB.out | apply below_alloc | apply pw_below_drewN | apply below_drew1) | exact HB.out))) : w.heap.size ≤ gb541)); have n3_ := Aside0.mk ((by rw [hg]; exact (below_size (by repeat (first | (with_reducible first | exact HB.out | apply below_alloc | apply pw_below_drewN | apply below_drew1) | exact HB.out))) : w.heap.size ≤ gb541)); clear HB; have HB := n0_; have BK541 := n1_; have GW541 := n2_; have GE541 := n3_; clear n0_ n1_ n2_ n3_; clear hb hbox hg) | ((with_reducible refine gate_callee (f := 13) rfl ?_); refine goesL_ (some 23) rfl rfl Try.func13 (by kernel_rfl) rfl #[] rfl (by (try simp only [List.map_toArray, List.map_cons, List.map_nil]); first | done | rfl | (simp only [List.length_drop, List.length_take]; rfl)) ?_; (with_reducible refine (undercroftlaw13_alive.calls k  true _ A4.out).mono ?_); rintro e w73 ⟨rfl, hb⟩; refine ⟨_, rfl, ?_⟩; have n0_ := Aside0.mk (blk_below (g := gb541) (o := .cells #[.string a1_0, .string a1_1] 26 (0, 0)) (by (with_reducible repeat (first | refine blk_drewN ?_ _ | refine blk_drew ?_ | refine blk_alloc ?_ _)); exact BK541.out) hb); have n1_ := Aside0.mk (below_step (by repeat (first | (with_reducible first | exact HB.out | apply below_alloc | apply pw_below_drewN | apply below_drew1 | refine below_set ?_ GE541.out) | exact HB.out)) hb); clear BK541; clear HB; have BK541 := n0_; have HB := n1_; clear n0_ n1_; (try clear hb); (try clear hb2); (try clear hk); (try clear hi); have hcz74_0 : w73.cell? ⟨gb541, 0, none⟩ = some (.string a1_0) := (blk_cell BK541.out 0).trans rfl; have hcz74_1 : w73.cell? ⟨gb541, 1, none⟩ = some (.string a1_1) := (blk_cell BK541.out 1).trans rfl; have hfz74_0 := blk_frozen BK541.out 0; have hfz74_1 := blk_frozen BK541.out 1) | ((with_reducible refine gate_callee (f := 14) rfl ?_); refine goesL_ (some 28) rfl rfl Try.func14 (by kernel_rfl) rfl #[.slice A0 l0.length c0, .agg #[.string a1_0, .string a1_1]] rfl (by (try simp only [List.map_toArray, List.map_cons, List.map_nil]); first | done | rfl | (simp only [List.length_drop, List.length_take]; rfl)) ?_; (with_reducible refine (attr_Set.calls k _ _ l0 a1_0 a1_1 t543 t546 _ ?side1 ?side2 A6.out).mono ?_); (case side1 => repeat (first | exact (Kd.C_below HR0.out HB.out) | (with_reducible refine Kd.C_alloc ?_ _) | (with_reducible refine Kd.C_drewN ?_ _) | (with_reducible refine Kd.C_drew ?_))); (case side2 => exact HC0.out); rintro e w75 ⟨v544, rfl, ho0, hb⟩; refine ⟨_, rfl, ?_⟩; have n0_ := Aside0.mk (Kd.R_lower (Kd.R_newB ho0 (g := gb541) (o := .cells #[.string a1_0, .string a1_1] 26 (0, 0)) (by (with_reducible repeat (first | refine blk_drewN ?_ _ | refine blk_drew ?_ | refine blk_alloc ?_ _)); exact BK541.out)) (below_size (by repeat (first | (with_reducible first | exact HB.out | apply below_alloc | apply pw_below_drewN | apply below_drew1 | refine below_set ?_ GE541.out) | exact HB.out)))); have n1_ := Aside0.mk (blk_below (g := gb541) (o := .cells #[.string a1_0, .string a1_1] 26 (0, 0)) (by (with_reducible repeat (first | refine blk_drewN ?_ _ | refine blk_drew ?_ | refine blk_alloc ?_ _)); exact BK541.out) hb); have n2_ := Aside0.mk (below_step (by repeat (first | (with_reducible first | exact HB.out | apply below_alloc | apply pw_below_drewN | apply below_drew1 | refine below_set ?_ GE541.out) | exact HB.out)) hb); clear BK541; clear HB; have HO545 := n0_; have BK541 := n1_; have HB := n2_; clear n0_ n1_ n2_; (try clear hb); (try clear hb2); (try clear hk); (try clear hi); (try clear ho0); obtain ⟨Ao76, co76, eo76⟩ := Kd.R_slice HO545.out; subst eo76))
      go_ret
      exact ⟨by first | rfl | (simp [errW_none, errW_some] <;> rfl) | (simp [*, errW_none, errW_some] <;> rfl), by repeat (first | (with_reducible first | exact HB.out | apply below_alloc | apply pw_below_drewN | apply below_drew1 | refine below_set ?_ GE541.out) | exact HB.out)⟩
  · replace c5 := Bool.eq_false_iff.mpr c5
    subst c5
    have H1 : (some false) = some r := by rw [if_neg (show ¬ (false = true) by decide)] at H; exact H
    clear H
    have H := H1
    clear H1
    obtain rfl := Option.some.inj H
    go_enter Try.func5, Try.ntmps5
    go_wp2_with (first | ((with_reducible refine gate_dst (N := 4) rfl ?_); refine box_event ?hg (N := 4) ?hd (cs := #[.string a1_0, .string a1_1]) (t := 26) ?hr ?_; (case hd => rfl); (case hg => rfl); (case hr => first | (go_simp; done) | (go_simp; rfl)); intro gb541 hg w77 hbox hb; have n0_ := Aside0.mk (below_step (by repeat (first | (with_reducible first | exact HB.out | apply below_alloc | apply pw_below_drewN | apply below_drew1) | exact HB.out)) hb); have n1_ := Aside0.mk (hbox); have n2_ := Aside0.mk ((by rw [hg]; exact (below_size (by repeat (first | (with_reducible first | exact HB.out | apply below_alloc | apply pw_below_drewN | apply below_drew1) | exact HB.out))) : w.heap.size ≤ gb541)); have n3_ := Aside0.mk ((by rw [hg]; exact (below_size (by repeat (first | (with_reducible first | exact HB.out | apply below_alloc | apply pw_below_drewN | apply below_drew1) | exact HB.out))) : w.heap.size ≤ gb541)); clear HB; have HB := n0_; have BK541 := n1_; have GW541 := n2_; have GE541 := n3_; clear n0_ n1_ n2_ n3_; clear hb hbox hg) | ((with_reducible refine gate_callee (f := 13) rfl ?_); refine goesL_ (some 23) rfl rfl Try.func13 (by kernel_rfl) rfl #[] rfl (by (try simp only [List.map_toArray, List.map_cons, List.map_nil]); first | done | rfl | (simp only [List.length_drop, List.length_take]; rfl)) ?_; (with_reducible refine (undercroftlaw13_alive.calls k  false _ A4.out).mono ?_); rintro e w78 ⟨rfl, hb⟩; refine ⟨_, rfl, ?_⟩; have n0_ := Aside0.mk (blk_below (g := gb541) (o := .cells #[.string a1_0, .string a1_1] 26 (0, 0)) (by (with_reducible repeat (first | refine blk_drewN ?_ _ | refine blk_drew ?_ | refine blk_alloc ?_ _)); exact BK541.out) hb); have n1_ := Aside0.mk (below_step (by repeat (first | (with_reducible first | exact HB.out | apply below_alloc | apply pw_below_drewN | apply below_drew1 | refine below_set ?_ GE541.out) | exact HB.out)) hb); clear BK541; clear HB; have BK541 := n0_; have HB := n1_; clear n0_ n1_; (try clear hb); (try clear hb2); (try clear hk); (try clear hi)))
    go_ret
    exact ⟨by first | rfl | (simp [errW_none, errW_some] <;> rfl) | (simp [*, errW_none, errW_some] <;> rfl), by repeat (first | (with_reducible first | exact HB.out | apply below_alloc | apply pw_below_drewN | apply below_drew1 | refine below_set ?_ GE541.out) | exact HB.out)⟩
end Go.Proofs.Ytffaggckhneakaa.Pr
end
section
namespace Go.Proofs.Ytffaggckhneakaa.At
open Go.RowKit Go.Proofs.YtffaggckhneakaaW.PrintWords Go.Proofs.YtffaggckhneakaaW.PrintMore Go.Proofs.Ytffaggckhneakaa.Pr Go.Proofs.Ytffaggckhneakaa.Od Go.Proofs.Ytffaggckhneakaa.Cr
set_option linter.unusedVariables false
set_option linter.unusedSimpArgs false
theorem gets_end (l : List E) (x : E) (hl : l.length ≤ 4398046510976) (hr : right none l = true) (hx : okE x = true) (hs : sumL (put x l) ≤ 250) :
    Ev (fun k => undercroftlaw13_AttrGets.j1 k (put x l) x.f0 x.f1) true := by
  refine Ev.succ ?_
  simp only [undercroftlaw13_AttrGets.j1]
  have hpr := put_right hr hx
  have hpl : (put x l).length ≤ l.length + 1 := put_len
  have hrl : (rem (nb x) (put x l)).length ≤ (put x l).length := rem_len
  have hrr := rem_right (s := nb x) hpr
  have e1 : dropR (put x l) x.f0.data.toList = (rem (nb x) (put x l), 0) := by unfold dropR; rw [if_pos hpr, show getF x.f0.data.toList (put x l) = some x from put_get hr]
  have e2 : getR (rem (nb x) (put x l)) x.f0.data.toList = (⟨#[]⟩, 15) := by unfold getR; rw [if_pos hrr, show getF x.f0.data.toList (rem (nb x) (put x l)) = none from rem_get]
  have e3 : dropR (rem (nb x) (put x l)) x.f0.data.toList = ([], 15) := by unfold dropR; rw [if_pos hrr, show getF x.f0.data.toList (rem (nb x) (put x l)) = none from rem_get]
  have e4 : (encR (put x l)).2 = 0 := encR_iff.2 ⟨hpr, hs⟩
  refine Ev.bind (drop_ev (put x l) x.f0 (by omega)) ?_
  rw [e1]
  refine Ev.bind (get_ev _ x.f0 (by show (rem (nb x) (put x l)).length < _; omega)) ?_
  refine Ev.bind (drop_ev _ x.f0 (by show (rem (nb x) (put x l)).length < _; omega)) ?_
  refine Ev.bind (enc_ev (put x l) (by omega)) ?_
  simp only [e2, e3, e4, if_true, beq_self_eq_true]
  exact Ev.now _
theorem AttrGets (l : List E) (a b o : ByteArray) (hl : Fits l) : ∃ k, undercroftlaw13_AttrGets.f k l a b o = some true := by
  refine Ev.rounds ?_
  unfold Fits at hl
  unfold undercroftlaw13_AttrGets.f
  refine Ev.bind alive_ev ?_
  simp only [if_true]
  obtain ⟨x, rfl, rfl⟩ : ∃ x : E, x.f0 = a ∧ x.f1 = b := ⟨⟨a, b⟩, rfl, rfl⟩
  refine Ev.bind (set_ev l x (by omega)) ?_
  rcases setR_cases l x with ⟨hr, hx, hs, e⟩ | ⟨c, hc, e⟩
  · rw [e]
    simp only [if_true]
    have hpr := put_right hr hx
    have hpl : (put x l).length ≤ l.length + 1 := put_len
    have e1 : getR (put x l) x.f0.data.toList = (x.f1, 0) := by unfold getR; rw [if_pos hpr, show getF x.f0.data.toList (put x l) = some x from put_get hr]
    refine Ev.bind (get_ev _ x.f0 (by omega)) ?_
    rw [e1]
    simp only [if_true, bne_self_eq_false]
    refine Ev.succ ?_
    simp only [undercroftlaw13_AttrGets.j0, Bool.false_eq_true, if_false, Lib.toList_data]
    by_cases ho : o.data.toList = nb x
    · simp only [if_pos ho]
      exact gets_end l x hl hr hx hs
    · simp only [if_neg ho]
      refine Ev.bind (get_ev l o (by omega)) ?_
      refine Ev.bind (get_ev _ o (by omega)) ?_
      have e2 : getR (put x l) o.data.toList = getR l o.data.toList := by unfold getR; rw [if_pos hpr, if_pos hr, put_other hr ho]
      rw [e2]
      simp only [if_true]
      exact gets_end l x hl hr hx hs
  · rw [e]
    have hc0 : ¬ c = 0 := by omega
    simp only [if_neg hc0]
    exact Ev.now _
end Go.Proofs.Ytffaggckhneakaa.At
end
section
namespace Go.Proofs.Ytffaggckhneakaa.attrGets
open Go.ChangeShapes Go.WideShapes Go.ChangeAt Go.RowKit Go.Proofs.YtffaggckhneakaaW.PrintWords Go.Proofs.Ytffaggckhneakaa.Pr Go.Proofs.Ytffaggckhneakaa.Op Go.Joins
open Go.ChangeMaps (open_string shut_string)
set_option linter.unusedVariables false
theorem own : ownKnob Try.prog.godebug = none := by kernel_rfl
theorem laidOut : laidOutB Try.prog = true := by kernel_rfl
set_option maxRecDepth 100000 in
theorem contract (H : Type) (enc : TypeId × Value → H) (W : World) (base : Nat) (args : Array Value) (ds gs : List (DataW H)) (before : List MemPlace)
    (hval : ∀ (j : Nat) t v, Try.f5.params[j]? = some t → args[j]? = some v → Value.okWide Try.prog W .any base t v)
    (hW : DataW.Whole enc Try.prog Try.f5.params.toList Rows.attrGetsSpec.vars false W args.toList ds gs before)
    (hsz : (DataW.weightsEach Try.prog (Try.f5.params.toList ++ Rows.attrGetsSpec.plain.varTypes Try.prog) (ds ++ gs)).all (· ≤ reachBytes) = true) :
    Calls Try.prog 5 args W fun e W' => ∃ v, e = .returned v ∧ Rows.attrGetsSpec.post enc Try.prog Try.f5 false true false false W args v W' := by
  have hW' := hW
  obtain ⟨p, q, hA0, hV, rfl, hfz, hnd⟩ := hW
  have hA : DataW.TrodAll enc Try.prog W 0 (fun _ => true) true Try.f5.params.toList args.toList ds p := hA0
  rw [Try.params5] at hA hval hsz
  obtain ⟨v0, vs0, d0, ds0, p0, q0, hargs, rfl, rfl, h0, r0⟩ := trodAll_cons hA
  obtain ⟨v1, vs1, d1, ds1, p1, q1, rfl, rfl, rfl, h1, r1⟩ := trodAll_cons r0
  obtain ⟨v2, vs2, d2, ds2, p2, q2, rfl, rfl, rfl, h2, r2⟩ := trodAll_cons r1
  obtain ⟨rfl, rfl, rfl⟩ := trodAll_nil r2
  obtain rfl : args = #[v0, v1, v2] := by cases args; simp_all
  obtain ⟨rfl, rfl⟩ := trodVars_none hV
  have lt0 : ∀ x ∈ p0, x.block < W.heap.size := by obtain ⟨m, hm⟩ := h0; exact DataW.trod_lt m _ _ _ hm
  have k0 := h0
  obtain ⟨A0, l0, c0, rfl, hc0, hr0, hs0⟩ := arg_slice Try.underlying22 At.o26 (hval 0 22 v0 rfl rfl) h0 hsz (j := 0) (t := 22) rfl rfl
  have lt1 : ∀ x ∈ p1, x.block < W.heap.size := by obtain ⟨m, hm⟩ := h1; exact DataW.trod_lt m _ _ _ hm
  have k1 := h1
  obtain ⟨x1, z1, y10, y11, n1, rfl, rfl, rfl, g1, e1⟩ := open_agg2 Try.underlying26 (by kernel_rfl) (by kernel_rfl) (hval 1 26 v1 rfl rfl) h1
  obtain ⟨a1_0, hx10, _, w1_0⟩ := DataW.trod_string Try.underlying9 g1
  obtain rfl : x1 = .string a1_0 := by simpa using hx10
  obtain ⟨a1_1, hx11, _, w1_1⟩ := DataW.trod_string Try.underlying9 e1
  obtain rfl : z1 = .string a1_1 := by simpa using hx11
  have lt2 : ∀ x ∈ p2, x.block < W.heap.size := by obtain ⟨m, hm⟩ := h2; exact DataW.trod_lt m _ _ _ hm
  have k2 := h2
  obtain ⟨a2, rfl, rfl, rfl, y2⟩ := open_string Try.underlying9 (hval 2 9 v2 rfl rfl) h2
  have w2 : a2.size ≤ 140737488351232 := by
    have z := sized_string hsz (j := 2) (t := 9) rfl rfl
    rw [Array.length_toList] at z
    exact z
  clear hA0
  obtain ⟨k, hk⟩ := At.AttrGets l0 a1_0 a1_1 a2 hs0
  refine (undercroftlaw13_AttrGets.calls k A0 c0 l0 a1_0 a1_1 a2 true W hr0 hc0 hk).mono fun e W' ⟨he, bel⟩ => ?_
  subst he
  exact ⟨_, rfl, _, _, _, [], _, [], hW', trodAll_mk1 (shut_bool Try.underlying4 _), (trodAll_cons_mk (Below.trod laidOut (by kernel_rfl) (of_decide_eq_true (by kernel_rfl)) k0 bel lt0) (trodAll_cons_mk (Below.trod laidOut (by kernel_rfl) (of_decide_eq_true (by kernel_rfl)) k1 bel lt1) (trodAll_cons_mk (Below.trod laidOut (by kernel_rfl) (of_decide_eq_true (by kernel_rfl)) k2 bel lt2) trodAll_mk0))), rfl, bel.frame _, fun h => by cases h⟩
set_option maxRecDepth 100000 in
theorem lifted (os : Os) (started : os.Started) (H : Type) (enc : TypeId × Value → H) :
    ReturnsInHanded {} Try.checked os 5 .any (Rows.attrGetsSpec.pre6 enc Try.prog Try.f5 Rows.attrGetsRow.domain false) (Rows.attrGetsSpec.post enc Try.prog Try.f5 false true false false) := by
  refine returnsInHanded_of_change_sized (C := Try.checked) own started (by kernel_rfl) Try.func5
    (ChangeSpec.witness6 (enc := enc) (C := Try.checked) false ⟨#[], #[.slice none 0 0, .agg #[.string ByteArray.empty, .string ByteArray.empty], .string ByteArray.empty], []⟩ 8 (by kernel_rfl) (by kernel_rfl) (by kernel_rfl) (by kernel_rfl)) ?_
  intro W base args ds gs before hval hW _ hsz _
  exact contract H enc W base args ds gs before hval hW hsz
theorem over : Rows.attrGetsRow.holds Try.pinned (OpenSpec.ofChange Rows.attrGetsSpec) :=
  OpenClaim.holds_of_wide 5 Try.f5 rfl rfl rfl rfl rfl rfl rfl ⟨rfl, rfl, rfl, rfl, rfl⟩ rfl rfl rfl rfl rfl (by kernel_rfl) Try.func5 (by kernel_rfl)
    (of_decide_eq_true (by kernel_rfl)) (by unfold Func.isWrapper; first | (rw [if_pos (by decide +kernel)]; kernel_rfl) | (rw [if_neg (by decide +kernel)]; exact ⟨rfl, rfl⟩))
    (fun os started H enc _ => lifted os started H enc)
theorem proved : Rows.AttrGetsSaid := over
end Go.Proofs.Ytffaggckhneakaa.attrGets
namespace Go.Proofs.Ytffaggckhneakaa
theorem attrGets_holds : Rows.AttrGetsSaid := attrGets.proved
end Go.Proofs.Ytffaggckhneakaa
end
