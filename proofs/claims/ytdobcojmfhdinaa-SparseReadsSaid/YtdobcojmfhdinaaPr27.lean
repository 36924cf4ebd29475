/- The functions that this seat's laws reach, each as a function in Lean (NAME.f) with its contract (NAME.calls): printed by the kit's print.py; those that it does not take by hand. Conditions: those that each contract names. Lean checks it all. -/
import Derived.Test.YtdobcojmfhdinaaPr0
import Derived.Test.YtdobcojmfhdinaaPr12
import Derived.Test.YtdobcojmfhdinaaPr13
import Derived.Test.YtdobcojmfhdinaaPr14
import Derived.Test.YtdobcojmfhdinaaPr20
import Derived.Test.YtdobcojmfhdinaaPr24
import Derived.Test.YtdobcojmfhdinaaPr25
import Derived.Test.YtdobcojmfhdinaaPr26
namespace Go.Proofs.Ytdobcojmfhdinaa.Pr
open Go.RowKit Go.Proofs.YtdobcojmfhdinaaW.PrintWords Go.Proofs.YtdobcojmfhdinaaW.PrintLast Go.Proofs.YtdobcojmfhdinaaW.PrintMore
attribute [local go_sem] max2_int min2_int max_two min_two max_three min_three max_four min_four   -- for this text's walks alone
set_option linter.unusedVariables false
set_option linter.unusedSimpArgs false

/-! ### undercroftlaw15_SparseReads: function 5 -/
mutual
def undercroftlaw15_SparseReads.j0 : Nat → List (S33) → List (S33) → List (S33) → Bool → Option (Bool)
  | 0, _, _, _, _ => none
  | k + 1, x0, x7, x12, x16 => undercroftlaw15_SparseReads.l0 k x0 x7 x12 x16 0
def undercroftlaw15_SparseReads.l0 : Nat → List (S33) → List (S33) → List (S33) → Bool → Int → Option (Bool)
  | 0, _, _, _, _, _ => none
  | k + 1, x0, x7, x12, x16, x17 => if x17 < (x12.length : Int) then (if 0 ≤ x17 then (undercroftlaw15_SparseReads.l0 k x0 x7 (x12.set (x17 : Int).toNat (⟨0, (⟨#[]⟩ : ByteArray)⟩ : S33)) x16 (wrap64 (x17 + 1))) else (none)) else (if x16 = true then ((undercroftref15_Same.f k x7 x0).bind fun t249 => (some t249)) else (some false))
end
def undercroftlaw15_SparseReads.f (k : Nat) (l0 : List (S33)) (a1 : Int) (a2 : Int) : Option (Bool) := (undercroftlaw15_alive.f k).bind fun t231 => (if t231 = true then ((undercroftlaw15_copied.f l0).bind fun t232 => ((sparse_Bytes.f k t232 a1 a2).bind fun bt235 => ((undercroftref15_Bytes.f k l0 a1 a2).bind fun bt237 => ((sparse_Zero.f k t232 a1 a2).bind fun bt239 => ((undercroftref15_Zero.f k l0 a1 a2).bind fun bt243 => (if bt235.1.toList = bt237.1.toList then (if bt235.2 = bt237.2 then ((undercroftref15_Same.f k bt239.1 bt243.1).bind fun t247 => (if t247 = true then (undercroftlaw15_SparseReads.j0 k l0 t232 bt239.1 (bt239.2 == bt243.2)) else (undercroftlaw15_SparseReads.j0 k l0 t232 bt239.1 false))) else (undercroftlaw15_SparseReads.j0 k l0 t232 bt239.1 false)) else (undercroftlaw15_SparseReads.j0 k l0 t232 bt239.1 false))))))) else (some false))
theorem undercroftlaw15_SparseReads.mono_l : ∀ k, (∀ y0 y1 y2 y3, LeO (undercroftlaw15_SparseReads.j0 k y0 y1 y2 y3) (undercroftlaw15_SparseReads.j0 (k + 1) y0 y1 y2 y3)) ∧ (∀ y0 y1 y2 y3 y4, LeO (undercroftlaw15_SparseReads.l0 k y0 y1 y2 y3 y4) (undercroftlaw15_SparseReads.l0 (k + 1) y0 y1 y2 y3 y4))
  | 0 => ⟨fun _ _ _ _ r h => by simp [undercroftlaw15_SparseReads.j0] at h, fun _ _ _ _ _ r h => by simp [undercroftlaw15_SparseReads.l0] at h⟩
  | k + 1 => by
    obtain ⟨ih0, ih1⟩ := undercroftlaw15_SparseReads.mono_l k
    refine ⟨?_, ?_⟩
    · intro y0 y1 y2 y3
      unfold undercroftlaw15_SparseReads.j0
      repeat' first
      | (with_reducible exact ih0 _ _ _ _)
      | (with_reducible exact ih1 _ _ _ _ _)
      | (with_reducible exact sparse_Bytes.mono _ _ _ _)
      | (with_reducible exact sparse_Zero.mono _ _ _ _)
      | (with_reducible exact undercroftlaw15_alive.mono _)
      | (with_reducible exact undercroftref15_Bytes.mono _ _ _ _)
      | (with_reducible exact undercroftref15_Same.mono _ _ _)
      | (with_reducible exact undercroftref15_Zero.mono _ _ _ _)
      | (with_reducible exact LeO.refl _)
      | (with_reducible exact LeO.none _)
      | (with_reducible refine LeO.ite ?_ ?_)
      | (with_reducible refine LeO.bind ?_ (fun _ => ?_))
      | exact ih0 _ _ _ _
      | exact ih1 _ _ _ _ _
      | exact sparse_Bytes.mono _ _ _ _
      | exact sparse_Zero.mono _ _ _ _
      | exact undercroftlaw15_alive.mono _
      | exact undercroftref15_Bytes.mono _ _ _ _
      | exact undercroftref15_Same.mono _ _ _
      | exact undercroftref15_Zero.mono _ _ _ _
      | exact LeO.none _
      | refine LeO.ite ?_ ?_
      | refine LeO.bind ?_ (fun _ => ?_)
    · intro y0 y1 y2 y3 y4
      unfold undercroftlaw15_SparseReads.l0
      repeat' first
      | (with_reducible exact ih0 _ _ _ _)
      | (with_reducible exact ih1 _ _ _ _ _)
      | (with_reducible exact sparse_Bytes.mono _ _ _ _)
      | (with_reducible exact sparse_Zero.mono _ _ _ _)
      | (with_reducible exact undercroftlaw15_alive.mono _)
      | (with_reducible exact undercroftref15_Bytes.mono _ _ _ _)
      | (with_reducible exact undercroftref15_Same.mono _ _ _)
      | (with_reducible exact undercroftref15_Zero.mono _ _ _ _)
      | (with_reducible exact LeO.refl _)
      | (with_reducible exact LeO.none _)
      | (with_reducible refine LeO.ite ?_ ?_)
      | (with_reducible refine LeO.bind ?_ (fun _ => ?_))
      | exact ih0 _ _ _ _
      | exact ih1 _ _ _ _ _
      | exact sparse_Bytes.mono _ _ _ _
      | exact sparse_Zero.mono _ _ _ _
      | exact undercroftlaw15_alive.mono _
      | exact undercroftref15_Bytes.mono _ _ _ _
      | exact undercroftref15_Same.mono _ _ _
      | exact undercroftref15_Zero.mono _ _ _ _
      | exact LeO.none _
      | refine LeO.ite ?_ ?_
      | refine LeO.bind ?_ (fun _ => ?_)
theorem undercroftlaw15_SparseReads.mono : ∀ a0 a1 a2 k, LeO (undercroftlaw15_SparseReads.f k a0 a1 a2) (undercroftlaw15_SparseReads.f (k + 1) a0 a1 a2) := by
  intro a0 a1 a2 k
  obtain ⟨ih0, ih1⟩ := undercroftlaw15_SparseReads.mono_l k
  unfold undercroftlaw15_SparseReads.f
  repeat' first
      | (with_reducible exact ih0 _ _ _ _)
      | (with_reducible exact ih1 _ _ _ _ _)
      | (with_reducible exact sparse_Bytes.mono _ _ _ _)
      | (with_reducible exact sparse_Zero.mono _ _ _ _)
      | (with_reducible exact undercroftlaw15_alive.mono _)
      | (with_reducible exact undercroftref15_Bytes.mono _ _ _ _)
      | (with_reducible exact undercroftref15_Same.mono _ _ _)
      | (with_reducible exact undercroftref15_Zero.mono _ _ _ _)
      | (with_reducible exact LeO.refl _)
      | (with_reducible exact LeO.none _)
      | (with_reducible refine LeO.ite ?_ ?_)
      | (with_reducible refine LeO.bind ?_ (fun _ => ?_))
      | exact ih0 _ _ _ _
      | exact ih1 _ _ _ _ _
      | exact sparse_Bytes.mono _ _ _ _
      | exact sparse_Zero.mono _ _ _ _
      | exact undercroftlaw15_alive.mono _
      | exact undercroftref15_Bytes.mono _ _ _ _
      | exact undercroftref15_Same.mono _ _ _
      | exact undercroftref15_Zero.mono _ _ _ _
      | exact LeO.none _
      | refine LeO.ite ?_ ?_
      | refine LeO.bind ?_ (fun _ => ?_)
set_option maxHeartbeats 8000000 in
set_option maxRecDepth 100000 in
theorem undercroftlaw15_SparseReads.calls (k : Nat) (A0 : Option Addr) (c0 : Nat) (l0 : List (S33)) (a1 : Int) (a2 : Int) (r : Bool) (w : World) (hr0 : Kd.C k33 w A0 l0.length l0) (hc0 : l0.length ≤ c0) (h : undercroftlaw15_SparseReads.f k l0 a1 a2 = some r) :
    Calls Try.prog 5 #[.slice A0 l0.length c0, .int .i64 a1, .int .i64 a2] w fun e w' => e = .returned (.bool r) ∧ Below w.heap.size w w' := by
  have hu33 := Try.underlying33
  have HR0 := Aside0.mk hr0
  have HC0 := Aside0.mk hc0
  clear hr0 hc0
  have HB := Aside0.mk (Below.refl w.heap.size w)
  have H : ((undercroftlaw15_alive.f k).bind fun t231 => (if t231 = true then ((undercroftlaw15_copied.f l0).bind fun t232 => ((sparse_Bytes.f k t232 a1 a2).bind fun bt235 => ((undercroftref15_Bytes.f k l0 a1 a2).bind fun bt237 => ((sparse_Zero.f k t232 a1 a2).bind fun bt239 => ((undercroftref15_Zero.f k l0 a1 a2).bind fun bt243 => (if bt235.1.toList = bt237.1.toList then (if bt235.2 = bt237.2 then ((undercroftref15_Same.f k bt239.1 bt243.1).bind fun t247 => (if t247 = true then (undercroftlaw15_SparseReads.j0 k l0 t232 bt239.1 (bt239.2 == bt243.2)) else (undercroftlaw15_SparseReads.j0 k l0 t232 bt239.1 false))) else (undercroftlaw15_SparseReads.j0 k l0 t232 bt239.1 false)) else (undercroftlaw15_SparseReads.j0 k l0 t232 bt239.1 false))))))) else (some false))) = some r := h
  clear h
  replace H := Option.bind_eq_some_iff.mp H
  obtain ⟨t231, A40, H⟩ := H
  replace H : (if t231 = true then ((undercroftlaw15_copied.f l0).bind fun t232 => ((sparse_Bytes.f k t232 a1 a2).bind fun bt235 => ((undercroftref15_Bytes.f k l0 a1 a2).bind fun bt237 => ((sparse_Zero.f k t232 a1 a2).bind fun bt239 => ((undercroftref15_Zero.f k l0 a1 a2).bind fun bt243 => (if bt235.1.toList = bt237.1.toList then (if bt235.2 = bt237.2 then ((undercroftref15_Same.f k bt239.1 bt243.1).bind fun t247 => (if t247 = true then (undercroftlaw15_SparseReads.j0 k l0 t232 bt239.1 (bt239.2 == bt243.2)) else (undercroftlaw15_SparseReads.j0 k l0 t232 bt239.1 false))) else (undercroftlaw15_SparseReads.j0 k l0 t232 bt239.1 false)) else (undercroftlaw15_SparseReads.j0 k l0 t232 bt239.1 false))))))) else (some false)) = some r := H
  have A4 := Aside0.mk A40
  clear A40
  by_cases c5 : t231 = true
  · subst c5
    have H1 : ((undercroftlaw15_copied.f l0).bind fun t232 => ((sparse_Bytes.f k t232 a1 a2).bind fun bt235 => ((undercroftref15_Bytes.f k l0 a1 a2).bind fun bt237 => ((sparse_Zero.f k t232 a1 a2).bind fun bt239 => ((undercroftref15_Zero.f k l0 a1 a2).bind fun bt243 => (if bt235.1.toList = bt237.1.toList then (if bt235.2 = bt237.2 then ((undercroftref15_Same.f k bt239.1 bt243.1).bind fun t247 => (if t247 = true then (undercroftlaw15_SparseReads.j0 k l0 t232 bt239.1 (bt239.2 == bt243.2)) else (undercroftlaw15_SparseReads.j0 k l0 t232 bt239.1 false))) else (undercroftlaw15_SparseReads.j0 k l0 t232 bt239.1 false)) else (undercroftlaw15_SparseReads.j0 k l0 t232 bt239.1 false))))))) = some r := by rw [if_pos rfl] at H; exact H
    clear H
    have H := H1
    clear H1
    replace H := Option.bind_eq_some_iff.mp H
    obtain ⟨t232, A60, H⟩ := H
    replace H : ((sparse_Bytes.f k t232 a1 a2).bind fun bt235 => ((undercroftref15_Bytes.f k l0 a1 a2).bind fun bt237 => ((sparse_Zero.f k t232 a1 a2).bind fun bt239 => ((undercroftref15_Zero.f k l0 a1 a2).bind fun bt243 => (if bt235.1.toList = bt237.1.toList then (if bt235.2 = bt237.2 then ((undercroftref15_Same.f k bt239.1 bt243.1).bind fun t247 => (if t247 = true then (undercroftlaw15_SparseReads.j0 k l0 t232 bt239.1 (bt239.2 == bt243.2)) else (undercroftlaw15_SparseReads.j0 k l0 t232 bt239.1 false))) else (undercroftlaw15_SparseReads.j0 k l0 t232 bt239.1 false)) else (undercroftlaw15_SparseReads.j0 k l0 t232 bt239.1 false)))))) = some r := H
    have A6 := Aside0.mk A60
    clear A60
    replace H := Option.bind_eq_some_iff.mp H
    obtain ⟨⟨t235, t236⟩, A70, H⟩ := H
    replace H : ((undercroftref15_Bytes.f k l0 a1 a2).bind fun bt237 => ((sparse_Zero.f k t232 a1 a2).bind fun bt239 => ((undercroftref15_Zero.f k l0 a1 a2).bind fun bt243 => (if t235.toList = bt237.1.toList then (if t236 = bt237.2 then ((undercroftref15_Same.f k bt239.1 bt243.1).bind fun t247 => (if t247 = true then (undercroftlaw15_SparseReads.j0 k l0 t232 bt239.1 (bt239.2 == bt243.2)) else (undercroftlaw15_SparseReads.j0 k l0 t232 bt239.1 false))) else (undercroftlaw15_SparseReads.j0 k l0 t232 bt239.1 false)) else (undercroftlaw15_SparseReads.j0 k l0 t232 bt239.1 false))))) = some r := H
    have A7 := Aside0.mk A70
    clear A70
    replace H := Option.bind_eq_some_iff.mp H
    obtain ⟨⟨t237, t238⟩, A80, H⟩ := H
    replace H : ((sparse_Zero.f k t232 a1 a2).bind fun bt239 => ((undercroftref15_Zero.f k l0 a1 a2).bind fun bt243 => (if t235.toList = t237.toList then (if t236 = t238 then ((undercroftref15_Same.f k bt239.1 bt243.1).bind fun t247 => (if t247 = true then (undercroftlaw15_SparseReads.j0 k l0 t232 bt239.1 (bt239.2 == bt243.2)) else (undercroftlaw15_SparseReads.j0 k l0 t232 bt239.1 false))) else (undercroftlaw15_SparseReads.j0 k l0 t232 bt239.1 false)) else (undercroftlaw15_SparseReads.j0 k l0 t232 bt239.1 false)))) = some r := H
    have A8 := Aside0.mk A80
    clear A80
    replace H := Option.bind_eq_some_iff.mp H
    obtain ⟨⟨t239, t240⟩, A90, H⟩ := H
    replace H : ((undercroftref15_Zero.f k l0 a1 a2).bind fun bt243 => (if t235.toList = t237.toList then (if t236 = t238 then ((undercroftref15_Same.f k t239 bt243.1).bind fun t247 => (if t247 = true then (undercroftlaw15_SparseReads.j0 k l0 t232 t239 (t240 == bt243.2)) else (undercroftlaw15_SparseReads.j0 k l0 t232 t239 false))) else (undercroftlaw15_SparseReads.j0 k l0 t232 t239 false)) else (undercroftlaw15_SparseReads.j0 k l0 t232 t239 false))) = some r := H
    have A9 := Aside0.mk A90
    clear A90
    replace H := Option.bind_eq_some_iff.mp H
    obtain ⟨⟨t243, t244⟩, A100, H⟩ := H
    replace H : (if t235.toList = t237.toList then (if t236 = t238 then ((undercroftref15_Same.f k t239 t243).bind fun t247 => (if t247 = true then (undercroftlaw15_SparseReads.j0 k l0 t232 t239 (t240 == t244)) else (undercroftlaw15_SparseReads.j0 k l0 t232 t239 false))) else (undercroftlaw15_SparseReads.j0 k l0 t232 t239 false)) else (undercroftlaw15_SparseReads.j0 k l0 t232 t239 false)) = some r := H
    have A10 := Aside0.mk A100
    clear A100
    have HC11 := Aside0.mk H
    clear H
    go_enter Try.func5, Try.ntmps5
    go_upto_region 8 with (first | ((with_reducible refine gate_callee (f := 9) rfl ?_); refine goesL_ (some 18) rfl rfl Try.func9 (by kernel_rfl) rfl #[] rfl (by (try simp only [List.map_toArray, List.map_cons, List.map_nil]); first | done | rfl | (simp only [List.length_drop, List.length_take]; rfl)) ?_; (with_reducible refine (undercroftlaw15_alive.calls k  true _ A4.out).mono ?_); rintro e w12 ⟨rfl, hb⟩; refine ⟨_, rfl, ?_⟩; have n0_ := Aside0.mk (below_step (by repeat (first | (with_reducible first | exact HB.out | apply below_alloc | apply pw_below_drewN | apply below_drew1) | exact HB.out)) hb); clear HB; have HB := n0_; clear n0_; (try clear hb); (try clear hb2); (try clear hk); (try clear hi)) | ((with_reducible refine gate_callee (f := 10) rfl ?_); refine goesL_ (some 21) rfl rfl Try.func10 (by kernel_rfl) rfl #[.slice A0 l0.length c0] rfl (by (try simp only [List.map_toArray, List.map_cons, List.map_nil]); first | done | rfl | (simp only [List.length_drop, List.length_take]; rfl)) ?_; (with_reducible refine (undercroftlaw15_copied.calls _ _ l0 t232 _ ?side1 ?side2 A6.out).mono ?_); (case side1 => repeat (first | exact (Kd.C_below HR0.out HB.out) | (with_reducible refine Kd.C_alloc ?_ _) | (with_reducible refine Kd.C_drewN ?_ _) | (with_reducible refine Kd.C_drew ?_))); (case side2 => exact HC0.out); rintro e w13 ⟨v233, rfl, ho0, hb⟩; refine ⟨_, rfl, ?_⟩; have n0_ := Aside0.mk (Kd.R_lower ho0 (below_size (by repeat (first | (with_reducible first | exact HB.out | apply below_alloc | apply pw_below_drewN | apply below_drew1) | exact HB.out)))); have n1_ := Aside0.mk (below_step (by repeat (first | (with_reducible first | exact HB.out | apply below_alloc | apply pw_below_drewN | apply below_drew1) | exact HB.out)) hb); clear HB; have HO234 := n0_; have HB := n1_; clear n0_ n1_; (try clear hb); (try clear hb2); (try clear hk); (try clear hi); (try clear ho0); obtain ⟨Ao14, co14, eo14⟩ := Kd.R_slice HO234.out; subst eo14) | ((with_reducible refine gate_callee (f := 20) rfl ?_); refine goesL_ (some 26) rfl rfl Try.func20 (by kernel_rfl) rfl #[.slice Ao14 t232.length co14, .int .i64 a1, .int .i64 a2] rfl (by (try simp only [List.map_toArray, List.map_cons, List.map_nil]); first | done | rfl | (simp only [List.length_drop, List.length_take]; rfl)) ?_; (with_reducible refine (sparse_Bytes.calls k _ _ t232 a1 a2 t235 t236 _ ?side1 ?side2 A7.out).mono ?_); (case side1 => repeat (first | exact (Kd.R_reads' HO234.out).2.2 | (with_reducible refine Kd.C_alloc ?_ _) | (with_reducible refine Kd.C_drewN ?_ _) | (with_reducible refine Kd.C_drew ?_))); (case side2 => exact (Kd.R_reads' HO234.out).2.1); rintro e w15 ⟨rfl, hb⟩; refine ⟨_, rfl, ?_⟩; have n0_ := Aside0.mk (Kd.R_below (by (with_reducible repeat (first | apply Kd.R_alloc | apply Kd.R_drewN | apply Kd.R_drew)); exact HO234.out) hb); have n1_ := Aside0.mk (below_step (by repeat (first | (with_reducible first | exact HB.out | apply below_alloc | apply pw_below_drewN | apply below_drew1) | exact HB.out)) hb); clear HO234; clear HB; have HO234 := n0_; have HB := n1_; clear n0_ n1_; (try clear hb); (try clear hb2); (try clear hk); (try clear hi)) | ((with_reducible refine gate_callee (f := 21) rfl ?_); refine goesL_ (some 33) rfl rfl Try.func21 (by kernel_rfl) rfl #[.slice A0 l0.length c0, .int .i64 a1, .int .i64 a2] rfl (by (try simp only [List.map_toArray, List.map_cons, List.map_nil]); first | done | rfl | (simp only [List.length_drop, List.length_take]; rfl)) ?_; (with_reducible refine (undercroftref15_Bytes.calls k _ _ l0 a1 a2 t237 t238 _ ?side1 ?side2 A8.out).mono ?_); (case side1 => repeat (first | exact (Kd.C_below HR0.out HB.out) | (with_reducible refine Kd.C_alloc ?_ _) | (with_reducible refine Kd.C_drewN ?_ _) | (with_reducible refine Kd.C_drew ?_))); (case side2 => exact HC0.out); rintro e w16 ⟨rfl, hb⟩; refine ⟨_, rfl, ?_⟩; have n0_ := Aside0.mk (Kd.R_below (by (with_reducible repeat (first | apply Kd.R_alloc | apply Kd.R_drewN | apply Kd.R_drew)); exact HO234.out) hb); have n1_ := Aside0.mk (below_step (by repeat (first | (with_reducible first | exact HB.out | apply below_alloc | apply pw_below_drewN | apply below_drew1) | exact HB.out)) hb); clear HO234; clear HB; have HO234 := n0_; have HB := n1_; clear n0_ n1_; (try clear hb); (try clear hb2); (try clear hk); (try clear hi)) | ((with_reducible refine gate_callee (f := 22) rfl ?_); refine goesL_ (some 40) rfl rfl Try.func22 (by kernel_rfl) rfl #[.slice Ao14 t232.length co14, .int .i64 a1, .int .i64 a2] rfl (by (try simp only [List.map_toArray, List.map_cons, List.map_nil]); first | done | rfl | (simp only [List.length_drop, List.length_take]; rfl)) ?_; (with_reducible refine (sparse_Zero.calls k _ _ t232 a1 a2 t239 t240 _ ?side1 ?side2 A9.out).mono ?_); (case side1 => repeat (first | exact (Kd.R_reads' HO234.out).2.2 | (with_reducible refine Kd.C_alloc ?_ _) | (with_reducible refine Kd.C_drewN ?_ _) | (with_reducible refine Kd.C_drew ?_))); (case side2 => exact (Kd.R_reads' HO234.out).2.1); rintro e w17 ⟨v241, rfl, ho0, hb⟩; refine ⟨_, rfl, ?_⟩; have n0_ := Aside0.mk (Kd.R_elder' (by (with_reducible repeat (first | apply Kd.R_alloc | apply Kd.R_drewN | apply Kd.R_drew)); exact HO234.out) (Kd.R_base ho0) hb); have n1_ := Aside0.mk (Kd.R_lower (Kd.R_new' ho0 (Kd.R_lt (by (with_reducible repeat (first | apply Kd.R_alloc | apply Kd.R_drewN | apply Kd.R_drew)); exact HO234.out))) (below_size (by repeat (first | (with_reducible first | exact HB.out | apply below_alloc | apply pw_below_drewN | apply below_drew1) | exact HB.out)))); have n2_ := Aside0.mk (below_step (by repeat (first | (with_reducible first | exact HB.out | apply below_alloc | apply pw_below_drewN | apply below_drew1) | exact HB.out)) hb); clear HO234; clear HB; have HO234 := n0_; have HO242 := n1_; have HB := n2_; clear n0_ n1_ n2_; (try clear hb); (try clear hb2); (try clear hk); (try clear hi); (try clear ho0)) | ((with_reducible refine gate_callee (f := 23) rfl ?_); refine goesL_ (some 47) rfl rfl Try.func23 (by kernel_rfl) rfl #[.slice A0 l0.length c0, .int .i64 a1, .int .i64 a2] rfl (by (try simp only [List.map_toArray, List.map_cons, List.map_nil]); first | done | rfl | (simp only [List.length_drop, List.length_take]; rfl)) ?_; (with_reducible refine (undercroftref15_Zero.calls k _ _ l0 a1 a2 t243 t244 _ ?side1 ?side2 A10.out).mono ?_); (case side1 => repeat (first | exact (Kd.C_below HR0.out HB.out) | (with_reducible refine Kd.C_alloc ?_ _) | (with_reducible refine Kd.C_drewN ?_ _) | (with_reducible refine Kd.C_drew ?_))); (case side2 => exact HC0.out); rintro e w18 ⟨v245, rfl, ho0, hb⟩; refine ⟨_, rfl, ?_⟩; have n0_ := Aside0.mk (Kd.R_elder' (by (with_reducible repeat (first | apply Kd.R_alloc | apply Kd.R_drewN | apply Kd.R_drew)); exact HO234.out) (Kd.R_base ho0) hb); have n1_ := Aside0.mk (Kd.R_elder' (by (with_reducible repeat (first | apply Kd.R_alloc | apply Kd.R_drewN | apply Kd.R_drew)); exact HO242.out) (Kd.R_base ho0) hb); have n2_ := Aside0.mk (Kd.R_lower (Kd.R_new' (Kd.R_new' ho0 (Kd.R_lt (by (with_reducible repeat (first | apply Kd.R_alloc | apply Kd.R_drewN | apply Kd.R_drew)); exact HO234.out))) (Kd.R_lt (by (with_reducible repeat (first | apply Kd.R_alloc | apply Kd.R_drewN | apply Kd.R_drew)); exact HO242.out))) (below_size (by repeat (first | (with_reducible first | exact HB.out | apply below_alloc | apply pw_below_drewN | apply below_drew1) | exact HB.out)))); have n3_ := Aside0.mk (below_step (by repeat (first | (with_reducible first | exact HB.out | apply below_alloc | apply pw_below_drewN | apply below_drew1) | exact HB.out)) hb); clear HO234; clear HO242; clear HB; have HO234 := n0_; have HO242 := n1_; have HO246 := n2_; have HB := n3_; clear n0_ n1_ n2_ n3_; (try clear hb); (try clear hb2); (try clear hk); (try clear hi); (try clear ho0)))
    (try simp only [Act.put, List.setIfInBounds_toArray, List.set_cons_zero, List.set_cons_succ])
    go_cut [16] (fun v16 wc => ∃ (kq : Nat) (x16_10 : Bool), v16 = .bool x16_10 ∧ Aside0 (undercroftlaw15_SparseReads.j0 kq l0 t232 t239 x16_10 = some r) ∧ Aside0 (kq ≤ k) ∧ Aside0 (Kd.R k33 33 wc w.heap.size (fun k_ => some k_ ≠ (v241 : Value).ownBlock) (.slice Ao14 t232.length co14) t232) ∧ Aside0 (Kd.R k33 33 wc w.heap.size (fun k_ => some k_ ≠ ((.slice Ao14 t232.length co14) : Value).ownBlock) v241 t239) ∧ Aside0 (Below w.heap.size w wc))
    case first =>
      have H := HC11.out
      clear HC11
      by_cases c19 : t235.toList = t237.toList
      · rw [if_pos c19] at H
        have c19b0 : (t235.toList == t237.toList) = true := beq_iff_eq.mpr c19
        have c19b1 : (t235.toList != t237.toList) = false := bne_eq_false_iff_eq.mpr c19
        clear c19
        (first | rw [c19b0] | (simp only [i64_w, i32_w]; rw [c19b0]) | skip)
        by_cases c20 : t236 = t238
        · rw [if_pos c20] at H
          have c20b0 : (t236 == t238) = true := beq_iff_eq.mpr c20
          have c20b1 : (t236 != t238) = false := bne_eq_false_iff_eq.mpr c20
          clear c20
          replace H := Option.bind_eq_some_iff.mp H
          obtain ⟨t247, A210, H⟩ := H
          replace H : (if t247 = true then (undercroftlaw15_SparseReads.j0 k l0 t232 t239 (t240 == t244)) else (undercroftlaw15_SparseReads.j0 k l0 t232 t239 false)) = some r := H
          have A21 := Aside0.mk A210
          clear A210
          by_cases c22 : t247 = true
          · subst c22
            have H1 : (undercroftlaw15_SparseReads.j0 k l0 t232 t239 (t240 == t244)) = some r := by rw [if_pos rfl] at H; exact H
            clear H
            have H := H1
            clear H1
            have H' := Aside0.mk H
            clear H
            obtain ⟨Ao23, co23, eo23⟩ := Kd.R_slice HO242.out
            subst eo23
            obtain ⟨Ao24, co24, eo24⟩ := Kd.R_slice HO246.out
            subst eo24
            go_wp2_with (first | (go_at_call 15; (with_reducible refine (undercroftref15_Same.calls k _ _ t239 _ _ t243 true _ ?side1 ?side2 ?side3 ?side4 A21.out).mono ?_); (case side1 => repeat (first | exact (Kd.R_reads' HO242.out).2.2 | (with_reducible refine Kd.C_alloc ?_ _) | (with_reducible refine Kd.C_drewN ?_ _) | (with_reducible refine Kd.C_drew ?_))); (case side2 => exact (Kd.R_reads' HO242.out).2.1); (case side3 => repeat (first | exact (Kd.R_reads' HO246.out).2.2 | (with_reducible refine Kd.C_alloc ?_ _) | (with_reducible refine Kd.C_drewN ?_ _) | (with_reducible refine Kd.C_drew ?_))); (case side4 => exact (Kd.R_reads' HO246.out).2.1); rintro e w' ⟨rfl, ⟨nd, rfl⟩⟩))
            go_meet
            case rel => exact ⟨_, ((t240 == t244)), (by first | rfl | (simp; done) | (simp [*]; done)), H', ⟨by first | omega | exact Nat.le_refl _⟩, ⟨by (with_reducible repeat (first | apply Kd.R_alloc | apply Kd.R_drewN | apply Kd.R_drew)); exact Kd.R_mono HO234.out (fun _ hk => hk.1.2)⟩, ⟨by (with_reducible repeat (first | apply Kd.R_alloc | apply Kd.R_drewN | apply Kd.R_drew)); exact Kd.R_mono HO242.out (fun _ hk => hk.1.2)⟩, ⟨by repeat (first | (with_reducible first | exact HB.out | apply below_alloc | apply pw_below_drewN | apply below_drew1) | exact HB.out)⟩⟩
          · replace c22 := Bool.eq_false_iff.mpr c22
            subst c22
            have H1 : (undercroftlaw15_SparseReads.j0 k l0 t232 t239 false) = some r := by rw [if_neg (show ¬ (false = true) by decide)] at H; exact H
            clear H
            have H := H1
            clear H1
            have H' := Aside0.mk H
            clear H
            obtain ⟨Ao25, co25, eo25⟩ := Kd.R_slice HO242.out
            subst eo25
            obtain ⟨Ao26, co26, eo26⟩ := Kd.R_slice HO246.out
            subst eo26
            go_wp2_with (first | (go_at_call 15; (with_reducible refine (undercroftref15_Same.calls k _ _ t239 _ _ t243 false _ ?side1 ?side2 ?side3 ?side4 A21.out).mono ?_); (case side1 => repeat (first | exact (Kd.R_reads' HO242.out).2.2 | (with_reducible refine Kd.C_alloc ?_ _) | (with_reducible refine Kd.C_drewN ?_ _) | (with_reducible refine Kd.C_drew ?_))); (case side2 => exact (Kd.R_reads' HO242.out).2.1); (case side3 => repeat (first | exact (Kd.R_reads' HO246.out).2.2 | (with_reducible refine Kd.C_alloc ?_ _) | (with_reducible refine Kd.C_drewN ?_ _) | (with_reducible refine Kd.C_drew ?_))); (case side4 => exact (Kd.R_reads' HO246.out).2.1); rintro e w' ⟨rfl, ⟨nd, rfl⟩⟩))
            go_meet
            case rel => exact ⟨_, (false), (by first | rfl | (simp; done) | (simp [*]; done)), H', ⟨by first | omega | exact Nat.le_refl _⟩, ⟨by (with_reducible repeat (first | apply Kd.R_alloc | apply Kd.R_drewN | apply Kd.R_drew)); exact Kd.R_mono HO234.out (fun _ hk => hk.1.2)⟩, ⟨by (with_reducible repeat (first | apply Kd.R_alloc | apply Kd.R_drewN | apply Kd.R_drew)); exact Kd.R_mono HO242.out (fun _ hk => hk.1.2)⟩, ⟨by repeat (first | (with_reducible first | exact HB.out | apply below_alloc | apply pw_below_drewN | apply below_drew1) | exact HB.out)⟩⟩
        · rw [if_neg c20] at H
          have c20b0 : (t236 == t238) = false := beq_eq_false_iff_ne.mpr c20
          have c20b1 : (t236 != t238) = true := bne_iff_ne.mpr c20
          have H' := Aside0.mk H
          clear H
          go_wp2
          go_meet
          case rel => exact ⟨_, (false), (by first | rfl | (simp; done) | (simp [*]; done)), H', ⟨by first | omega | exact Nat.le_refl _⟩, ⟨by (with_reducible repeat (first | apply Kd.R_alloc | apply Kd.R_drewN | apply Kd.R_drew)); exact Kd.R_mono HO234.out (fun _ hk => hk.1.2)⟩, ⟨by (with_reducible repeat (first | apply Kd.R_alloc | apply Kd.R_drewN | apply Kd.R_drew)); exact Kd.R_mono HO242.out (fun _ hk => hk.1.2)⟩, ⟨by repeat (first | (with_reducible first | exact HB.out | apply below_alloc | apply pw_below_drewN | apply below_drew1) | exact HB.out)⟩⟩
      · rw [if_neg c19] at H
        have c19b0 : (t235.toList == t237.toList) = false := beq_eq_false_iff_ne.mpr c19
        have c19b1 : (t235.toList != t237.toList) = true := bne_iff_ne.mpr c19
        (first | rw [c19b0] | (simp only [i64_w, i32_w]; rw [c19b0]) | skip)
        have H' := Aside0.mk H
        clear H
        go_wp2
        go_meet
        case rel => exact ⟨_, (false), (by first | rfl | (simp; done) | (simp [*]; done)), H', ⟨by first | omega | exact Nat.le_refl _⟩, ⟨by (with_reducible repeat (first | apply Kd.R_alloc | apply Kd.R_drewN | apply Kd.R_drew)); exact Kd.R_mono HO234.out (fun _ hk => hk.1.2)⟩, ⟨by (with_reducible repeat (first | apply Kd.R_alloc | apply Kd.R_drewN | apply Kd.R_drew)); exact Kd.R_mono HO242.out (fun _ hk => hk.1.2)⟩, ⟨by repeat (first | (with_reducible first | exact HB.out | apply below_alloc | apply pw_below_drewN | apply below_drew1) | exact HB.out)⟩⟩
    case rest =>
      clear HC11
      try clear c1
      try clear c2
      try clear p2
      try clear c5
      try clear c9
      try clear c10
      try clear c19
      try clear c19b0
      try clear c19b1
      try clear c20
      try clear c20b0
      try clear c20b1
      try clear c21
      try clear c22
      try clear c23
      obtain ⟨kq, x16_10, rfl, HA, HJ10, HO_7, HO_12, HB⟩ := hcut
      cases kq with
      | zero => exact absurd HA.out (by simp [undercroftlaw15_SparseReads.j0])
      | succ kj10 =>
        have H := HA.out
        clear HA
        simp only [undercroftlaw15_SparseReads.j0] at H
        have H' := Aside0.mk H
        clear H
        go_wp2
        go_loopg [17] kj10 (fun kq v17 w' => ∃ (x12_2 : List (S33)) (x17_2 : Int), v17 = .int .i64 x17_2 ∧ Aside0 (undercroftlaw15_SparseReads.l0 kq l0 t232 x12_2 x16_10 x17_2 = some r) ∧ Aside0 (kq ≤ kj10) ∧ Aside0 (Kd.R k33 33 w' w.heap.size (fun k_ => some k_ ≠ (v241 : Value).ownBlock) (.slice Ao14 t232.length co14) t232) ∧ Aside0 (Kd.R k33 33 w' w.heap.size (fun k_ => some k_ ≠ ((.slice Ao14 t232.length co14) : Value).ownBlock) v241 x12_2) ∧ Aside0 (Below w.heap.size w w'))
        case atStart => exact ⟨(t239), (0), (by first | rfl | (simp; done) | (simp [*]; done)), H', ⟨Nat.le_refl _⟩, ⟨by (with_reducible repeat (first | apply Kd.R_alloc | apply Kd.R_drewN | apply Kd.R_drew)); exact HO_7.out⟩, ⟨by (with_reducible repeat (first | apply Kd.R_alloc | apply Kd.R_drewN | apply Kd.R_drew)); exact HO_12.out⟩, ⟨by repeat (first | (with_reducible first | exact HB.out | apply below_alloc | apply pw_below_drewN | apply below_drew1) | exact HB.out)⟩⟩
        case round =>
          clear H'
          try clear c1
          try clear c2
          try clear p2
          try clear c5
          try clear c9
          try clear c10
          try clear c19
          try clear c19b0
          try clear c19b1
          try clear c20
          try clear c20b0
          try clear c20b1
          try clear c21
          try clear c22
          try clear c23
          try clear p2
          obtain ⟨x12_2, x17_2, rfl, HA, HK2, HO_7, HO_12, HB⟩ := hrel
          cases gk with
          | zero => exact absurd HA.out (by simp [undercroftlaw15_SparseReads.l0])
          | succ k2 =>
            have H := HA.out
            clear HA
            simp only [undercroftlaw15_SparseReads.l0] at H
            by_cases c27 : x17_2 < (x12_2.length : Int)
            · rw [if_pos c27] at H
              have c27b0 : decide (x17_2 < (x12_2.length : Int)) = true := decide_eq_true c27
              clear c27
              by_cases c28 : 0 ≤ x17_2
              · rw [if_pos c28] at H
                have c28b0 : decide (0 ≤ x17_2) = true := decide_eq_true c28
                clear c28
                obtain ⟨y248, hy248⟩ : ∃ y_ : List (S33), y_ = (x12_2.set (x17_2 : Int).toNat (⟨0, (⟨#[]⟩ : ByteArray)⟩ : S33)) := ⟨_, rfl⟩
                replace H : (undercroftlaw15_SparseReads.l0 k2 l0 t232 y248 x16_10 (wrap64 (x17_2 + 1))) = some r := by first | (rw [hy248]; with_reducible exact H) | (have H2_ := (Option.bind_some _ _).symm.trans H; rw [hy248]; with_reducible exact H2_) | (have H2_ := (Option.bind_some _ _).symm.trans H; with_reducible exact H2_) | with_reducible exact H | (rw [hy248]; exact H) | exact H
                have Ny248 := Aside0.mk hy248
                clear hy248
                have H' := Aside0.mk H
                clear H
                obtain ⟨Ao30, co30, eo30⟩ := Kd.R_slice HO_12.out
                subst eo30
                have p29 : 0 ≤ (x17_2 : Int) := of_decide_eq_true (by first | (with_reducible assumption) | assumption)
                have q29 : (x17_2 : Int) < ((x12_2.length : Int) : Int) := of_decide_eq_true (by first | (with_reducible assumption) | assumption)
                obtain ⟨go29, co29, eo29, gb29, gl29, cl29, HG29⟩ := Kd.R_form HO_12.out (by omega)
                (first | cases eo29 | (injection eo29 with ea_ en_ ec_; (first | subst ea_ | (injection ea_ with ea_; subst ea_)); subst ec_; clear en_))
                have GB29 := Aside0.mk gb29
                have GG29 := Aside0.mk HG29
                clear gb29 gl29 HG29
                obtain ⟨ce29, hcl29, hM29, hcc29, hfr29⟩ := Kd.R_elem HO_12.out z33 (x17_2 : Int) p29 q29
                obtain rfl := k33_openM hM29
                have hx29_0 : wr.cell? ⟨go29, (x17_2 : Int).toNat * 2, none⟩ = some (.int .i64 ((rd_T33 x12_2 x17_2).f0)) := hcc29 0 _ rfl
                have hx29_1 : wr.cell? ⟨go29, (x17_2 : Int).toNat * 2 + 1, none⟩ = some (.string ((rd_T33 x12_2 x17_2).f1)) := hcc29 1 _ rfl
                have hf29_0 : wr.frozen? ⟨go29, (x17_2 : Int).toNat * 2, none⟩ = false := hfr29 0
                have hf29_1 : wr.frozen? ⟨go29, (x17_2 : Int).toNat * 2 + 1, none⟩ = false := hfr29 1
                clear hcl29 hcc29 hfr29 hM29
                replace p29 := eq_true p29
                replace q29 := eq_true q29
                have HX31 := Aside0.mk (show Kd.R k33 33 wr w.heap.size (fun k_ => some k_ ≠ (.slice Ao14 t232.length co14 : Value).ownBlock) (.slice (some ⟨go29, 0, none⟩) x12_2.length co30) x12_2 from (by (with_reducible repeat (first | apply Kd.R_alloc | apply Kd.R_drewN | apply Kd.R_drew)); exact HO_12.out))
                obtain ⟨ce31, hcl31, hM31, hcc31, hfr31⟩ := Kd.R_elem HX31.out z33 (x17_2 : Int) (of_decide_eq_true (by first | (with_reducible assumption) | assumption)) (by have h_ : (x17_2 : Int) < ((x12_2.length : Int) : Int) := of_decide_eq_true (by first | (with_reducible assumption) | assumption); first | exact h_ | (have e_ := (Kd.R_reads' HO_12.out).1; omega) | simpa using h_)
                obtain rfl := k33_openM hM31
                have HP31 := Kd.R_seg HX31.out (x17_2 : Int) (of_decide_eq_true (by first | (with_reducible assumption) | assumption)) (by have h_ : (x17_2 : Int) < ((x12_2.length : Int) : Int) := of_decide_eq_true (by first | (with_reducible assumption) | assumption); first | exact h_ | (have e_ := (Kd.R_reads' HO_12.out).1; omega) | simpa using h_) (seg := [.int .i64 0, .string (⟨#[]⟩ : ByteArray)]) (j := 0) hcl31 hcc31 (show 2 ≤ 2 from by decide) (x' := (⟨0, (⟨#[]⟩ : ByteArray)⟩ : S33)) (k33_mkM _ _ _ (⟨0, (⟨#[]⟩ : ByteArray)⟩ : S33) ) (fun _ hk => hk)
                have hx31_0 := hcc31 0 _ rfl
                (try simp only [show (k33).sz = 2 from rfl, Nat.mul_one, Nat.add_zero] at hx31_0)
                have hf31_0 := hfr31 0
                (try simp only [show (k33).sz = 2 from rfl, Nat.mul_one, Nat.add_zero] at hf31_0)
                have hx31_1 := hcc31 1 _ rfl
                (try simp only [show (k33).sz = 2 from rfl, Nat.mul_one, Nat.add_zero] at hx31_1)
                have hf31_1 := hfr31 1
                (try simp only [show (k33).sz = 2 from rfl, Nat.mul_one, Nat.add_zero] at hf31_1)
                clear hcl31 hcc31 hfr31 hM31
                go_wp2_with (first | ((with_reducible refine gate_store (t := 33) (p := 77) rfl ?_); refine store_event (t := 33) (p := 77) (v := ?vo_w32) (w1 := ((wr.setCell ⟨go29, (x17_2 : Int).toNat * 2, none⟩ (.int .i64 0)).setCell ⟨go29, (x17_2 : Int).toNat * 2 + 1, none⟩ (.string (⟨#[]⟩ : ByteArray)))) ?hg ?ho ?hn ?hr ?_; (case ho => rfl); (case hg => rfl); (case hn => rfl); (case hr => first | (go_simp; done) | (go_simp; rfl)); intro w32 hw; have hg : wr.grownBy w32 (some go29) := (by rw [hw]; exact HP31.2); have hp_ : Kd.R k33 33 w32 w.heap.size (fun k_ => some k_ ≠ (.slice Ao14 t232.length co14 : Value).ownBlock) (.slice (some ⟨go29, 0, none⟩) x12_2.length co30) y248 := (by rw [hw, Ny248.out]; exact HP31.1); clear HP31; have n0_ := Aside0.mk (Kd.R_after (v := (.slice (some ⟨go29, 0, none⟩) x12_2.length co30)) (v1 := (.slice (some ⟨go29, 0, none⟩) x12_2.length co30)) (ok := (fun _ => True)) (by (with_reducible repeat (first | apply Kd.R_alloc | apply Kd.R_drewN | apply Kd.R_drew)); exact Kd.R_mono HO_7.out (fun _ hk => ⟨trivial, hk⟩)) hg (.inl rfl)); have n1_ := Aside0.mk (hp_); have n2_ := Aside0.mk ((by rw [hw]; exact below_set (below_set (HB.out) GB29.out) GB29.out : Below w.heap.size w w32)); clear HO_7; clear HO_12; clear HB; have HO_7 := n0_; have HO_12 := n1_; have HB := n2_; clear n0_ n1_ n2_; clear hg hw hp_))
                go_roundg k2
                case measure => have := HJ10.out; have := HK2.out; omega
                case rel => exact ⟨(y248), (wrap64 (x17_2 + 1)), (by first | rfl | (simp; done) | (simp [*]; done)), H', ⟨by have := HJ10.out; have := HK2.out; omega⟩, ⟨by (with_reducible repeat (first | apply Kd.R_alloc | apply Kd.R_drewN | apply Kd.R_drew)); exact Kd.R_mono HO_7.out (fun _ hk => hk.2)⟩, ⟨by (with_reducible repeat (first | apply Kd.R_alloc | apply Kd.R_drewN | apply Kd.R_drew)); exact HO_12.out⟩, ⟨by repeat (first | (with_reducible first | exact HB.out | apply below_alloc | apply pw_below_drewN | apply below_drew1) | exact HB.out)⟩⟩
              · rw [if_neg c28] at H
                exact absurd H (by simp)
            · rw [if_neg c27] at H
              have c27b0 : decide (x17_2 < (x12_2.length : Int)) = false := decide_eq_false c27
              clear c27
              by_cases c33 : x16_10 = true
              · subst c33
                have H1 : ((undercroftref15_Same.f k2 t232 l0).bind fun t249 => (some t249)) = some r := by rw [if_pos rfl] at H; exact H
                clear H
                have H := H1
                clear H1
                replace H := Option.bind_eq_some_iff.mp H
                obtain ⟨t249, A340, H⟩ := H
                replace H : (some t249) = some r := H
                have A34 := Aside0.mk A340
                clear A340
                obtain rfl := Option.some.inj H
                obtain ⟨Ao35, co35, eo35⟩ := Kd.R_slice HO_12.out
                subst eo35
                go_wp2_with (first | (go_at_call 15; (with_reducible refine (undercroftref15_Same.calls k2 _ _ t232 _ _ l0 t249 _ ?side1 ?side2 ?side3 ?side4 A34.out).mono ?_); (case side1 => repeat (first | exact (Kd.R_reads' HO_7.out).2.2 | (with_reducible refine Kd.C_alloc ?_ _) | (with_reducible refine Kd.C_drewN ?_ _) | (with_reducible refine Kd.C_drew ?_))); (case side2 => exact (Kd.R_reads' HO_7.out).2.1); (case side3 => repeat (first | exact (Kd.C_below HR0.out HB.out) | (with_reducible refine Kd.C_alloc ?_ _) | (with_reducible refine Kd.C_drewN ?_ _) | (with_reducible refine Kd.C_drew ?_))); (case side4 => exact HC0.out); rintro e w' ⟨rfl, ⟨nd, rfl⟩⟩))
                go_ret
                exact ⟨by first | rfl | (simp [errW_none, errW_some] <;> rfl) | (simp [*, errW_none, errW_some] <;> rfl), by repeat (first | (with_reducible first | exact HB.out | apply below_alloc | apply pw_below_drewN | apply below_drew1) | exact HB.out)⟩
              · replace c33 := Bool.eq_false_iff.mpr c33
                subst c33
                have H1 : (some false) = some r := by rw [if_neg (show ¬ (false = true) by decide)] at H; exact H
                clear H
                have H := H1
                clear H1
                obtain rfl := Option.some.inj H
                obtain ⟨Ao36, co36, eo36⟩ := Kd.R_slice HO_12.out
                subst eo36
                go_wp2
                go_ret
                exact ⟨by first | rfl | (simp [errW_none, errW_some] <;> rfl) | (simp [*, errW_none, errW_some] <;> rfl), by repeat (first | (with_reducible first | exact HB.out | apply below_alloc | apply pw_below_drewN | apply below_drew1) | exact HB.out)⟩
  · replace c5 := Bool.eq_false_iff.mpr c5
    subst c5
    have H1 : (some false) = some r := by rw [if_neg (show ¬ (false = true) by decide)] at H; exact H
    clear H
    have H := H1
    clear H1
    obtain rfl := Option.some.inj H
    go_enter Try.func5, Try.ntmps5
    go_wp2_with (first | ((with_reducible refine gate_callee (f := 9) rfl ?_); refine goesL_ (some 18) rfl rfl Try.func9 (by kernel_rfl) rfl #[] rfl (by (try simp only [List.map_toArray, List.map_cons, List.map_nil]); first | done | rfl | (simp only [List.length_drop, List.length_take]; rfl)) ?_; (with_reducible refine (undercroftlaw15_alive.calls k  false _ A4.out).mono ?_); rintro e w37 ⟨rfl, hb⟩; refine ⟨_, rfl, ?_⟩; have n0_ := Aside0.mk (below_step (by repeat (first | (with_reducible first | exact HB.out | apply below_alloc | apply pw_below_drewN | apply below_drew1) | exact HB.out)) hb); clear HB; have HB := n0_; clear n0_; (try clear hb); (try clear hb2); (try clear hk); (try clear hi)))
    go_ret
    exact ⟨by first | rfl | (simp [errW_none, errW_some] <;> rfl) | (simp [*, errW_none, errW_some] <;> rfl), by repeat (first | (with_reducible first | exact HB.out | apply below_alloc | apply pw_below_drewN | apply below_drew1) | exact HB.out)⟩

end Go.Proofs.Ytdobcojmfhdinaa.Pr
