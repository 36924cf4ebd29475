/- The law undercroftlaw15.SparseTwo: for every input the law's program answers true, and its arguments read as they did. Conditions: none beyond the row's own. -/
import Derived.Test.YtdobcojmfhdinaaSpTwo
import Derived.Test.YtdobcojmfhdinaaRows
import Derived.Test.YtdobcojmfhdinaaOp
import Derived.WalkKit
import Derived.ProofKit
import Derived.OpenShut
import Derived.ShutString
import Derived.ChangeOld
import Derived.Below
import Derived.SizedLaws
import Derived.Carry
import Derived.Lib.SmallJoins
namespace Go.Proofs.Ytdobcojmfhdinaa.sparseTwo
open Go.ChangeShapes Go.WideShapes Go.ChangeAt Go.RowKit Go.Proofs.YtdobcojmfhdinaaW.PrintWords Go.Proofs.Ytdobcojmfhdinaa.Pr Go.Proofs.Ytdobcojmfhdinaa.Op Go.Joins
open Go.ChangeMaps (open_string shut_string)
set_option linter.unusedVariables false
theorem own : ownKnob Try.prog.godebug = none := by kernel_rfl
theorem laidOut : laidOutB Try.prog = true := by kernel_rfl
set_option maxRecDepth 100000 in
/-- What the walk gives, for every argument. -/
theorem contract (H : Type) (enc : TypeId × Value → H) (W : World) (base : Nat) (args : Array Value) (ds gs : List (DataW H)) (before : List MemPlace)
    (hval : ∀ (j : Nat) t v, Try.f7.params[j]? = some t → args[j]? = some v → Value.okWide Try.prog W .any base t v)
    (hW : DataW.Whole enc Try.prog Try.f7.params.toList Rows.sparseTwoSpec.vars false W args.toList ds gs before)
    (hsz : (DataW.weightsEach Try.prog (Try.f7.params.toList ++ Rows.sparseTwoSpec.plain.varTypes Try.prog) (ds ++ gs)).all (· ≤ reachBytes) = true) :
    Calls Try.prog 7 args W fun e W' => ∃ v, e = .returned v ∧ Rows.sparseTwoSpec.post enc Try.prog Try.f7 false true false false W args v W' := by
  have hW' := hW
  obtain ⟨p, q, hA0, hV, rfl, hfz, hnd⟩ := hW
  have hA : DataW.TrodAll enc Try.prog W 0 (fun _ => true) true Try.f7.params.toList args.toList ds p := hA0
  rw [Try.params7] at hA hval hsz
  obtain ⟨v0, vs0, d0, ds0, p0, q0, hargs, rfl, rfl, h0, r0⟩ := trodAll_cons hA
  obtain ⟨v1, vs1, d1, ds1, p1, q1, rfl, rfl, rfl, h1, r1⟩ := trodAll_cons r0
  obtain ⟨v2, vs2, d2, ds2, p2, q2, rfl, rfl, rfl, h2, r2⟩ := trodAll_cons r1
  obtain ⟨rfl, rfl, rfl⟩ := trodAll_nil r2
  obtain rfl : args = #[v0, v1, v2] := by cases args; simp_all
  obtain ⟨rfl, rfl⟩ := trodVars_none hV
  have lt0 : ∀ x ∈ p0, x.block < W.heap.size := by obtain ⟨m, hm⟩ := h0; exact DataW.trod_lt m _ _ _ hm
  have k0 := h0
  obtain ⟨A0, l0, c0, rfl, hc0, hr0, hs0⟩ := arg_slice Try.underlying22 SpPure.o33 (hval 0 22 v0 rfl rfl) h0 hsz (j := 0) (t := 22) rfl rfl
  have lt1 : ∀ x ∈ p1, x.block < W.heap.size := by obtain ⟨m, hm⟩ := h1; exact DataW.trod_lt m _ _ _ hm
  have k1 := h1
  obtain ⟨x1, z1, y10, y11, n1, rfl, rfl, rfl, g1, e1⟩ := open_agg2 Try.underlying40 (by kernel_rfl) (by kernel_rfl) (hval 1 40 v1 rfl rfl) h1
  obtain ⟨a1_0, hx1, _, w1_0⟩ := DataW.trod_int Try.underlying3 g1
  obtain ⟨a1_1, hz1, _, w1_1⟩ := DataW.trod_int Try.underlying3 e1
  obtain rfl : x1 = .int .i64 a1_0 := by simpa using hx1
  obtain rfl : z1 = .int .i64 a1_1 := by simpa using hz1
  have b1_0 := bounds_i64 w1_0
  have b1_1 := bounds_i64 w1_1
  have lt2 : ∀ x ∈ p2, x.block < W.heap.size := by obtain ⟨m, hm⟩ := h2; exact DataW.trod_lt m _ _ _ hm
  have k2 := h2
  obtain ⟨x2, z2, y20, y21, n2, rfl, rfl, rfl, g2, e2⟩ := open_agg2 Try.underlying40 (by kernel_rfl) (by kernel_rfl) (hval 2 40 v2 rfl rfl) h2
  obtain ⟨a2_0, hx2, _, w2_0⟩ := DataW.trod_int Try.underlying3 g2
  obtain ⟨a2_1, hz2, _, w2_1⟩ := DataW.trod_int Try.underlying3 e2
  obtain rfl : x2 = .int .i64 a2_0 := by simpa using hx2
  obtain rfl : z2 = .int .i64 a2_1 := by simpa using hz2
  have b2_0 := bounds_i64 w2_0
  have b2_1 := bounds_i64 w2_1
  clear hA0
  obtain ⟨k, hk⟩ := SpPure.SparseTwo l0 a1_0 a1_1 a2_0 a2_1 hs0 b1_0 b2_0
  refine (undercroftlaw15_SparseTwo.calls k A0 c0 l0 a1_0 a1_1 a2_0 a2_1 true W hr0 hc0 hk).mono fun e W' ⟨he, bel⟩ => ?_
  subst he
  exact ⟨_, rfl, _, _, _, [], _, [], hW', trodAll_mk1 (shut_bool Try.underlying4 _), (trodAll_cons_mk (Below.trod laidOut (by kernel_rfl) (of_decide_eq_true (by kernel_rfl)) k0 bel lt0) (trodAll_cons_mk (Below.trod laidOut (by kernel_rfl) (of_decide_eq_true (by kernel_rfl)) k1 bel lt1) (trodAll_cons_mk (Below.trod laidOut (by kernel_rfl) (of_decide_eq_true (by kernel_rfl)) k2 bel lt2) trodAll_mk0))), rfl, bel.frame _, fun h => by cases h⟩
set_option maxRecDepth 100000 in
theorem lifted (os : Os) (started : os.Started) (H : Type) (enc : TypeId × Value → H) :
    ReturnsInHanded {} Try.checked os 7 .any (Rows.sparseTwoSpec.pre6 enc Try.prog Try.f7 Rows.sparseTwoRow.domain false) (Rows.sparseTwoSpec.post enc Try.prog Try.f7 false true false false) := by
  refine returnsInHanded_of_change_sized (C := Try.checked) own started (by kernel_rfl) Try.func7
    (ChangeSpec.witness6 (enc := enc) (C := Try.checked) false ⟨#[], #[.slice none 0 0, .agg #[.int .i64 0, .int .i64 0], .agg #[.int .i64 0, .int .i64 0]], []⟩ 8 (by kernel_rfl) (by kernel_rfl) (by kernel_rfl) (by kernel_rfl)) ?_
  intro W base args ds gs before hval hW _ hsz _
  exact contract H enc W base args ds gs before hval hW hsz
theorem over : Rows.sparseTwoRow.holds Try.pinned (OpenSpec.ofChange Rows.sparseTwoSpec) :=
  OpenClaim.holds_of_wide 7 Try.f7 rfl rfl rfl rfl rfl rfl rfl ⟨rfl, rfl, rfl, rfl, rfl⟩ rfl rfl rfl rfl rfl (by kernel_rfl) Try.func7 (by kernel_rfl)
    (of_decide_eq_true (by kernel_rfl)) (by unfold Func.isWrapper; first | (rw [if_pos (by decide +kernel)]; kernel_rfl) | (rw [if_neg (by decide +kernel)]; exact ⟨rfl, rfl⟩))
    (fun os started H enc _ => lifted os started H enc)
theorem proved : Rows.SparseTwoSaid := over
#print axioms proved
end Go.Proofs.Ytdobcojmfhdinaa.sparseTwo
namespace Go.Proofs.Ytdobcojmfhdinaa
/-- The row, under a short name, for the claim. -/
theorem sparseTwo_holds : Rows.SparseTwoSaid := sparseTwo.proved
end Go.Proofs.Ytdobcojmfhdinaa
