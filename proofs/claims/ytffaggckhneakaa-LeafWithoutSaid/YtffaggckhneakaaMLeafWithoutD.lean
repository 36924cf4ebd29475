/- MLeafWithout: this session's texts for the one law, put together (part 4 of 4): what its program computes, function by function, and that this answers true; the row stands at the end of the last part. Conditions: those that each theorem names; the last theorem has none. -/
import Derived.Test.YtffaggckhneakaaRows
import Derived.WalkKit
import Derived.ProofKit
import Derived.OpenShut
import Derived.ShutString
import Derived.ChangeOld
import Derived.Below
import Derived.SizedLaws
import Derived.Carry
import Derived.Lib.SmallJoins
import Derived.Test.YtffaggckhneakaaMLeafWithoutC
section
namespace Go.Proofs.Ytffaggckhneakaa.Lf
open Go.RowKit Go.Proofs.YtffaggckhneakaaW.PrintWords Go.Proofs.YtffaggckhneakaaW.PrintMore Go.Proofs.Ytffaggckhneakaa.Pr Go.Proofs.Ytffaggckhneakaa.Od Go.Proofs.Ytffaggckhneakaa.Cr
set_option linter.unusedVariables false
set_option linter.unusedSimpArgs false
theorem right_weaken : ∀ {l : List E} {p q : Option (List UInt8)}, (∀ x, p = some x → ∃ y, q = some y ∧ (x = y ∨ less x y = true)) → right q l = true → right p l = true
  | [], _, _, _, _ => rfl
  | e :: l, p, q, h, hr => by
    simp only [right, Bool.and_eq_true] at hr ⊢
    refine ⟨⟨hr.1.1, ?_⟩, hr.2⟩
    cases p with
    | none => rfl
    | some x =>
      obtain ⟨y, rfl, hxy⟩ := h x rfl
      have h2 := hr.1.2
      simp only [ahead] at h2 ⊢
      rcases hxy with rfl | hxy
      · exact h2
      · exact less_trans hxy h2
theorem right_erase : ∀ (l : List E) (k : Nat) (p : Option (List UInt8)), right p l = true → right p (l.take k ++ l.drop (k + 1)) = true
  | [], k, p, h => by simp [right]
  | e :: l, 0, p, h => by
    simp only [right, Bool.and_eq_true] at h
    simp only [List.take_zero, List.nil_append, List.drop_succ_cons, List.drop_zero]
    refine right_weaken (q := some (nb e)) (fun x hx => ⟨nb e, rfl, .inr ?_⟩) h.2
    have h2 := h.1.2
    rw [hx] at h2
    exact h2
  | e :: l, k + 1, p, h => by
    simp only [right, Bool.and_eq_true] at h
    simp only [List.take_succ_cons, List.cons_append, List.drop_succ_cons, right, Bool.and_eq_true]
    exact ⟨h.1, right_erase l k _ h.2⟩
theorem sum_erase : ∀ (l : List E) (k : Nat) (h : k < l.length), sumL (l.take k ++ l.drop (k + 1)) + (5 + l[k].f0.size) = sumL l
  | e :: l, 0, h => by simp [sumL]; omega
  | e :: l, k + 1, h => by
    have := sum_erase l k (by simpa using h)
    simp only [List.take_succ_cons, List.cons_append, List.drop_succ_cons, sumL, List.getElem_cons_succ]
    omega
theorem sum_big {l : List E} (h : right none l = true) (hl : l.length ≤ 5864062014634) : sumL l < 4611686018427387904 := by
  have := sum_le l none h; omega
theorem j0_true (k : Nat) (x0 : List E) (x1 x5 : Int) : undercroftlaw11_LeafWithout.j0 (k + 1) x0 x1 x5 true = some (x5 == 0) := rfl
set_option maxHeartbeats 1000000 in
theorem LeafWithout (l : List E) (a : Int) (hl : Fits l) : ∃ k, undercroftlaw11_LeafWithout.f k l a = some true := by
  refine Ev.rounds ?_
  unfold Fits at hl
  unfold undercroftlaw11_LeafWithout.f
  refine Ev.bind alive_ev ?_
  simp only [if_true]
  refine Ev.bind (size_ev l (by omega)) ?_
  by_cases hr : right none l = true
  · have es : sizeR l = ((sumL l : Int), 0) := by unfold sizeR; rw [if_pos hr]
    rw [es]
    simp only [if_true]
    refine Ev.succ ?_
    by_cases h0 : l.length = 0
    · obtain rfl := List.eq_nil_of_length_eq_zero h0
      rw [show ((([] : List E).length : Int) == 0) = true from rfl]
      simp only [j0_true]
      exact Ev.now _
    · have hb : ((l.length : Int) == 0) = false := beq_eq_false_iff_ne.2 (by omega)
      have hu : IntKind.u64.wrap (l.length : Int) = (l.length : Int) := u64n _ (by omega)
      obtain ⟨k, hk, hkl⟩ : ∃ k : Nat, wrap64 (Int.tmod (IntKind.u64.wrap a) (l.length : Int)) = (k : Int) ∧ k < l.length := by
        have h1 : 0 ≤ IntKind.u64.wrap a := by rw [u64w]; omega
        have h2 := Int.tmod_nonneg (l.length : Int) h1
        have h3 := Int.tmod_lt_of_pos (IntKind.u64.wrap a) (show (0 : Int) < (l.length : Int) by omega)
        refine ⟨(Int.tmod (IntKind.u64.wrap a) (l.length : Int)).toNat, ?_, by omega⟩
        rw [w64 (by omega) (by omega)]; omega
      simp only [undercroftlaw11_LeafWithout.j0, hb, Bool.false_eq_true, if_false, hu, hk, if_neg (show ¬ (l.length : Int) = 0 by omega)]
      simp only [bs]
      simp only [Int.toNat_natCast, if_pos (show (0 : Int) ≤ (k : Int) by omega), if_pos (show (k : Int) ≤ (l.length : Int) by omega), List.length_nil, List.nil_append, List.length_take, Nat.zero_add, w64 (show -9223372036854775808 ≤ (k : Int) + 1 by omega) (by omega), if_pos (show (0 : Int) ≤ (k : Int) + 1 by omega), if_pos (show (k : Int) + 1 ≤ (l.length : Int) by omega), List.length_drop, if_pos (show (k : Int) < (l.length : Int) by omega), rdT_get hkl]
      rw [show ((k : Int) + 1).toNat = k + 1 by omega]
      simp only [if_pos (show min k l.length < 5864062014805 by omega), if_pos (show min k l.length + (l.length - (k + 1)) < 5864062014805 by omega)]
      have hml : (l.take k ++ l.drop (k + 1)).length < 5864062014805 := by rw [List.length_append, List.length_take, List.length_drop]; omega
      have hmr := right_erase l k none hr
      have hsm := sum_erase l k hkl
      have hbig := sum_big hr hl
      refine Ev.bind (size_ev _ hml) ?_
      refine Ev.bind (enc_ev l (by omega)) ?_
      refine Ev.bind (enc_ev _ hml) ?_
      have e1 : sizeR (l.take k ++ l.drop (k + 1)) = ((sumL (l.take k ++ l.drop (k + 1)) : Int), 0) := by unfold sizeR; rw [if_pos hmr]
      have e2 : ((sumL (l.take k ++ l.drop (k + 1)) : Nat) : Int) = wrap64 (wrap64 (((sumL l : Nat) : Int) - 5) - (l[k].f0.size : Int)) := by
        rw [w64 (n := ((sumL l : Nat) : Int) - 5) (by omega) (by omega), w64 (by omega) (by omega)]; omega
      have e3 : ((encR l).2 == 0) = decide (((sumL l : Nat) : Int) ≤ 248) := by
        by_cases h : (encR l).2 = 0
        · rw [h, decide_eq_true (show ((sumL l : Nat) : Int) ≤ 248 by have := (encR_iff.1 h).2; omega)]; rfl
        · rw [beq_eq_false_iff_ne.2 h, decide_eq_false (fun hs => h (encR_iff.2 ⟨hr, by omega⟩))]
      simp only [e1, if_true, e2, e3, beq_self_eq_true]
      by_cases h : (encR l).2 = 0
      · have h2 : (encR (l.take k ++ l.drop (k + 1))).2 = 0 := encR_iff.2 ⟨hmr, by have := (encR_iff.1 h).2; omega⟩
        simp only [h, if_true, h2]
        exact Ev.now _
      · simp only [if_neg h]
        exact Ev.now _
  · have es : sizeR l = (0, 1) := by unfold sizeR; rw [if_neg hr]
    rw [es]
    simp only [if_neg (show ¬ (1 : Int) = 0 by decide)]
    refine Ev.succ ?_
    simp only [j0_true]
    exact Ev.now _
end Go.Proofs.Ytffaggckhneakaa.Lf
end
section
namespace Go.Proofs.Ytffaggckhneakaa.leafWithout
open Go.ChangeShapes Go.WideShapes Go.ChangeAt Go.RowKit Go.Proofs.YtffaggckhneakaaW.PrintWords Go.Proofs.Ytffaggckhneakaa.Pr Go.Proofs.Ytffaggckhneakaa.Op Go.Joins
open Go.ChangeMaps (open_string shut_string)
set_option linter.unusedVariables false
theorem own : ownKnob Try.prog.godebug = none := by kernel_rfl
theorem laidOut : laidOutB Try.prog = true := by kernel_rfl
set_option maxRecDepth 100000 in
theorem contract (H : Type) (enc : TypeId × Value → H) (W : World) (base : Nat) (args : Array Value) (ds gs : List (DataW H)) (before : List MemPlace)
    (hval : ∀ (j : Nat) t v, Try.f9.params[j]? = some t → args[j]? = some v → Value.okWide Try.prog W .any base t v)
    (hW : DataW.Whole enc Try.prog Try.f9.params.toList Rows.leafWithoutSpec.vars false W args.toList ds gs before)
    (hsz : (DataW.weightsEach Try.prog (Try.f9.params.toList ++ Rows.leafWithoutSpec.plain.varTypes Try.prog) (ds ++ gs)).all (· ≤ reachBytes) = true) :
    Calls Try.prog 9 args W fun e W' => ∃ v, e = .returned v ∧ Rows.leafWithoutSpec.post enc Try.prog Try.f9 false true false false W args v W' := by
  have hW' := hW
  obtain ⟨p, q, hA0, hV, rfl, hfz, hnd⟩ := hW
  have hA : DataW.TrodAll enc Try.prog W 0 (fun _ => true) true Try.f9.params.toList args.toList ds p := hA0
  rw [Try.params9] at hA hval hsz
  obtain ⟨v0, vs0, d0, ds0, p0, q0, hargs, rfl, rfl, h0, r0⟩ := trodAll_cons hA
  obtain ⟨v1, vs1, d1, ds1, p1, q1, rfl, rfl, rfl, h1, r1⟩ := trodAll_cons r0
  obtain ⟨rfl, rfl, rfl⟩ := trodAll_nil r1
  obtain rfl : args = #[v0, v1] := by cases args; simp_all
  obtain ⟨rfl, rfl⟩ := trodVars_none hV
  have lt0 : ∀ x ∈ p0, x.block < W.heap.size := by obtain ⟨m, hm⟩ := h0; exact DataW.trod_lt m _ _ _ hm
  have k0 := h0
  obtain ⟨A0, l0, c0, rfl, hc0, hr0, hs0⟩ := arg_slice Try.underlying41 Lf.o54 (hval 0 41 v0 rfl rfl) h0 hsz (j := 0) (t := 41) rfl rfl
  have lt1 : ∀ x ∈ p1, x.block < W.heap.size := by obtain ⟨m, hm⟩ := h1; exact DataW.trod_lt m _ _ _ hm
  have k1 := h1
  obtain ⟨a1, rfl, rfl, rfl, w1⟩ := open_int Try.underlying3 (hval 1 3 v1 rfl rfl) h1
  have b1 := bounds_i64 w1
  clear hA0
  obtain ⟨k, hk⟩ := Lf.LeafWithout l0 a1 hs0
  refine (undercroftlaw11_LeafWithout.calls k A0 c0 l0 a1 true W hr0 hc0 hk).mono fun e W' ⟨he, bel⟩ => ?_
  subst he
  exact ⟨_, rfl, _, _, _, [], _, [], hW', trodAll_mk1 (shut_bool Try.underlying4 _), (trodAll_cons_mk (Below.trod laidOut (by kernel_rfl) (of_decide_eq_true (by kernel_rfl)) k0 bel lt0) (trodAll_cons_mk (Below.trod laidOut (by kernel_rfl) (of_decide_eq_true (by kernel_rfl)) k1 bel lt1) trodAll_mk0)), rfl, bel.frame _, fun h => by cases h⟩
set_option maxRecDepth 100000 in
theorem lifted (os : Os) (started : os.Started) (H : Type) (enc : TypeId × Value → H) :
    ReturnsInHanded {} Try.checked os 9 .any (Rows.leafWithoutSpec.pre6 enc Try.prog Try.f9 Rows.leafWithoutRow.domain false) (Rows.leafWithoutSpec.post enc Try.prog Try.f9 false true false false) := by
  refine returnsInHanded_of_change_sized (C := Try.checked) own started (by kernel_rfl) Try.func9
    (ChangeSpec.witness6 (enc := enc) (C := Try.checked) false ⟨#[], #[.slice none 0 0, .int .i64 0], []⟩ 8 (by kernel_rfl) (by kernel_rfl) (by kernel_rfl) (by kernel_rfl)) ?_
  intro W base args ds gs before hval hW _ hsz _
  exact contract H enc W base args ds gs before hval hW hsz
theorem over : Rows.leafWithoutRow.holds Try.pinned (OpenSpec.ofChange Rows.leafWithoutSpec) :=
  OpenClaim.holds_of_wide 9 Try.f9 rfl rfl rfl rfl rfl rfl rfl ⟨rfl, rfl, rfl, rfl, rfl⟩ rfl rfl rfl rfl rfl (by kernel_rfl) Try.func9 (by kernel_rfl)
    (of_decide_eq_true (by kernel_rfl)) (by unfold Func.isWrapper; first | (rw [if_pos (by decide +kernel)]; kernel_rfl) | (rw [if_neg (by decide +kernel)]; exact ⟨rfl, rfl⟩))
    (fun os started H enc _ => lifted os started H enc)
theorem proved : Rows.LeafWithoutSaid := over
end Go.Proofs.Ytffaggckhneakaa.leafWithout
namespace Go.Proofs.Ytffaggckhneakaa
theorem leafWithout_holds : Rows.LeafWithoutSaid := leafWithout.proved
end Go.Proofs.Ytffaggckhneakaa
end
