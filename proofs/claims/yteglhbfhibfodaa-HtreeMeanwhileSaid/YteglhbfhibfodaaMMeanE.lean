/- MMean: this session's texts for the one law, put together (part 5 of 5): what its program computes, function by function, and that this answers true; the row stands at the end of the last part. Conditions: those that each theorem names; the last theorem has none. -/
import Derived.Test.YteglhbfhibfodaaRows
import Derived.WalkKit
import Derived.ProofKit
import Derived.OpenShut
import Derived.ShutString
import Derived.ChangeOld
import Derived.Below
import Derived.SizedLaws
import Derived.Carry
import Derived.Lib.SmallJoins
import Derived.Test.YteglhbfhibfodaaMMeanD
section
namespace Go.Proofs.Yteglhbfhibfodaa.Ht
open Go.RowKit Go.Proofs.YteglhbfhibfodaaW.PrintWords Go.Proofs.YteglhbfhibfodaaW.PrintMore Go.Proofs.Yteglhbfhibfodaa.Pr Go.Proofs.Yteglhbfhibfodaa.Od Go.Proofs.Yteglhbfhibfodaa.Cr Go.Proofs.Yteglhbfhibfodaa.Lf
set_option linter.unusedVariables false
set_option linter.unusedSimpArgs false
def notN (nm : ByteArray) (y : E) : Bool := decide (y.f0 ≠ nm)
theorem ins_notN {x : E} : ∀ l : List E, (ins ltE x l).filter (notN x.f0) = l.filter (notN x.f0)
  | [] => by
    have : notN x.f0 x = false := decide_eq_false (fun h => h rfl)
    simp [ins, this]
  | y :: l => by
    have hx : notN x.f0 x = false := decide_eq_false (fun h => h rfl)
    unfold ins
    split
    · rw [List.filter_cons, List.filter_cons, ins_notN l]
    · rw [List.filter_cons_of_neg (by rw [hx]; decide)]
theorem map_notN {x : E} : ∀ l : List E, (l.map (turnE x)).filter (notN x.f0) = l.filter (notN x.f0)
  | [] => rfl
  | y :: l => by
    rw [List.map_cons, List.filter_cons, List.filter_cons, map_notN l]
    by_cases h : y.f0 = x.f0
    · have h1 : notN x.f0 y = false := decide_eq_false (fun e => e h)
      have h2 : notN x.f0 (turnE x y) = false := decide_eq_false (fun e => e ((turnE_name x y).trans h))
      rw [h1, h2]
      simp only [Bool.false_eq_true, if_false]
    · have h2 : turnE x y = y := by unfold turnE; rw [if_neg h]
      rw [h2]
theorem f_remove {d : List (List Int)} (h : dirB d = true) (s : ByteArray) : htree_Remove.f d s = some (removeP d s) := by unfold htree_Remove.f; rw [if_pos h]
theorem f_set {d : List (List Int)} (h : dirB d = true) (s : ByteArray) (n : Int) : htree_Set.f d s n = some (setP d ⟨s, n⟩) := by unfold htree_Set.f; rw [if_pos h]
def doP (d : List (List Int)) (op : Int) (nm : ByteArray) (no : Int) : List (List Int) × Int := if bits .and .i64 op 3 = 1 then removeP d nm else if bits .and .i64 op 3 = 2 then setP d ⟨nm, no⟩ else addP d ⟨nm, no⟩
theorem f_do {d : List (List Int)} (h : dirB d = true) (op : Int) (nm : ByteArray) (no : Int) : l_12_do.f d op nm no = some (doP d op nm no) := by
  unfold l_12_do.f doP
  by_cases h1 : bits .and .i64 op 3 = 1
  · rw [if_pos h1, if_pos h1, f_remove h, bs]
  · rw [if_neg h1, if_neg h1]
    by_cases h2 : bits .and .i64 op 3 = 2
    · rw [if_pos h2, if_pos h2, f_set h, bs]
    · rw [if_neg h2, if_neg h2, f_add h, bs]
theorem do_others {d : List (List Int)} (hd : Dir d) (op : Int) (nm : ByteArray) (no : Int) (h0 : (doP d op nm no).2 = 0) : Dir (doP d op nm no).1 ∧ (entsD (doP d op nm no).1).filter (notN nm) = (entsD d).filter (notN nm) := by
  unfold doP at h0 ⊢
  by_cases h1 : bits .and .i64 op 3 = 1
  · rw [if_pos h1] at h0 ⊢
    obtain ⟨g1, g2, g3⟩ := remove_law hd nm
    cases hm : mayB nm with
    | false => rw [g1 hm] at h0; cases h0
    | true =>
      by_cases hn : ∃ y ∈ entsD d, y.f0 = nm
      · obtain ⟨d', e, k1, k2⟩ := g3 hm hn
        rw [e]
        refine ⟨k1, ?_⟩
        show (entsD d').filter _ = _
        rw [k2, show (fun y : E => decide (y.f0 ≠ nm)) = notN nm from rfl, List.filter_filter]
        simp
      · rw [g2 hm hn] at h0; cases h0
  · rw [if_neg h1] at h0 ⊢
    by_cases h2 : bits .and .i64 op 3 = 2
    · rw [if_pos h2] at h0 ⊢
      obtain ⟨g1, g2, g3⟩ := set_law hd ⟨nm, no⟩
      cases hm : mayX ⟨nm, no⟩ with
      | false => rw [g1 hm] at h0; cases h0
      | true =>
        by_cases hn : ∃ y ∈ entsD d, y.f0 = nm
        · obtain ⟨d', e, k1, k2⟩ := g3 hm hn
          rw [e]
          refine ⟨k1, ?_⟩
          show (entsD d').filter _ = _
          rw [k2]
          exact map_notN (x := ⟨nm, no⟩) _
        · rw [g2 hm hn] at h0; cases h0
    · rw [if_neg h2] at h0 ⊢
      obtain ⟨g1, g2, g3⟩ := add_law hd ⟨nm, no⟩
      cases hm : mayX ⟨nm, no⟩ with
      | false => rw [g1 hm] at h0; cases h0
      | true =>
        by_cases hn : ∃ y ∈ entsD d, y.f0 = nm
        · rw [g2 hm hn] at h0; cases h0
        · rcases g3 hm hn with e | ⟨d', e, k1, k2⟩
          · rw [e] at h0; cases h0
          · rw [e]
            refine ⟨k1, ?_⟩
            show (entsD d').filter _ = _
            rw [k2]
            exact ins_notN (x := ⟨nm, no⟩) _
theorem name_iff (a b : ByteArray) : a.toList = b.toList ↔ a = b := by
  rw [Lib.toList_data, Lib.toList_data]
  exact ⟨str_ext, fun h => by rw [h]⟩
theorem mean2 (V : List E) (nm : ByteArray) (op no : Int) (hV : V.length ≤ 1230) : ∀ (n m : Nat), m + n = V.length → (V.drop m).filter (notN nm) = [] → Ev (fun k => l_12_HtreeMeanwhile.l2 k V (m : Int) op nm no) true := by
  intro n
  induction n with
  | zero =>
    intro m hm _
    refine Ev.succ ?_
    simp only [l_12_HtreeMeanwhile.l2, if_neg (show ¬((m : Int) < (V.length : Int)) by omega), show ((m : Int) == (V.length : Int)) = true from beq_iff_eq.2 (by omega)]
    exact Ev.now _
  | succ n ih =>
    intro m hm hf
    have hml : m < V.length := by omega
    refine Ev.succ ?_
    rw [List.drop_eq_getElem_cons hml, List.filter_cons] at hf
    cases hp : notN nm V[m] with
    | true => rw [hp] at hf; cases hf
    | false =>
      rw [hp] at hf
      have hn : V[m].f0 = nm := by simpa [notN] using hp
      simp only [l_12_HtreeMeanwhile.l2, if_pos (show (m : Int) < (V.length : Int) by omega), if_pos (show (0 : Int) ≤ (m : Int) by omega), rdT_get hml, if_pos ((name_iff _ _).2 hn), w64 (show -9223372036854775808 ≤ (m : Int) + 1 by omega) (by omega)]
      exact ih (m + 1) (by omega) hf
theorem mean_loop (U V : List E) (nm : ByteArray) (op no : Int) (hU : U.length ≤ 1230) (hV : V.length ≤ 1230) : ∀ (n i m : Nat), i + n = U.length → m ≤ V.length → (U.drop i).filter (notN nm) = (V.drop m).filter (notN nm) → Ev (fun k => l_12_HtreeMeanwhile.l0 k U V (m : Int) (i : Int) op nm no) true := by
  intro n
  induction n with
  | zero =>
    intro i m hi hm hf
    refine Ev.succ ?_
    simp only [l_12_HtreeMeanwhile.l0, if_neg (show ¬((i : Int) < (U.length : Int)) by omega)]
    rw [List.drop_of_length_le (by omega)] at hf
    exact mean2 V nm op no hV (V.length - m) m (by omega) hf.symm
  | succ n ih =>
    intro i m hi hm hf
    have hil : i < U.length := by omega
    refine Ev.succ ?_
    by_cases hn : U[i].f0 = nm
    · simp only [l_12_HtreeMeanwhile.l0, if_pos (show (i : Int) < (U.length : Int) by omega), if_pos (show (0 : Int) ≤ (i : Int) by omega), rdT_get hil, if_pos ((name_iff _ _).2 hn), w64 (show -9223372036854775808 ≤ (i : Int) + 1 by omega) (by omega)]
      refine ih (i + 1) m (by omega) hm ?_
      rw [← hf, List.drop_eq_getElem_cons hil, List.filter_cons_of_neg (by simp [notN, hn])]
    · simp only [l_12_HtreeMeanwhile.l0, if_pos (show (i : Int) < (U.length : Int) by omega), if_pos (show (0 : Int) ≤ (i : Int) by omega), rdT_get hil, if_neg (fun e => hn ((name_iff _ _).1 e))]
      have key : ∀ (q m : Nat), m + q = V.length → (U.drop i).filter (notN nm) = (V.drop m).filter (notN nm) → Ev (fun k => l_12_HtreeMeanwhile.l1 k U V (m : Int) (i : Int) op nm no) true := by
        intro q
        induction q with
        | zero =>
          intro m hm hf
          rw [List.drop_of_length_le (show V.length ≤ m by omega), List.drop_eq_getElem_cons hil, List.filter_cons_of_pos (by simp [notN, hn])] at hf
          cases hf
        | succ q ihq =>
          intro m hm hf
          have hml : m < V.length := by omega
          refine Ev.succ ?_
          by_cases hv : V[m].f0 = nm
          · simp only [l_12_HtreeMeanwhile.l1, if_pos (show (m : Int) < (V.length : Int) by omega), if_pos (show (0 : Int) ≤ (m : Int) by omega), rdT_get hml, if_pos ((name_iff _ _).2 hv), w64 (show -9223372036854775808 ≤ (m : Int) + 1 by omega) (by omega)]
            refine ihq (m + 1) (by omega) ?_
            rw [hf, List.drop_eq_getElem_cons hml, List.filter_cons_of_neg (by simp [notN, hv])]
          · rw [List.drop_eq_getElem_cons hil, List.drop_eq_getElem_cons hml, List.filter_cons_of_pos (by simp [notN, hn]), List.filter_cons_of_pos (by simp [notN, hv])] at hf
            obtain ⟨h1, h2⟩ := List.cons.inj hf
            simp only [l_12_HtreeMeanwhile.l1, if_pos (show (m : Int) < (V.length : Int) by omega), if_pos (show (0 : Int) ≤ (m : Int) by omega), rdT_get hml, if_neg (fun e => hv ((name_iff _ _).1 e)), if_neg (show ¬ ((m : Int) ≥ (V.length : Int)) by omega), if_pos (show (0 : Int) ≤ (i : Int) by omega), if_pos (show (i : Int) < (U.length : Int) by omega), rdT_get hil, w64 (show -9223372036854775808 ≤ (i : Int) + 1 by omega) (by omega), w64 (show -9223372036854775808 ≤ (m : Int) + 1 by omega) (by omega)]
            simp only [← h1, beq_self_eq_true, Bool.not_true, Bool.or_self, Bool.false_eq_true, if_false]
            exact ih (i + 1) (m + 1) (by omega) (by omega) h2
      exact key (V.length - m) m (by omega) hf
theorem place_in (a : Int) (n : Nat) (h0 : 0 < n) (hn : n < 9223372036854775807) : ¬ IntKind.u64.wrap (n : Int) = 0 ∧ ∃ q : Nat, q < n ∧ wrap64 (Int.tmod (IntKind.u64.wrap a) (IntKind.u64.wrap (n : Int))) = (q : Int) := by
  have e : IntKind.u64.wrap (n : Int) = (n : Int) := by rw [u64w]; omega
  rw [e]
  refine ⟨by omega, ?_⟩
  have h1 : 0 ≤ IntKind.u64.wrap a := by rw [u64w]; omega
  have h2 : Int.tmod (IntKind.u64.wrap a) (n : Int) = IntKind.u64.wrap a % (n : Int) := Int.tmod_eq_emod_of_nonneg h1
  have h3 := Int.emod_nonneg (IntKind.u64.wrap a) (show (n : Int) ≠ 0 by omega)
  have h4 := Int.emod_lt_of_pos (IntKind.u64.wrap a) (show (0 : Int) < (n : Int) by omega)
  rw [h2, w64 (by omega) (by omega)]
  exact ⟨(IntKind.u64.wrap a % (n : Int)).toNat, by omega, by omega⟩
theorem HtreeMeanwhile (l : List (List Int)) (a op : Int) (nm : ByteArray) (no : Int) (hl : Blocks l) : ∃ k, l_12_HtreeMeanwhile.f k l a op nm no = some true := by
  refine Ev.rounds ?_
  have hb := dirB_of hl.1 hl.2
  unfold l_12_HtreeMeanwhile.f
  refine Ev.bind alive_ev ?_
  simp only [if_true, f_after hb ⟨#[]⟩ (by decide) 5000, bs]
  cases hr : readP l with
  | none =>
    have ha : afterP l ⟨#[]⟩ 5000 = ([], 13) := by unfold afterP; rw [hr]
    simp only [ha, if_neg (show ¬ ((13 : Int) = 0) by decide)]
    refine Ev.succ ?_
    simp only [l_12_HtreeMeanwhile.j0, if_true]
    exact Ev.now _
  | some p =>
    have hd : Dir l := ⟨hl.1, p.1, p.2, hr⟩
    have hlen := entsD_len hd.byte
    simp only [after0 hd, if_true, show (5000 : Int).toNat = 5000 from rfl, List.take_of_length_le (show (entsD l).length ≤ 5000 by omega)]
    refine Ev.succ ?_
    by_cases h0 : (entsD l).length = 0
    · simp only [l_12_HtreeMeanwhile.j0, show (((entsD l).length : Int) == 0) = true from beq_iff_eq.2 (by omega), if_true]
      exact Ev.now _
    · obtain ⟨hw, q, hq, hqe⟩ := place_in a (entsD l).length (by omega) (by omega)
      have hz : okE (entsD l)[q] = true := entsD_ok hd.byte _ (List.getElem_mem hq)
      have hzs := okE_size hz
      simp only [l_12_HtreeMeanwhile.j0, show (((entsD l).length : Int) == 0) = false from beq_eq_false_iff_ne.2 (by omega), Bool.false_eq_true, if_false, if_neg hw, hqe, f_do hb, bs]
      by_cases hz0 : (doP l op nm no).2 = 0
      · obtain ⟨hd', hf⟩ := do_others hd op nm no hz0
        have hlen' := entsD_len hd'.byte
        obtain ⟨rs, ls, hr'⟩ := hd'.read
        simp only [if_pos hz0, if_pos (show (0 : Int) ≤ (q : Int) by omega), if_pos (show (q : Int) < ((entsD l).length : Int) by omega), rdT_get hq, f_after hd'.b _ (show (entsD l)[q].f0.size < 512 by omega) 5000, after_behind hd'.byte hr' (show (entsD l)[q].f0.size ≠ 0 by omega), bs, if_true, show (5000 : Int).toNat = 5000 from rfl]
        have hbl : (behind ltE ⟨(entsD l)[q].f0, 0⟩ (entsD (doP l op nm no).1)).length ≤ 1230 := Nat.le_trans (List.length_filter_le _ _) hlen'
        rw [List.take_of_length_le (show (behind ltE ⟨(entsD l)[q].f0, 0⟩ (entsD (doP l op nm no).1)).length ≤ 5000 by omega), w64 (show -9223372036854775808 ≤ (q : Int) + 1 by omega) (by omega)]
        refine mean_loop (entsD l) _ nm op no hlen hbl ((entsD l).length - (q + 1)) (q + 1) 0 (by omega) (by omega) ?_
        have hsp : entsD l = (entsD l).take q ++ (entsD l)[q] :: (entsD l).drop (q + 1) := by rw [← List.drop_eq_getElem_cons hq, List.take_append_drop]
        have hbe : behind ltE (entsD l)[q] (entsD l) = (entsD l).drop (q + 1) := by
          have h := behind_at byS (P := (entsD l).take q) (z := (entsD l)[q]) (Q := (entsD l).drop (q + 1)) (by rw [← hsp]; exact entsD_rises hd.byte)
          rw [← hsp] at h
          exact h
        rw [List.drop_zero, ← hbe]
        unfold behind
        rw [List.filter_filter, List.filter_filter]
        have hc : ∀ L : List E, L.filter (fun y => notN nm y && ltE ⟨(entsD l)[q].f0, 0⟩ y) = (L.filter (notN nm)).filter (fun y => ltE (entsD l)[q] y) := fun L => by
          rw [List.filter_filter]
          exact congrArg (fun p => List.filter p L) (funext fun y => by rw [Bool.and_comm, ltE_cong (a := ⟨(entsD l)[q].f0, 0⟩) (a' := (entsD l)[q]) rfl rfl])
        rw [hc, hf, List.filter_filter]
        exact congrArg (fun p => List.filter p (entsD l)) (funext fun y => Bool.and_comm _ _)
      · simp only [if_neg hz0]
        exact Ev.now _
end Go.Proofs.Yteglhbfhibfodaa.Ht
end
section
namespace Go.Proofs.Yteglhbfhibfodaa.htreeMeanwhile
open Go.ChangeShapes Go.WideShapes Go.ChangeAt Go.RowKit Go.Proofs.YteglhbfhibfodaaW.PrintWords Go.Proofs.Yteglhbfhibfodaa.Pr Go.Proofs.Yteglhbfhibfodaa.Op Go.Joins
open Go.ChangeMaps (open_string shut_string)
set_option linter.unusedVariables false
theorem own : ownKnob Try.prog.godebug = none := by kernel_rfl
theorem laidOut : laidOutB Try.prog = true := by kernel_rfl
set_option maxRecDepth 100000 in
theorem contract (H : Type) (enc : TypeId × Value → H) (W : World) (base : Nat) (args : Array Value) (ds gs : List (DataW H)) (before : List MemPlace)
    (hval : ∀ (j : Nat) t v, Try.f6.params[j]? = some t → args[j]? = some v → Value.okWide Try.prog W .any base t v)
    (hW : DataW.Whole enc Try.prog Try.f6.params.toList Rows.htreeMeanwhileSpec.vars false W args.toList ds gs before)
    (hsz : (DataW.weightsEach Try.prog (Try.f6.params.toList ++ Rows.htreeMeanwhileSpec.plain.varTypes Try.prog) (ds ++ gs)).all (· ≤ reachBytes) = true) :
    Calls Try.prog 6 args W fun e W' => ∃ v, e = .returned v ∧ Rows.htreeMeanwhileSpec.post enc Try.prog Try.f6 false true false false W args v W' := by
  have hW' := hW
  obtain ⟨p, q, hA0, hV, rfl, hfz, hnd⟩ := hW
  have hA : DataW.TrodAll enc Try.prog W 0 (fun _ => true) true Try.f6.params.toList args.toList ds p := hA0
  rw [Try.params6] at hA hval hsz
  obtain ⟨v0, vs0, d0, ds0, p0, q0, hargs, rfl, rfl, h0, r0⟩ := trodAll_cons hA
  obtain ⟨v1, vs1, d1, ds1, p1, q1, rfl, rfl, rfl, h1, r1⟩ := trodAll_cons r0
  obtain ⟨v2, vs2, d2, ds2, p2, q2, rfl, rfl, rfl, h2, r2⟩ := trodAll_cons r1
  obtain ⟨rfl, rfl, rfl⟩ := trodAll_nil r2
  obtain rfl : args = #[v0, v1, v2] := by cases args; simp_all
  obtain ⟨rfl, rfl⟩ := trodVars_none hV
  have lt0 : ∀ x ∈ p0, x.block < W.heap.size := by obtain ⟨m, hm⟩ := h0; exact DataW.trod_lt m _ _ _ hm
  have k0 := h0
  obtain ⟨A0, l0, c0, rfl, hc0, hr0, hs0⟩ := arg_slice Try.underlying22 Ht.oRows (hval 0 22 v0 rfl rfl) h0 hsz (j := 0) (t := 22) rfl rfl
  have lt1 : ∀ x ∈ p1, x.block < W.heap.size := by obtain ⟨m, hm⟩ := h1; exact DataW.trod_lt m _ _ _ hm
  have k1 := h1
  obtain ⟨a1, rfl, rfl, rfl, w1⟩ := open_int Try.underlying3 (hval 1 3 v1 rfl rfl) h1
  have b1 := bounds_i64 w1
  have lt2 : ∀ x ∈ p2, x.block < W.heap.size := by obtain ⟨m, hm⟩ := h2; exact DataW.trod_lt m _ _ _ hm
  have k2 := h2
  obtain ⟨x2_0, x2_1, x2_2, y2_0, y2_1, y2_2, n2, rfl, rfl, rfl, g2_0, g2_1, g2_2⟩ := open_agg3 Try.underlying44 (by kernel_rfl) (by kernel_rfl) (hval 2 44 v2 rfl rfl) h2
  obtain ⟨a2_0, hx2_0, _, w2_0⟩ := DataW.trod_int Try.underlying3 g2_0
  obtain rfl : x2_0 = .int .i64 a2_0 := by simpa using hx2_0
  have b2_0 := bounds_i64 w2_0
  obtain ⟨a2_1, hx2_1, _, w2_1⟩ := DataW.trod_string Try.underlying9 g2_1
  obtain rfl : x2_1 = .string a2_1 := by simpa using hx2_1
  obtain ⟨a2_2, hx2_2, _, w2_2⟩ := DataW.trod_int Try.underlying3 g2_2
  obtain rfl : x2_2 = .int .i64 a2_2 := by simpa using hx2_2
  have b2_2 := bounds_i64 w2_2
  clear hA0
  obtain ⟨k, hk⟩ := Ht.HtreeMeanwhile l0 a1 a2_0 a2_1 a2_2 hs0
  refine (l_12_HtreeMeanwhile.calls k A0 c0 l0 a1 a2_0 a2_1 a2_2 true W hr0 hc0 hk).mono fun e W' ⟨he, bel⟩ => ?_
  subst he
  exact ⟨_, rfl, _, _, _, [], _, [], hW', trodAll_mk1 (shut_bool Try.underlying4 _), (trodAll_cons_mk (Below.trod laidOut (by kernel_rfl) (of_decide_eq_true (by kernel_rfl)) k0 bel lt0) (trodAll_cons_mk (Below.trod laidOut (by kernel_rfl) (of_decide_eq_true (by kernel_rfl)) k1 bel lt1) (trodAll_cons_mk (Below.trod laidOut (by kernel_rfl) (of_decide_eq_true (by kernel_rfl)) k2 bel lt2) trodAll_mk0))), rfl, bel.frame _, fun h => by cases h⟩
set_option maxRecDepth 100000 in
theorem lifted (os : Os) (started : os.Started) (H : Type) (enc : TypeId × Value → H) :
    ReturnsInHanded {} Try.checked os 6 .any (Rows.htreeMeanwhileSpec.pre6 enc Try.prog Try.f6 Rows.htreeMeanwhileRow.domain false) (Rows.htreeMeanwhileSpec.post enc Try.prog Try.f6 false true false false) := by
  refine returnsInHanded_of_change_sized (C := Try.checked) own started (by kernel_rfl) Try.func6
    (ChangeSpec.witness6 (enc := enc) (C := Try.checked) false ⟨#[], #[.slice none 0 0, .int .i64 0, .agg #[.int .i64 0, .string ByteArray.empty, .int .i64 0]], []⟩ 8 (by kernel_rfl) (by kernel_rfl) (by kernel_rfl) (by kernel_rfl)) ?_
  intro W base args ds gs before hval hW _ hsz _
  exact contract H enc W base args ds gs before hval hW hsz
theorem over : Rows.htreeMeanwhileRow.holds Try.pinned (OpenSpec.ofChange Rows.htreeMeanwhileSpec) :=
  OpenClaim.holds_of_wide 6 Try.f6 rfl rfl rfl rfl rfl rfl rfl ⟨rfl, rfl, rfl, rfl, rfl⟩ rfl rfl rfl rfl rfl (by kernel_rfl) Try.func6 (by kernel_rfl)
    (of_decide_eq_true (by kernel_rfl)) (by unfold Func.isWrapper; first | (rw [if_pos (by decide +kernel)]; kernel_rfl) | (rw [if_neg (by decide +kernel)]; exact ⟨rfl, rfl⟩))
    (fun os started H enc _ => lifted os started H enc)
theorem proved : Rows.HtreeMeanwhileSaid := over
end Go.Proofs.Yteglhbfhibfodaa.htreeMeanwhile
namespace Go.Proofs.Yteglhbfhibfodaa
theorem htreeMeanwhile_holds : Rows.HtreeMeanwhileSaid := htreeMeanwhile.proved
end Go.Proofs.Yteglhbfhibfodaa
end
