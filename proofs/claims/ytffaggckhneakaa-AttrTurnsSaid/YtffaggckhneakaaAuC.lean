/- Au: this session's texts for the one law, put together (part 3 of 4): what its program computes, function by function, and that this answers true; the row stands at the end of the last part. Conditions: those that each theorem names; the last theorem has none. -/
import Derived.Test.YtffaggckhneakaaAuB
section
namespace Go.Proofs.Ytffaggckhneakaa.Pr
open Go.RowKit Go.Proofs.YtffaggckhneakaaW.PrintWords Go.Proofs.YtffaggckhneakaaW.PrintLast Go.Proofs.YtffaggckhneakaaW.PrintMore
attribute [local go_sem] max2_int min2_int max_two min_two max_three min_three max_four min_four
attribute [local go_sem] Go.Proofs.Ytffaggckhneakaa.Hl.str_geq Go.Proofs.Ytffaggckhneakaa.Hl.str_gtr Go.Proofs.Ytffaggckhneakaa.Hl.str_leq
set_option linter.unusedVariables false
set_option linter.unusedSimpArgs false
theorem ins_row (W : World) (vb : Nat) (p : S26) (hV : W.heap[vb]? = some (.cells #[.string p.f0, .string p.f1] 26 (0, 0))) : Kd.C k26 W (some ⟨vb, 0, none⟩) 1 [p] := by
  refine ⟨rfl, by simp, fun _ => ⟨_, rfl, fun j q hj => ?_⟩⟩
  cases j with
  | zero =>
    simp only [List.getElem?_cons_zero, Option.some.injEq] at hj
    subst hj
    refine ⟨[.string p.f0, .string p.f1], rfl, k26_mk _ p, fun i u hu => ?_⟩
    rw [add_plain]
    have e : 0 * k26.sz + i = i := by rw [show k26.sz = 2 from rfl]; omega
    rw [e, blk_cell hV i]
    simpa using hu
  | succ j => simp at hj
def flat2 (xs : List S26) (i : Nat) : List Value := (Rw.flat xs).drop (i * 2)
set_option maxHeartbeats 8000000 in
set_option maxRecDepth 100000 in
theorem ins_calls (W : World) (base : Nat) (v : Value) (xs : List S26) (p : S26) (vb i n : Nat) (hn : xs.length = n) (hO : Kd.R k26 26 W base (fun _ => True) v xs) (hV : W.heap[vb]? = some (.cells #[.string p.f0, .string p.f1] 26 (0, 0)))
    (hne : ∀ g, v.ownBlock = some g → g ≠ vb) (hbase : base ≤ W.heap.size) (hi : i ≤ n) (hl : n < 4398046511103) :
    Calls Try.prog 39 #[v, .int .i64 i, .slice (some ⟨vb, 0, none⟩) 1 1] W fun e w' => ∃ v', e = .returned v' ∧ Kd.R k26 26 w' base (fun _ => True) v' (xs.take i ++ p :: xs.drop i) ∧ Below base W w' := by
  have hw : ∀ z : Int, 0 ≤ z → z < 9223372036854775807 → wrap64 z = z := fun z _ _ => by unfold wrap64; omega
  have hu26 := Try.underlying26
  have hi26 := info26
  obtain ⟨A, c, rfl⟩ := Kd.R_slice hO
  rw [hn] at hO
  by_cases hin : i = n
  · subst hin
    have HO := Aside0.mk hO
    have HL := Aside0.mk hl
    have HN := Aside0.mk hn
    have hCV := Aside0.mk (ins_row W vb p hV)
    have h0 : (0 : Int) ≤ (i : Int) := by omega
    have h1 : (i : Int) ≤ (i : Int) := by omega
    rw [hn]
    clear hO hl hn hV hne hw
    cases A with
    | none =>
      obtain ⟨rfl, rfl⟩ : i = 0 ∧ c = 0 := by
        rcases (Rw.R_flat HO.out).2 with ⟨h, _⟩ | ⟨g', c', cur', h, _⟩
        · injection h with h1 h2 h3
          exact ⟨h2, h3⟩
        · cases h
      go_enter Try.func39, Try.ntmps39
      go_wp2_with ((with_reducible refine gate_builtin (b := .append) (xs := #[.tmp 23, .tmp 24]) rfl ?_); at_builtin; refine Kd.R_append_rows k26 (w0 := W) base rfl (.tmp 23) (.tmp 24) 22 26 (.agg #[(.string ⟨#[]⟩), (.string ⟨#[]⟩)]) 32 rfl Try.underlying22 info26 rfl (by decide) (by omega) _ xs [p] _ _ _ (fun _ => True) (fun _ => False) rfl rfl HO.out hCV.out (fun _ _ h => h) (fun _ h => h.elim) (fun _ _ => trivial) (Below.refl _ _) hbase (by have := HL.out; have := HN.out; omega) ?_; intro v2 w2 ho2 hb2 hg2 hat2; have HO2 := Aside0.mk ho2; have HB2 := Aside0.mk hb2; clear ho2 hb2 hg2 hat2)
      go_ret
      have e1 : ∀ j, xs.length = j → xs.take j ++ p :: xs.drop j = xs ++ [p] := fun j h => by rw [List.take_of_length_le (by omega), List.drop_of_length_le (by omega)]
      rw [e1 _ HN.out]
      exact ⟨_, rfl, HO2.out, HB2.out⟩
    | some ad =>
      by_cases hci : c = i
      · subst hci
        go_enter Try.func39, Try.ntmps39
        go_wp2_with ((with_reducible refine gate_builtin (b := .append) (xs := #[.tmp 23, .tmp 24]) rfl ?_); at_builtin; refine Kd.R_append_rows k26 (w0 := W) base rfl (.tmp 23) (.tmp 24) 22 26 (.agg #[(.string ⟨#[]⟩), (.string ⟨#[]⟩)]) 32 rfl Try.underlying22 info26 rfl (by decide) (by omega) _ xs [p] _ _ _ (fun _ => True) (fun _ => False) rfl rfl HO.out hCV.out (fun _ _ h => h) (fun _ h => h.elim) (fun _ _ => trivial) (Below.refl _ _) hbase (by have := HL.out; have := HN.out; omega) ?_; intro v2 w2 ho2 hb2 hg2 hat2; have HO2 := Aside0.mk ho2; have HB2 := Aside0.mk hb2; clear ho2 hb2 hg2 hat2)
        go_ret
        have e1 : ∀ j, xs.length = j → xs.take j ++ p :: xs.drop j = xs ++ [p] := fun j h => by rw [List.take_of_length_le (by omega), List.drop_of_length_le (by omega)]
        rw [e1 _ HN.out]
        exact ⟨_, rfl, HO2.out, HB2.out⟩
      · skip
        go_enter Try.func39, Try.ntmps39
        go_wp2_with ((with_reducible refine gate_builtin (b := .append) (xs := #[.tmp 23, .tmp 24]) rfl ?_); at_builtin; refine Kd.R_append_rows k26 (w0 := W) base rfl (.tmp 23) (.tmp 24) 22 26 (.agg #[(.string ⟨#[]⟩), (.string ⟨#[]⟩)]) 32 rfl Try.underlying22 info26 rfl (by decide) (by omega) _ xs [p] _ _ _ (fun _ => True) (fun _ => False) rfl rfl HO.out hCV.out (fun _ _ h => h) (fun _ h => h.elim) (fun _ _ => trivial) (Below.refl _ _) hbase (by have := HL.out; have := HN.out; omega) ?_; intro v2 w2 ho2 hb2 hg2 hat2; have HO2 := Aside0.mk ho2; have HB2 := Aside0.mk hb2; clear ho2 hb2 hg2 hat2)
        go_ret
        have e1 : ∀ j, xs.length = j → xs.take j ++ p :: xs.drop j = xs ++ [p] := fun j h => by rw [List.take_of_length_le (by omega), List.drop_of_length_le (by omega)]
        rw [e1 _ HN.out]
        exact ⟨_, rfl, HO2.out, HB2.out⟩
  · have hlt : i < n := by omega
    have hp0 : 0 < xs.length := by omega
    have h0 : (0 : Int) ≤ (i : Int) := by omega
    have h1 : (i : Int) ≤ (n : Int) := by omega
    have hne1 : ((i : Int) == (n : Int)) = false := beq_eq_false_iff_ne.2 (by omega)
    have hn63 : (n : Int) + 1 < 9223372036854775807 := by omega
    have hi63 : (i : Int) + 1 < 9223372036854775807 := by omega
    have HW1 := Aside0.mk (hw ((n : Int) + 1) (by omega) hn63)
    have HW3 := Aside0.mk (hw ((i : Int) + 1) (by omega) hi63)
    have hXl : (flat2 xs i).length = (n - i) * 2 := by unfold flat2; rw [List.length_drop, Rw.flat_len, hn]; omega
    have hflen : (xs.take i ++ p :: xs.drop i).length = n + 1 := by rw [List.length_append, List.length_cons, List.length_take, List.length_drop, hn]; omega
    have HW4 := Aside0.mk ((hw ((n : Int) + 1 - (i : Int)) (by omega) (by omega)).trans (by omega : (n : Int) + 1 - (i : Int) = ((n + 1 - i : Nat) : Int)))
    clear hw hn63 hi63
    obtain ⟨g, c', cur, hv, hbg, hg, hnc, hcm, hcs, htk⟩ := Rw.own_open (Rw.R_flat hO) hp0
    have HCM := Aside0.mk hcm
    clear hcm
    injection hv with hv1 hv2 hv3
    subst hv1
    subst hv3
    clear hv2
    rw [hn] at hnc htk ⊢
    have hgv : g ≠ vb := hne g rfl
    have hglt : g < W.heap.size := blk_lt hg
    have hvlt : vb < W.heap.size := blk_lt hV
    have hcl : cur.toList.length = c * 2 := by rw [Array.length_toList, hcs]
    have hci : ¬ (c = i) := fun e => absurd hlt (by rw [← e]; exact Nat.not_lt.2 hnc)
    have hcells : ∀ j u, (flat2 xs i)[j]? = some u → W.cell? ⟨g, i * 2 + j, none⟩ = some u := by
      intro j u hj
      rw [blk_cell hg, ← Array.getElem?_toList]
      unfold flat2 at hj
      rw [List.getElem?_drop, ← htk, List.getElem?_take] at hj
      split at hj
      · exact hj
      · cases hj
    have hadd : ∀ b o j : Nat, (⟨b, o, none⟩ : Addr).add j = ⟨b, o + j, none⟩ := fun b o j => by unfold Addr.add; split <;> simp_all
    have hfl1 : ∀ v ∈ flat2 xs i, v.oneCell' = true := fun v hv => Rw.flat_one xs v (List.mem_of_mem_drop hv)
    have hpl1 : ∀ v ∈ Rw.cells2 p, v.oneCell' = true := by intro v hv; simp only [Rw.cells2, List.mem_cons, List.not_mem_nil, or_false] at hv; rcases hv with rfl | rfl <;> rfl
    have hfin : Rw.flat (xs.take i ++ p :: xs.drop i) = (Rw.flat xs).take (i * 2) ++ Rw.cells2 p ++ flat2 xs i := by
      rw [Rw.flat_append, Rw.flat_cons, Rw.flat_take, Rw.flat_drop, ← List.append_assoc]; rfl
    by_cases hcap : (n : Int) + 1 > (c : Int)
    ·
      obtain ⟨i0, hi0, hz3⟩ := Option.map_eq_some_iff.1 info26
      simp only [Prod.mk.injEq] at hz3
      obtain ⟨kk, hkk⟩ : ∃ kk, kk = n + 1 - i := ⟨_, rfl⟩
      have hol : ((Rw.flat xs).take (i * 2)).length = i * 2 := by rw [List.length_take, Rw.flat_len, hn]; omega
      have hocell : ∀ j u, ((Rw.flat xs).take (i * 2))[j]? = some u → W.cell? ⟨g, 0 + j, none⟩ = some u := by
        intro j u hj
        rw [Nat.zero_add, blk_cell hg, ← Array.getElem?_toList]
        rw [List.getElem?_take] at hj
        split at hj
        · rw [← htk, List.getElem?_take] at hj
          split at hj
          · exact hj
          · cases hj
        · cases hj
      have hap := Lib.run_append_grow_zeros (P := Try.prog) W 22 3 22 26 i0 (.agg #[(.string ⟨#[]⟩), (.string ⟨#[]⟩)]) .i64 .i64 Try.underlying22 Try.underlying3 hi0 hz3.1 (some ⟨g, 0, none⟩) i c ((Rw.flat xs).take (i * 2)) (by
          have h := run_loadCells_list (P := Try.prog) W.drew ⟨g, 0, none⟩ ((Rw.flat xs).take (i * 2)) (fun j u hj => by rw [hadd]; exact hocell j u hj)
          rw [hol] at h
          rw [hz3.2.1]
          exact h) kk (by omega) (by rw [hz3.2.1]; decide) (by omega) (by omega) (by rw [hz3.2.2]; omega) (by rw [hz3.2.2]; exact growslice_fits_wide (by omega) (by omega))
      have hsum : i + kk = n + 1 := by omega
      rw [hsum] at hap
      obtain ⟨C2, hC2⟩ : ∃ C2, C2 = grownCap W (n + 1) c 26 := ⟨_, rfl⟩
      have hC2n : n + 1 ≤ C2 := by rw [hC2]; exact grownCap_ge _ _ _ _
      have hC2m : C2 ≤ maxLen := by rw [hC2]; exact grownCap_le_maxLen _ _ _ _ (by unfold maxLen; omega)
      rw [← hC2] at hap
      obtain ⟨N0, hN0⟩ : ∃ N0 : Array Value, N0 = ((Rw.flat xs).take (i * 2)).toArray ++ Builtin.zeroCells (Value.agg #[(.string ⟨#[]⟩), (.string ⟨#[]⟩)]).cells kk ++ Builtin.zeroCells (Value.agg #[(.string ⟨#[]⟩), (.string ⟨#[]⟩)]).cells (C2 - (n + 1)) := ⟨_, rfl⟩
      rw [← hN0] at hap
      have hN0s : N0.size = C2 * 2 := by rw [hN0, Array.size_append, Array.size_append, List.size_toArray, hol, Rw.zero_len, Rw.zero_len]; omega
      have hN0l : N0.toList.length = C2 * 2 := by rw [Array.length_toList, hN0s]
      have hN0t : N0.toList.take (i * 2) = (Rw.flat xs).take (i * 2) := by
        rw [hN0, Array.toList_append, Array.toList_append, List.toList_toArray, List.append_assoc, List.take_append_of_le_length (by rw [hol]; exact Nat.le_refl _), List.take_of_length_le (by rw [hol]; exact Nat.le_refl _)]
      have hb0 : (W.alloc (.cells N0 26)).drew.heap[W.heap.size]? = some (.cells N0 26 (0, 0)) := blk_drew (blk_new W _)
      have hl2 : (Rw.cells2 p).length = 2 := rfl
      obtain ⟨N1, hN1⟩ : ∃ N1 : Array Value, N1 = (N0.toList.take (i * 2) ++ Rw.cells2 p ++ N0.toList.drop (i * 2 + (Rw.cells2 p).length)).toArray := ⟨_, rfl⟩
      have hN1s : N1.size = C2 * 2 := by rw [hN1]; simp only [List.size_toArray, List.length_append, List.length_take, List.length_drop, hN0l, hl2]; omega
      have hN1l : N1.toList.length = C2 * 2 := by rw [Array.length_toList, hN1s]
      have hr1 := Rw.run_copy_cells (P := Try.prog) (W.alloc (.cells N0 26)).drew 22 22 3 26 W.heap.size (i * 2) (n + 1 - i) (C2 - i) ⟨vb, 0, none⟩ 1 1 N0 26 (Rw.cells2 p) 1 2 Try.underlying22 (by kernel_rfl) hb0 (by show 1 = min _ _; omega) rfl (fun j u hj => by
          rw [hadd, Nat.zero_add, blk_cell (blk_drew (blk_alloc hV _))]
          simpa [Rw.cells2] using hj) (by rw [hN0s, hl2]; omega) hpl1
      rw [← hN1] at hr1
      obtain ⟨N2, hN2⟩ : ∃ N2 : Array Value, N2 = (N1.toList.take ((i + 1) * 2) ++ flat2 xs i ++ N1.toList.drop ((i + 1) * 2 + (flat2 xs i).length)).toArray := ⟨_, rfl⟩
      have hN2s : N2.size = C2 * 2 := by rw [hN2]; simp only [List.size_toArray, List.length_append, List.length_take, List.length_drop, hN1l, hXl]; omega
      have hgne : g ≠ W.heap.size := by omega
      have hb1 : ((W.alloc (.cells N0 26)).drew.setRow W.heap.size N1).heap[W.heap.size]? = some (.cells N1 26 (0, 0)) := setRow_heap _ _ N0 _ 26 (0, 0) hb0
      have hg1 : ((W.alloc (.cells N0 26)).drew.setRow W.heap.size N1).heap[g]? = some (.cells cur 26 (0, 0)) := by
        rw [setRow_other _ _ _ _ hgne]; exact blk_drew (blk_alloc hg _)
      have hr2 := Rw.run_copy_cells (P := Try.prog) ((W.alloc (.cells N0 26)).drew.setRow W.heap.size N1).drew 22 22 3 26 W.heap.size ((i + 1) * 2) (n - i) (C2 - (i + 1)) ⟨g, i * 2, none⟩ (n - i) (c - i) N1 26 (flat2 xs i) (n - i) 2 Try.underlying22 (by kernel_rfl) (blk_drew hb1) (by show n - i = min _ _; omega) hXl (fun j u hj => by
          rw [hadd, blk_cell (blk_drew hg1), ← blk_cell hg]
          exact hcells j u hj) (by rw [hN1s, hXl]; omega) hfl1
      rw [← hN2] at hr2
      have e1 : N1.toList.take ((i + 1) * 2) = (Rw.flat xs).take (i * 2) ++ Rw.cells2 p := by
        have hl3 : ((Rw.flat xs).take (i * 2) ++ Rw.cells2 p).length = (i + 1) * 2 := by rw [List.length_append, hol, hl2]; omega
        rw [hN1, List.toList_toArray, hN0t, ← hl3, List.take_left]
      have hNew : N2.toList.take ((n + 1) * 2) = Rw.flat (xs.take i ++ p :: xs.drop i) := by
        have hln : ((Rw.flat xs).take (i * 2) ++ Rw.cells2 p ++ flat2 xs i).length = (n + 1) * 2 := by
          rw [List.length_append, List.length_append, hol, hXl, hl2]; omega
        rw [hN2, List.toList_toArray, e1, hfin, ← hln, List.take_left]
      have HFR := Aside0.mk (Rw.flat_R (w := ((W.alloc (.cells N0 26)).drew.setRow W.heap.size N1).drew.setRow W.heap.size N2) (base := base) (ok := fun _ => True) (v := .slice (some ⟨W.heap.size, 0, none⟩) (n + 1) C2) (xs := xs.take i ++ p :: xs.drop i) ⟨Rw.flat_len _, .inr ⟨W.heap.size, C2, N2, by rw [hflen], hbase, setRow_heap _ _ N1 _ 26 (0, 0) (blk_drew hb1), by rw [hflen]; exact hC2n, hC2m, hN2s, by rw [hflen]; exact hNew⟩⟩ (fun _ _ => trivial))
      have HBE := Aside0.mk (Rw.below_turn (below_drew1 (Rw.below_turn (below_drew1 ((Below.refl base W).alloc hbase (.cells N0 26))) hbase N1)) hbase N2)
      have hcb : decide ((c : Int) < (n : Int) + 1) = true := decide_eq_true (by omega)
      have hci2 : ¬ (C2 = i) := by omega
      have hci3 : ¬ (C2 = i + 1) := by omega
      have hic : i ≤ c := by omega
      have g3 : (0 : Int) ≤ (i : Int) + 1 := by omega
      have g4 : ((i : Int) + 1).toNat = i + 1 := by omega
      have g5 : (i : Int) + 1 ≤ (n : Int) + 1 := by omega
      have g6 : i ≤ n + 1 := by omega
      have g12 : (i : Int) ≤ (n : Int) + 1 := by omega
      have g8 := HW1.out
      have g9 := HW3.out
      have g13' : wrap64 ((n : Int) + 1 - (i : Int)) = (kk : Int) := by rw [hkk]; exact HW4.out
      have G13 := Aside0.mk g13'
      clear g13'
      have G11 := Aside0.mk hr2
      have HAP := Aside0.mk hap
      clear hap hr2 e1 hNew hN0 hN1 hN2 hN0s hN1s hN2s hN0l hN1l hN0t hb0 hb1 hg1 hgne hl2 hcap hfin hflen hXl hfl1 hpl1 hadd hcells hcl hcs htk hg hV hO hne hl hlt hp0 hi hn hin hnc hglt hvlt hgv hbg hC2 hC2n hC2m hsum hkk hol hocell hi0 hz3
      go_enter Try.func39, Try.ntmps39
      go_wp2_with ((with_reducible refine gate_builtin (b := .append) (xs := #[.tmp 34, .tmp 39]) rfl ?_); at_builtin; refine Rw.append_ev W rfl (.tmp 34) (.tmp 39) 22 3 rfl (.slice (some ⟨g, 0, none⟩) i c) (.int .i64 (kk : Int)) rfl (congrArg (Value.int .i64) G13.out) HAP.out ?_)
      refine start_ (n := 9) (S := fun w' => True) (ds := []) #[false, false, false, false, false, false, false, false, false] (by kernel_rfl) rfl rfl trivial (fun hHeld => ?_)
      refine pure_ (i := 0) (N := some 46) (v := ?_) (a' := ?_) #[true, false, false, false, false, false, false, false, false] rfl rfl (by kernel_rfl) (fun _ _ _ h => h) (Or.inl ⟨by rfl, ?_⟩) ?_ ?_
      rotate_left
      · intro w'
        go_simp
        with_reducible rfl
      rotate_left
      · simp only [Act.put, List.setIfInBounds_toArray, List.set_cons_zero, List.set_cons_succ, i64_w, i32_w]
        rfl
      refine pure_ (i := 1) (N := some 47) (v := ?_) (a' := ?_) #[true, true, false, false, false, false, false, false, false] rfl rfl (by kernel_rfl) (fun _ _ _ h => h) (Or.inl ⟨by rfl, ?_⟩) ?_ ?_
      rotate_left
      · intro w'
        go_simp
        with_reducible rfl
      rotate_left
      · simp only [Act.put, List.setIfInBounds_toArray, List.set_cons_zero, List.set_cons_succ, i64_w, i32_w]
        rfl
      refine pure_ (i := 2) (N := some 48) (v := ?_) (a' := ?_) #[true, true, true, false, false, false, false, false, false] rfl rfl (by kernel_rfl) (fun _ _ _ h => h) (Or.inl ⟨by rfl, ?_⟩) ?_ ?_
      rotate_left
      · intro w'
        go_simp
        with_reducible rfl
      rotate_left
      · simp only [Act.put, List.setIfInBounds_toArray, List.set_cons_zero, List.set_cons_succ, i64_w, i32_w]
        rfl
      refine pure_ (i := 3) (N := some 49) (v := ?_) (a' := ?_) #[true, true, true, true, false, false, false, false, false] rfl rfl (by kernel_rfl) (fun _ _ _ h => h) (Or.inl ⟨by rfl, ?_⟩) ?_ ?_
      rotate_left
      · intro w'
        go_simp
        with_reducible rfl
      rotate_left
      · simp only [Act.put, List.setIfInBounds_toArray, List.set_cons_zero, List.set_cons_succ, i64_w, i32_w]
        rfl
      refine pure_ (i := 4) (N := some 50) (v := ?_) (a' := ?_) #[true, true, true, true, true, false, false, false, false] rfl rfl (by kernel_rfl) (fun _ _ _ h => h) (Or.inl ⟨by rfl, ?_⟩) ?_ ?_
      rotate_left
      · intro w'
        go_simp
        with_reducible rfl
      rotate_left
      · simp only [Act.put, List.setIfInBounds_toArray, List.set_cons_zero, List.set_cons_succ, i64_w, i32_w]
        rfl
      refine pure_ (i := 5) (N := some 51) (v := ?_) (a' := ?_) #[true, true, true, true, true, true, false, false, false] rfl rfl (by kernel_rfl) (fun _ _ _ h => h) (Or.inl ⟨by rfl, ?_⟩) ?_ ?_
      rotate_left
      · intro w'
        go_simp
        with_reducible rfl
      rotate_left
      · simp only [Act.put, List.setIfInBounds_toArray, List.set_cons_zero, List.set_cons_succ, i64_w, i32_w]
        rfl
      refine pure_ (i := 6) (N := some 52) (v := ?_) (a' := ?_) #[true, true, true, true, true, true, true, false, false] rfl rfl (by kernel_rfl) (fun _ _ _ h => h) (Or.inl ⟨by rfl, ?_⟩) ?_ ?_
      rotate_left
      · intro w'
        go_simp
        with_reducible rfl
      rotate_left
      · simp only [Act.put, List.setIfInBounds_toArray, List.set_cons_zero, List.set_cons_succ, i64_w, i32_w]
        rfl
      refine pure_ (i := 7) (N := some 53) (v := ?_) (a' := ?_) #[true, true, true, true, true, true, true, true, false] rfl rfl (by kernel_rfl) (fun _ _ _ h => h) (Or.inl ⟨by rfl, ?_⟩) ?_ ?_
      rotate_left
      · intro w'
        go_simp
        with_reducible rfl
      rotate_left
      · simp only [Act.put, List.setIfInBounds_toArray, List.set_cons_zero, List.set_cons_succ, i64_w, i32_w]
        rfl
      refine one_ (i := 8) (N := some 54) #[true, true, true, true, true, true, true, true, true] rfl rfl (by kernel_rfl) (by decide) (fun K hK => ?_)
      refine Rw.copy_step ((W.alloc (.cells N0 26)).drew.setRow W.heap.size N1).drew (by rfl) (.tmp 50) (.tmp 53) 22 22 rfl (.slice (some ⟨W.heap.size, (i + 1) * 2, none⟩) (n - i) (C2 - (i + 1))) (.slice (some ⟨g, i * 2, none⟩) (n - i) (c - i)) rfl rfl (v' := goInt ((n - i : Nat) : Int)) (w' := ((W.alloc (.cells N0 26)).drew.setRow W.heap.size N1).drew.setRow W.heap.size N2) G11.out ?_
      refine hK.out _ _ trivial (fun hHeld => ?_)
      clear hK K
      refine norm_ (a' := ?_) ?_ ?_
      rotate_left
      · show Act.put _ (some 54) _ = _
        simp only [Act.put, List.setIfInBounds_toArray, List.set_cons_zero, List.set_cons_succ, i64_w, i32_w]
        rfl
      refine done_ (by kernel_rfl) ?_
      go_wp2
      go_ret
      exact ⟨_, rfl, HFR.out, HBE.out⟩
    · have hcap' : n + 1 ≤ c := by omega
      obtain ⟨N1, hN1⟩ : ∃ N1 : Array Value, N1 = (cur.toList.take ((i + 1) * 2) ++ flat2 xs i ++ cur.toList.drop ((i + 1) * 2 + (flat2 xs i).length)).toArray := ⟨_, rfl⟩
      have hN1s : N1.size = cur.size := by rw [hN1]; simp only [List.size_toArray, List.length_append, List.length_take, List.length_drop, hXl, hcl, hcs]; omega
      have hN1l : N1.toList.length = c * 2 := by rw [Array.length_toList, hN1s, hcs]
      have hr1 : ∀ W2 : World, W2.heap = W.heap → ∀ c1 c2, (Builtin.copy_ #[22, 22] 3 #[.slice (some ⟨g, (i + 1) * 2, none⟩) (n - i) c1, .slice (some ⟨g, i * 2, none⟩) (n + 1 - i) c2]).run Try.prog W2 = .ok (goInt ((n - i : Nat) : Int)) (W2.setRow g N1) := by
        intro W2 hW2 c1 c2
        have h := Rw.run_copy_cells (P := Try.prog) W2 22 22 3 26 g ((i + 1) * 2) (n - i) c1 ⟨g, i * 2, none⟩ (n + 1 - i) c2 cur 26 (flat2 xs i) (n - i) 2 Try.underlying22 (by kernel_rfl) (by rw [hW2]; exact hg) (by show n - i = min _ _; omega) hXl (fun j u hj => by
          rw [hadd]
          have := hcells j u hj
          unfold World.cell? at this ⊢
          rw [hW2]; exact this) (by rw [hXl, hcs]; omega) hfl1
        rw [← hN1] at h
        exact h
      obtain ⟨N2, hN2⟩ : ∃ N2 : Array Value, N2 = (N1.toList.take (i * 2) ++ Rw.cells2 p ++ N1.toList.drop (i * 2 + (Rw.cells2 p).length)).toArray := ⟨_, rfl⟩
      have hN2s : N2.size = cur.size := by rw [hN2]; simp only [List.size_toArray, List.length_append, List.length_take, List.length_drop, hN1l, hcs]; simp only [Rw.cells2, List.length_cons, List.length_nil]; omega
      have hr2 : ∀ W2 : World, W2.heap = W.heap → ∀ c1, (Builtin.copy_ #[22, 22] 3 #[.slice (some ⟨g, i * 2, none⟩) (n + 1 - i) c1, .slice (some ⟨vb, 0, none⟩) 1 1]).run Try.prog (W2.setRow g N1) = .ok (goInt 1) ((W2.setRow g N1).setRow g N2) := by
        intro W2 hW2 c1
        have h := Rw.run_copy_cells (P := Try.prog) (W2.setRow g N1) 22 22 3 26 g (i * 2) (n + 1 - i) c1 ⟨vb, 0, none⟩ 1 1 N1 26 (Rw.cells2 p) 1 2 Try.underlying22 (by kernel_rfl) (setRow_heap _ _ cur _ 26 (0, 0) (by rw [hW2]; exact hg)) (by show 1 = min _ _; omega) rfl (fun j u hj => by
          rw [hadd]
          have hv2 : (W2.setRow g N1).heap[vb]? = some (.cells #[.string p.f0, .string p.f1] 26 (0, 0)) := by rw [setRow_other _ _ _ _ (fun e => hgv e.symm), hW2]; exact hV
          rw [Nat.zero_add, blk_cell hv2]
          simpa [Rw.cells2] using hj) (by rw [hN1s, hcs]; simp only [Rw.cells2, List.length_cons, List.length_nil]; omega) hpl1
        rw [← hN2] at h
        exact h
      have e1 : N1.toList.take (i * 2) = (Rw.flat xs).take (i * 2) := by
        rw [hN1, List.toList_toArray, List.append_assoc, List.take_append_of_le_length (by rw [List.length_take, hcl]; omega), List.take_take, Nat.min_eq_left (by omega), ← htk, List.take_take, Nat.min_eq_left (by omega)]
      have e2 : N1.toList.drop (i * 2 + 2) = flat2 xs i ++ cur.toList.drop ((i + 1) * 2 + (flat2 xs i).length) := by
        have hl2 : (cur.toList.take ((i + 1) * 2)).length = i * 2 + 2 := by rw [List.length_take, hcl]; omega
        rw [hN1, List.toList_toArray, List.append_assoc, ← hl2, List.drop_left]
      have hNew : N2.toList.take ((n + 1) * 2) = Rw.flat (xs.take i ++ p :: xs.drop i) := by
        have hln : ((Rw.flat xs).take (i * 2) ++ Rw.cells2 p ++ flat2 xs i).length = (n + 1) * 2 := by
          rw [List.length_append, List.length_append, List.length_take, Rw.flat_len, hXl, hn, show (Rw.cells2 p).length = 2 from rfl]; omega
        rw [hN2, List.toList_toArray, e1, show (Rw.cells2 p).length = 2 from rfl, e2, ← List.append_assoc, hfin, ← hln, List.take_left]
      have hov : ∀ lb cb, (callFunc 61 #[.slice (some ⟨vb, 0, none⟩) 1 1, .slice (some ⟨g, (i + 1) * 2, none⟩) lb cb]).run Try.prog W = .ok (.value (.bool false)) W := fun lb cb => by
        rw [run_callFunc_extern Try.func61 (by kernel_rfl) (by kernel_rfl) (by kernel_rfl) (e := Extern.SlicesOverlaps.overlaps #[22, 22] #[4]) (by kernel_rfl),
          Lib.run_overlaps_apart W 22 4 26 Try.underlying22 2 Try.sizeOf26 ⟨vb, 0, none⟩ ⟨g, (i + 1) * 2, none⟩ 1 1 lb cb (fun e => hgv e.symm) 26 26 2 cur.size (by simp [World.shape?, hV]) (by simp [World.shape?, hg]) (by rw [hcs]; omega) (blk_frozen hV 0) (blk_frozen hV 2)]
        rfl
      have HFR := Aside0.mk (Rw.flat_R (w := (W.drew.setRow g N1).setRow g N2) (base := base) (ok := fun _ => True) (v := .slice (some ⟨g, 0, none⟩) (n + 1) c) (xs := xs.take i ++ p :: xs.drop i) ⟨Rw.flat_len _, .inr ⟨g, c, N2, by rw [hflen], hbg, setRow_heap _ _ N1 _ 26 (0, 0) (setRow_heap _ _ cur _ 26 (0, 0) hg), by rw [hflen]; exact hcap', HCM.out, by rw [hN2s, hcs], by rw [hflen]; exact hNew⟩⟩ (fun _ _ => trivial))
      have HBE := Aside0.mk (Rw.below_turn (Rw.below_turn (below_drew1 (Below.refl base W)) hbg N1) hbg N2)
      have hcb : decide ((c : Int) < (n : Int) + 1) = false := decide_eq_false (by omega)
      have hci1 : ¬ (c = i + 1) := by omega
      have g1 : (0 : Int) ≤ (n : Int) + 1 := by omega
      have g2 : ((n : Int) + 1).toNat = n + 1 := by omega
      have g3 : (0 : Int) ≤ (i : Int) + 1 := by omega
      have g4 : ((i : Int) + 1).toNat = i + 1 := by omega
      have g5 : (i : Int) + 1 ≤ (n : Int) + 1 := by omega
      have g6 : i ≤ n + 1 := by omega
      have g12 : (i : Int) ≤ (n : Int) + 1 := by omega
      have g7 : (n : Int) + 1 ≤ (c : Int) := by omega
      have g8 := HW1.out
      have g9 := HW3.out
      have g10 := hr1 W.drew rfl
      have g11 := hr2 W.drew rfl
      clear e1 e2 hNew hN1 hN2 hN1s hN2s hN1l hr1 hr2 hcap hfin hflen hXl hfl1 hpl1 hadd hcells hcl hcs htk hg hV hO hne hl hlt hp0 hi hn hin hnc hglt hvlt hgv hbg
      go_enter Try.func39, Try.ntmps39
      go_wp2
      have G10 := Aside0.mk g10
      have G11 := Aside0.mk g11
      clear g10 g11
      refine start_ (n := 9) (S := fun w' => True) (ds := []) #[false, false, false, false, false, false, false, false, false] (by kernel_rfl) rfl rfl trivial (fun hHeld => ?_)
      refine pure_ (i := 0) (N := some 69) (v := ?_) (a' := ?_) #[true, false, false, false, false, false, false, false, false] rfl rfl (by kernel_rfl) (fun _ _ _ h => h) (Or.inl ⟨by rfl, ?_⟩) ?_ ?_
      rotate_left
      · intro w'
        go_simp
        with_reducible rfl
      rotate_left
      · simp only [Act.put, List.setIfInBounds_toArray, List.set_cons_zero, List.set_cons_succ, i64_w, i32_w]
        rfl
      refine pure_ (i := 1) (N := some 70) (v := ?_) (a' := ?_) #[true, true, false, false, false, false, false, false, false] rfl rfl (by kernel_rfl) (fun _ _ _ h => h) (Or.inl ⟨by rfl, ?_⟩) ?_ ?_
      rotate_left
      · intro w'
        go_simp
        with_reducible rfl
      rotate_left
      · simp only [Act.put, List.setIfInBounds_toArray, List.set_cons_zero, List.set_cons_succ, i64_w, i32_w]
        rfl
      refine pure_ (i := 2) (N := some 71) (v := ?_) (a' := ?_) #[true, true, true, false, false, false, false, false, false] rfl rfl (by kernel_rfl) (fun _ _ _ h => h) (Or.inl ⟨by rfl, ?_⟩) ?_ ?_
      rotate_left
      · intro w'
        go_simp
        with_reducible rfl
      rotate_left
      · simp only [Act.put, List.setIfInBounds_toArray, List.set_cons_zero, List.set_cons_succ, i64_w, i32_w]
        rfl
      refine pure_ (i := 3) (N := some 72) (v := ?_) (a' := ?_) #[true, true, true, true, false, false, false, false, false] rfl rfl (by kernel_rfl) (fun _ _ _ h => h) (Or.inl ⟨by rfl, ?_⟩) ?_ ?_
      rotate_left
      · intro w'
        go_simp
        with_reducible rfl
      rotate_left
      · simp only [Act.put, List.setIfInBounds_toArray, List.set_cons_zero, List.set_cons_succ, i64_w, i32_w]
        rfl
      refine pure_ (i := 4) (N := some 73) (v := ?_) (a' := ?_) #[true, true, true, true, true, false, false, false, false] rfl rfl (by kernel_rfl) (fun _ _ _ h => h) (Or.inl ⟨by rfl, ?_⟩) ?_ ?_
      rotate_left
      · intro w'
        go_simp
        with_reducible rfl
      rotate_left
      · simp only [Act.put, List.setIfInBounds_toArray, List.set_cons_zero, List.set_cons_succ, i64_w, i32_w]
        rfl
      refine pure_ (i := 5) (N := some 74) (v := ?_) (a' := ?_) #[true, true, true, true, true, true, false, false, false] rfl rfl (by kernel_rfl) (fun _ _ _ h => h) (Or.inl ⟨by rfl, ?_⟩) ?_ ?_
      rotate_left
      · intro w'
        go_simp
        with_reducible rfl
      rotate_left
      · simp only [Act.put, List.setIfInBounds_toArray, List.set_cons_zero, List.set_cons_succ, i64_w, i32_w]
        rfl
      refine pure_ (i := 6) (N := some 75) (v := ?_) (a' := ?_) #[true, true, true, true, true, true, true, false, false] rfl rfl (by kernel_rfl) (fun _ _ _ h => h) (Or.inl ⟨by rfl, ?_⟩) ?_ ?_
      rotate_left
      · intro w'
        go_simp
        with_reducible rfl
      rotate_left
      · simp only [Act.put, List.setIfInBounds_toArray, List.set_cons_zero, List.set_cons_succ, i64_w, i32_w]
        rfl
      refine pure_ (i := 7) (N := some 76) (v := ?_) (a' := ?_) #[true, true, true, true, true, true, true, true, false] rfl rfl (by kernel_rfl) (fun _ _ _ h => h) (Or.inl ⟨by rfl, ?_⟩) ?_ ?_
      rotate_left
      · intro w'
        go_simp
        with_reducible rfl
      rotate_left
      · simp only [Act.put, List.setIfInBounds_toArray, List.set_cons_zero, List.set_cons_succ, i64_w, i32_w]
        rfl
      refine one_ (i := 8) (N := some 77) #[true, true, true, true, true, true, true, true, true] rfl rfl (by kernel_rfl) (by decide) (fun K hK => ?_)
      refine Rw.copy_step W.drew (by rfl) (.tmp 73) (.tmp 76) 22 22 rfl (.slice (some ⟨g, (i + 1) * 2, none⟩) (n - i) (c - (i + 1))) (.slice (some ⟨g, i * 2, none⟩) (n + 1 - i) (c - i)) rfl rfl (v' := goInt ((n - i : Nat) : Int)) (w' := W.drew.setRow g N1) (G10.out _ _) ?_
      refine hK.out _ _ trivial (fun hHeld => ?_)
      clear hK K
      refine norm_ (a' := ?_) ?_ ?_
      rotate_left
      · show Act.put _ (some 77) _ = _
        simp only [Act.put, List.setIfInBounds_toArray, List.set_cons_zero, List.set_cons_succ, i64_w, i32_w]
        rfl
      refine done_ (by kernel_rfl) ?_
      have g11 := G11.out
      go_wp2
      go_ret
      exact ⟨_, rfl, HFR.out, HBE.out⟩
end Go.Proofs.Ytffaggckhneakaa.Pr
end
section
namespace Go.Proofs.Ytffaggckhneakaa.Pr
open Go.RowKit Go.Proofs.YtffaggckhneakaaW.PrintWords Go.Proofs.YtffaggckhneakaaW.PrintLast Go.Proofs.YtffaggckhneakaaW.PrintMore
attribute [local go_sem] max2_int min2_int max_two min_two max_three min_three max_four min_four
attribute [local go_sem] Go.Proofs.Ytffaggckhneakaa.Hl.str_geq Go.Proofs.Ytffaggckhneakaa.Hl.str_gtr Go.Proofs.Ytffaggckhneakaa.Hl.str_leq
set_option linter.unusedVariables false
set_option linter.unusedSimpArgs false
theorem own_lt {w : World} {base : Nat} {ok : Nat → Prop} {v : Value} {xs : List S26} (h : Kd.R k26 26 w base ok v xs) : ∀ g, v.ownBlock = some g → g < w.heap.size := by
  intro g hg
  rcases (Rw.R_flat h).2 with ⟨rfl, _⟩ | ⟨g', c', cur', rfl, _, hh, _⟩
  · cases hg
  · injection hg with hg
    subst hg
    exact blk_lt hh
def attr_Set.fin (k : Nat) (m : List S26) : Option (List S26 × Int) := (attr_check.f k m).bind fun t => (if t.1 = true then some (m, 0) else some ([], 15))
def attr_Set.f (k : Nat) (l0 : List S26) (a1_0 a1_1 : ByteArray) : Option (List S26 × Int) := (attr_check.f k l0).bind fun t => (if t.2 = 0 then ((attr_may.f a1_0 a1_1).bind fun q => (if q = true then ((attr_find.f k l0 a1_0).bind fun u => (if u.2 = true then (if 0 ≤ u.1 ∧ u.1 < (l0.length : Int) then attr_Set.fin k (l0.set u.1.toNat ⟨a1_0, a1_1⟩) else none) else (if 0 ≤ u.1 ∧ u.1 ≤ (l0.length : Int) ∧ l0.length < 4398046511103 then attr_Set.fin k (l0.take u.1.toNat ++ (⟨a1_0, a1_1⟩ : S26) :: l0.drop u.1.toNat) else none))) else some ([], 1))) else some ([], 1))
set_option maxHeartbeats 8000000 in
set_option maxRecDepth 100000 in
theorem attr_Set.calls (k : Nat) (A0 : Option Addr) (c0 : Nat) (l0 : List (S26)) (a1_0 : ByteArray) (a1_1 : ByteArray) (r1 : List (S26)) (r2 : Int) (w : World) (hr0 : Kd.C k26 w A0 l0.length l0) (hc0 : l0.length ≤ c0) (h : attr_Set.f k l0 a1_0 a1_1 = some (r1, r2)) :
    Calls Try.prog 14 #[.slice A0 l0.length c0, .agg #[.string a1_0, .string a1_1]] w fun e w' => ∃ v0_ : Value, e = .returned (.tuple #[v0_, .int .i64 r2]) ∧ Kd.R k26 26 w' w.heap.size (fun _ => True) v0_ r1 ∧ Below w.heap.size w w' := by
  unfold attr_Set.f at h
  have hu26 := Try.underlying26
  have hi26 := info26
  obtain ⟨⟨t1, t2⟩, ht, h⟩ := Option.bind_eq_some_iff.1 h
  simp only [] at h
  have HR0 := Aside0.mk hr0
  have HC0 := Aside0.mk hc0
  have HT := Aside0.mk ht
  have HBA := Aside0.mk ((Below.refl w.heap.size w).alloc (Nat.le_refl _) (.cells #[.string a1_0, .string a1_1] 26))
  clear hr0 hc0 ht
  by_cases h2 : t2 = 0
  · subst h2
    rw [if_pos rfl] at h
    obtain ⟨q, hq, h⟩ := Option.bind_eq_some_iff.1 h
    have HQ := Aside0.mk hq
    clear hq
    by_cases hqt : q = true
    · subst hqt
      rw [if_pos rfl] at h
      obtain ⟨⟨u1, u2⟩, hu, h⟩ := Option.bind_eq_some_iff.1 h
      simp only [] at h
      have hlen : l0.length < 4398046511104 := by
        unfold attr_find.f at hu
        by_cases hl : l0.length < 4398046511104
        · exact hl
        · rw [if_neg hl] at hu; cases hu
      have HU := Aside0.mk hu
      have HL := Aside0.mk hlen
      clear hu
      by_cases hu2 : u2 = true
      · subst hu2
        rw [if_pos rfl] at h
        by_cases hb : 0 ≤ u1 ∧ u1 < (l0.length : Int)
        · rw [if_pos hb] at h
          obtain ⟨i, rfl⟩ : ∃ i : Nat, u1 = (i : Int) := ⟨u1.toNat, by omega⟩
          rw [Int.toNat_natCast] at h
          have hi0 : (0 : Int) ≤ (i : Int) := hb.1
          have hi1 : (i : Int) < (l0.length : Int) := hb.2
          have HI := Aside0.mk (show i < l0.length by omega)
          clear hb hlen
          obtain ⟨M, hM⟩ : ∃ M : List S26, M = l0.set i ⟨a1_0, a1_1⟩ := ⟨_, rfl⟩
          have hML : M.length = l0.length := by rw [hM, List.length_set]
          have HM := Aside0.mk hM
          have HML := Aside0.mk hML
          rw [← hM] at h
          clear hM hML
          unfold attr_Set.fin at h
          obtain ⟨⟨s1, s2⟩, hs, h⟩ := Option.bind_eq_some_iff.1 h
          simp only [] at h
          have HS := Aside0.mk hs
          clear hs
          by_cases hs1 : s1 = true
          · subst hs1
            rw [if_pos rfl] at h
            obtain ⟨rfl, rfl⟩ := Prod.mk.inj (Option.some.inj h)
            clear h
            go_enter Try.func14, Try.ntmps14
            go_wp2_with (first | (go_at_call 35; have hck := attr_check.calls k (some ⟨g3, 0, none⟩) c3 M _ s2 w5 HR6.out HC6.out HS.out; rw [HML.out] at hck; refine hck.mono ?_; rintro e w7 ⟨rfl, hb7⟩; have HO7 := Aside0.mk (Kd.R_below HO5.out hb7); have HB7 := Aside0.mk (HB5.out.trans (hb7.mono HB5.out.size)); clear hb7 hck) | ((with_reducible refine gate_store (p := 38) rfl ?_); refine Kd.R_store k26 (w0 := w) w.heap.size rfl rfl 26 (.tmp 38) (.tmp 37) rfl 26 (i : Int) 0 l0 (⟨a1_0, a1_1⟩ : S26) (.agg #[.string a1_0, .string a1_1]) [.string a1_0, .string a1_1] _ (fun _ => True) (fun _ => False) rfl (by first | rfl | (rw [show k26.sz = 2 from rfl]; omega)) rfl rfl (by kernel_rfl) (by simp [Value.oneCell']) HO4.out hi0 hi1 rfl HCC.out (show 2 ≤ 2 from by decide) (k26_mkM _ _ _ (⟨a1_0, a1_1⟩ : S26)) (fun _ h => h.elim) HB4.out ?_; intro w5 ho5 hb5 hg5; rw [Int.toNat_natCast, ← HM.out] at ho5; obtain ⟨A6, c6, e6, hc6, hr6⟩ := Kd.R_reads ho5; rw [HML.out] at e6; injection e6 with e6a e6b e6c; subst e6a; subst e6c; have HO5 := Aside0.mk ho5; have HB5 := Aside0.mk hb5; have HR6 := Aside0.mk hr6; have HC6 := Aside0.mk hc6; clear ho5 hb5 hg5 hr6 hc6 e6b) | (go_at_call 38; refine (attr_find.calls k A0 c0 l0 a1_0 (i : Int) true _ (Kd.C_below HR0.out HB3.out) HC0.out HU.out).mono ?_; rintro e w4 ⟨rfl, hb4⟩; have HBK4 := Aside0.mk (blk_below HBK3.out hb4); have hc40 := (blk_cell HBK4.out 0).trans rfl; have hc41 := (blk_cell HBK4.out 1).trans rfl; have HO4 := Aside0.mk (Kd.R_below HO3.out hb4); have HB4 := Aside0.mk (HB3.out.trans (hb4.mono HB3.out.size)); clear hb4; obtain ⟨ce, hcl, hM, hcc, hfr⟩ := Kd.R_elem HO4.out z26 (i : Int) hi0 hi1; obtain rfl := k26_openM hM; have HCC := Aside0.mk hcc; clear hcl hM hcc hfr) | (go_at_call 37; refine (api_Pair_37.calls A0 c0 l0 l0 _ (Kd.C_below HR0.out HB2.out) HC0.out (by unfold api_Pair_37.f; rw [if_pos HL.out])).mono ?_; rintro e w3 ⟨v3, rfl, ho3, hb3⟩; obtain ⟨g3, c3, -, rfl, -⟩ := Rw.own_open (Rw.R_flat ho3) (by have := HI.out; omega); have HBK3 := Aside0.mk (blk_below HBK2.out hb3); have hc30 := (blk_cell HBK3.out 0).trans rfl; have hc31 := (blk_cell HBK3.out 1).trans rfl; have HO3 := Aside0.mk (Kd.R_lower ho3 HB2.out.size); have HB3 := Aside0.mk (HB2.out.trans (hb3.mono HB2.out.size)); clear ho3 hb3) | (go_at_call 36; refine (attr_may.calls a1_0 a1_1 true _ HQ.out).mono ?_; rintro e w2 ⟨rfl, hb2⟩; have HBK2 := Aside0.mk (blk_below HBK1.out hb2); have HB2 := Aside0.mk (HB1.out.trans (hb2.mono HB1.out.size)); clear hb2) | (go_at_call 35; refine (attr_check.calls k A0 c0 l0 t1 0 _ (Kd.C_alloc HR0.out _) HC0.out HT.out).mono ?_; rintro e w1 ⟨rfl, hb1⟩; have HBK1 := Aside0.mk (blk_below (blk_new w _) hb1); have hc10 := (blk_cell HBK1.out 0).trans rfl; have hc11 := (blk_cell HBK1.out 1).trans rfl; have HB1 := Aside0.mk (HBA.out.trans (hb1.mono HBA.out.size)); clear hb1))
            go_ret2
            exact ⟨_, rfl, HO7.out, HB7.out⟩
          · obtain rfl : s1 = false := by simpa using hs1
            rw [if_neg (by decide)] at h
            obtain ⟨rfl, rfl⟩ := Prod.mk.inj (Option.some.inj h)
            clear h hs1
            go_enter Try.func14, Try.ntmps14
            go_wp2_with (first | (go_at_call 35; have hck := attr_check.calls k (some ⟨g3, 0, none⟩) c3 M _ s2 w5 HR6.out HC6.out HS.out; rw [HML.out] at hck; refine hck.mono ?_; rintro e w7 ⟨rfl, hb7⟩; have HO7 := Aside0.mk (Kd.R_below HO5.out hb7); have HB7 := Aside0.mk (HB5.out.trans (hb7.mono HB5.out.size)); clear hb7 hck) | ((with_reducible refine gate_store (p := 38) rfl ?_); refine Kd.R_store k26 (w0 := w) w.heap.size rfl rfl 26 (.tmp 38) (.tmp 37) rfl 26 (i : Int) 0 l0 (⟨a1_0, a1_1⟩ : S26) (.agg #[.string a1_0, .string a1_1]) [.string a1_0, .string a1_1] _ (fun _ => True) (fun _ => False) rfl (by first | rfl | (rw [show k26.sz = 2 from rfl]; omega)) rfl rfl (by kernel_rfl) (by simp [Value.oneCell']) HO4.out hi0 hi1 rfl HCC.out (show 2 ≤ 2 from by decide) (k26_mkM _ _ _ (⟨a1_0, a1_1⟩ : S26)) (fun _ h => h.elim) HB4.out ?_; intro w5 ho5 hb5 hg5; rw [Int.toNat_natCast, ← HM.out] at ho5; obtain ⟨A6, c6, e6, hc6, hr6⟩ := Kd.R_reads ho5; rw [HML.out] at e6; injection e6 with e6a e6b e6c; subst e6a; subst e6c; have HO5 := Aside0.mk ho5; have HB5 := Aside0.mk hb5; have HR6 := Aside0.mk hr6; have HC6 := Aside0.mk hc6; clear ho5 hb5 hg5 hr6 hc6 e6b) | (go_at_call 38; refine (attr_find.calls k A0 c0 l0 a1_0 (i : Int) true _ (Kd.C_below HR0.out HB3.out) HC0.out HU.out).mono ?_; rintro e w4 ⟨rfl, hb4⟩; have HBK4 := Aside0.mk (blk_below HBK3.out hb4); have hc40 := (blk_cell HBK4.out 0).trans rfl; have hc41 := (blk_cell HBK4.out 1).trans rfl; have HO4 := Aside0.mk (Kd.R_below HO3.out hb4); have HB4 := Aside0.mk (HB3.out.trans (hb4.mono HB3.out.size)); clear hb4; obtain ⟨ce, hcl, hM, hcc, hfr⟩ := Kd.R_elem HO4.out z26 (i : Int) hi0 hi1; obtain rfl := k26_openM hM; have HCC := Aside0.mk hcc; clear hcl hM hcc hfr) | (go_at_call 37; refine (api_Pair_37.calls A0 c0 l0 l0 _ (Kd.C_below HR0.out HB2.out) HC0.out (by unfold api_Pair_37.f; rw [if_pos HL.out])).mono ?_; rintro e w3 ⟨v3, rfl, ho3, hb3⟩; obtain ⟨g3, c3, -, rfl, -⟩ := Rw.own_open (Rw.R_flat ho3) (by have := HI.out; omega); have HBK3 := Aside0.mk (blk_below HBK2.out hb3); have hc30 := (blk_cell HBK3.out 0).trans rfl; have hc31 := (blk_cell HBK3.out 1).trans rfl; have HO3 := Aside0.mk (Kd.R_lower ho3 HB2.out.size); have HB3 := Aside0.mk (HB2.out.trans (hb3.mono HB2.out.size)); clear ho3 hb3) | (go_at_call 36; refine (attr_may.calls a1_0 a1_1 true _ HQ.out).mono ?_; rintro e w2 ⟨rfl, hb2⟩; have HBK2 := Aside0.mk (blk_below HBK1.out hb2); have HB2 := Aside0.mk (HB1.out.trans (hb2.mono HB1.out.size)); clear hb2) | (go_at_call 35; refine (attr_check.calls k A0 c0 l0 t1 0 _ (Kd.C_alloc HR0.out _) HC0.out HT.out).mono ?_; rintro e w1 ⟨rfl, hb1⟩; have HBK1 := Aside0.mk (blk_below (blk_new w _) hb1); have hc10 := (blk_cell HBK1.out 0).trans rfl; have hc11 := (blk_cell HBK1.out 1).trans rfl; have HB1 := Aside0.mk (HBA.out.trans (hb1.mono HBA.out.size)); clear hb1))
            go_ret2
            exact ⟨_, rfl, Kd.R_nil _ _ _ _ _, HB7.out⟩
        · rw [if_neg hb] at h
          cases h
      · obtain rfl : u2 = false := by simpa using hu2
        rw [if_neg (by decide)] at h
        by_cases hb : 0 ≤ u1 ∧ u1 ≤ (l0.length : Int) ∧ l0.length < 4398046511103
        · rw [if_pos hb] at h
          obtain ⟨i, rfl⟩ : ∃ i : Nat, u1 = (i : Int) := ⟨u1.toNat, by omega⟩
          rw [Int.toNat_natCast] at h
          have HI := Aside0.mk (show i ≤ l0.length by omega)
          have HL2 := Aside0.mk hb.2.2
          clear hb hlen hu2
          obtain ⟨M, hM⟩ : ∃ M : List S26, M = l0.take i ++ ⟨a1_0, a1_1⟩ :: l0.drop i := ⟨_, rfl⟩
          have HM := Aside0.mk hM
          rw [← hM] at h
          clear hM
          unfold attr_Set.fin at h
          obtain ⟨⟨s1, s2⟩, hs, h⟩ := Option.bind_eq_some_iff.1 h
          simp only [] at h
          have HS := Aside0.mk hs
          clear hs
          by_cases hs1 : s1 = true
          · subst hs1
            rw [if_pos rfl] at h
            obtain ⟨rfl, rfl⟩ := Prod.mk.inj (Option.some.inj h)
            clear h
            go_enter Try.func14, Try.ntmps14
            go_wp2_with (first | (go_at_call 35; refine (attr_check.calls k A6 c6 M _ s2 w5 HR6.out HC6.out HS.out).mono ?_; rintro e w7 ⟨rfl, hb7⟩; have HO7 := Aside0.mk (Kd.R_below HO5.out hb7); have HB7 := Aside0.mk (HB5.out.trans (hb7.mono HB5.out.size)); clear hb7) | (go_at_call 39; refine (ins_calls (w4.alloc (.cells #[.string a1_0, .string a1_1] 26)) w.heap.size v3 l0 (⟨a1_0, a1_1⟩ : S26) w4.heap.size i l0.length rfl (Kd.R_alloc HO4.out _) (blk_new w4 _) (fun g hg => by have := own_lt HO4.out g hg; omega) (HB4.out.alloc HB4.out.size _).size HI.out HL2.out).mono ?_; rintro e w5 ⟨v5, rfl, ho5, hb5⟩; rw [← HM.out] at ho5; obtain ⟨A6, c6, rfl, hc6, hr6⟩ := Kd.R_reads ho5; have HO5 := Aside0.mk ho5; have HB5 := Aside0.mk ((HB4.out.alloc HB4.out.size (.cells #[.string a1_0, .string a1_1] 26)).trans hb5); have HR6 := Aside0.mk hr6; have HC6 := Aside0.mk hc6; clear ho5 hb5 hr6 hc6) | (go_at_call 38; refine (attr_find.calls k A0 c0 l0 a1_0 (i : Int) false _ (Kd.C_below HR0.out HB3.out) HC0.out HU.out).mono ?_; rintro e w4 ⟨rfl, hb4⟩; have HBK4 := Aside0.mk (blk_below HBK3.out hb4); have hc40 := (blk_cell HBK4.out 0).trans rfl; have hc41 := (blk_cell HBK4.out 1).trans rfl; have HO4 := Aside0.mk (Kd.R_below HO3.out hb4); have HB4 := Aside0.mk (HB3.out.trans (hb4.mono HB3.out.size)); clear hb4) | (go_at_call 37; refine (api_Pair_37.calls A0 c0 l0 l0 _ (Kd.C_below HR0.out HB2.out) HC0.out (by unfold api_Pair_37.f; rw [if_pos HL.out])).mono ?_; rintro e w3 ⟨v3, rfl, ho3, hb3⟩; have HBK3 := Aside0.mk (blk_below HBK2.out hb3); have hc30 := (blk_cell HBK3.out 0).trans rfl; have hc31 := (blk_cell HBK3.out 1).trans rfl; have HO3 := Aside0.mk (Kd.R_lower ho3 HB2.out.size); have HB3 := Aside0.mk (HB2.out.trans (hb3.mono HB2.out.size)); clear ho3 hb3) | (go_at_call 36; refine (attr_may.calls a1_0 a1_1 true _ HQ.out).mono ?_; rintro e w2 ⟨rfl, hb2⟩; have HBK2 := Aside0.mk (blk_below HBK1.out hb2); have HB2 := Aside0.mk (HB1.out.trans (hb2.mono HB1.out.size)); clear hb2) | (go_at_call 35; refine (attr_check.calls k A0 c0 l0 t1 0 _ (Kd.C_alloc HR0.out _) HC0.out HT.out).mono ?_; rintro e w1 ⟨rfl, hb1⟩; have HBK1 := Aside0.mk (blk_below (blk_new w _) hb1); have hc10 := (blk_cell HBK1.out 0).trans rfl; have hc11 := (blk_cell HBK1.out 1).trans rfl; have HB1 := Aside0.mk (HBA.out.trans (hb1.mono HBA.out.size)); clear hb1))
            go_ret2
            exact ⟨_, rfl, HO7.out, HB7.out⟩
          · obtain rfl : s1 = false := by simpa using hs1
            rw [if_neg (by decide)] at h
            obtain ⟨rfl, rfl⟩ := Prod.mk.inj (Option.some.inj h)
            clear h hs1
            go_enter Try.func14, Try.ntmps14
            go_wp2_with (first | (go_at_call 35; refine (attr_check.calls k A6 c6 M _ s2 w5 HR6.out HC6.out HS.out).mono ?_; rintro e w7 ⟨rfl, hb7⟩; have HO7 := Aside0.mk (Kd.R_below HO5.out hb7); have HB7 := Aside0.mk (HB5.out.trans (hb7.mono HB5.out.size)); clear hb7) | (go_at_call 39; refine (ins_calls (w4.alloc (.cells #[.string a1_0, .string a1_1] 26)) w.heap.size v3 l0 (⟨a1_0, a1_1⟩ : S26) w4.heap.size i l0.length rfl (Kd.R_alloc HO4.out _) (blk_new w4 _) (fun g hg => by have := own_lt HO4.out g hg; omega) (HB4.out.alloc HB4.out.size _).size HI.out HL2.out).mono ?_; rintro e w5 ⟨v5, rfl, ho5, hb5⟩; rw [← HM.out] at ho5; obtain ⟨A6, c6, rfl, hc6, hr6⟩ := Kd.R_reads ho5; have HO5 := Aside0.mk ho5; have HB5 := Aside0.mk ((HB4.out.alloc HB4.out.size (.cells #[.string a1_0, .string a1_1] 26)).trans hb5); have HR6 := Aside0.mk hr6; have HC6 := Aside0.mk hc6; clear ho5 hb5 hr6 hc6) | (go_at_call 38; refine (attr_find.calls k A0 c0 l0 a1_0 (i : Int) false _ (Kd.C_below HR0.out HB3.out) HC0.out HU.out).mono ?_; rintro e w4 ⟨rfl, hb4⟩; have HBK4 := Aside0.mk (blk_below HBK3.out hb4); have hc40 := (blk_cell HBK4.out 0).trans rfl; have hc41 := (blk_cell HBK4.out 1).trans rfl; have HO4 := Aside0.mk (Kd.R_below HO3.out hb4); have HB4 := Aside0.mk (HB3.out.trans (hb4.mono HB3.out.size)); clear hb4) | (go_at_call 37; refine (api_Pair_37.calls A0 c0 l0 l0 _ (Kd.C_below HR0.out HB2.out) HC0.out (by unfold api_Pair_37.f; rw [if_pos HL.out])).mono ?_; rintro e w3 ⟨v3, rfl, ho3, hb3⟩; have HBK3 := Aside0.mk (blk_below HBK2.out hb3); have hc30 := (blk_cell HBK3.out 0).trans rfl; have hc31 := (blk_cell HBK3.out 1).trans rfl; have HO3 := Aside0.mk (Kd.R_lower ho3 HB2.out.size); have HB3 := Aside0.mk (HB2.out.trans (hb3.mono HB2.out.size)); clear ho3 hb3) | (go_at_call 36; refine (attr_may.calls a1_0 a1_1 true _ HQ.out).mono ?_; rintro e w2 ⟨rfl, hb2⟩; have HBK2 := Aside0.mk (blk_below HBK1.out hb2); have HB2 := Aside0.mk (HB1.out.trans (hb2.mono HB1.out.size)); clear hb2) | (go_at_call 35; refine (attr_check.calls k A0 c0 l0 t1 0 _ (Kd.C_alloc HR0.out _) HC0.out HT.out).mono ?_; rintro e w1 ⟨rfl, hb1⟩; have HBK1 := Aside0.mk (blk_below (blk_new w _) hb1); have hc10 := (blk_cell HBK1.out 0).trans rfl; have hc11 := (blk_cell HBK1.out 1).trans rfl; have HB1 := Aside0.mk (HBA.out.trans (hb1.mono HBA.out.size)); clear hb1))
            go_ret2
            exact ⟨_, rfl, Kd.R_nil _ _ _ _ _, HB7.out⟩
        · rw [if_neg hb] at h
          cases h
    · obtain rfl : q = false := by simpa using hqt
      rw [if_neg (by decide)] at h
      obtain ⟨rfl, rfl⟩ := Prod.mk.inj (Option.some.inj h)
      clear h hqt
      go_enter Try.func14, Try.ntmps14
      go_wp2_with (first | (go_at_call 36; refine (attr_may.calls a1_0 a1_1 false _ HQ.out).mono ?_; rintro e w2 ⟨rfl, hb2⟩; have HBK2 := Aside0.mk (blk_below HBK1.out hb2); have HB2 := Aside0.mk (HB1.out.trans (hb2.mono HB1.out.size)); clear hb2) | (go_at_call 35; refine (attr_check.calls k A0 c0 l0 t1 0 _ (Kd.C_alloc HR0.out _) HC0.out HT.out).mono ?_; rintro e w1 ⟨rfl, hb1⟩; have HBK1 := Aside0.mk (blk_below (blk_new w _) hb1); have hc10 := (blk_cell HBK1.out 0).trans rfl; have hc11 := (blk_cell HBK1.out 1).trans rfl; have HB1 := Aside0.mk (HBA.out.trans (hb1.mono HBA.out.size)); clear hb1))
      go_ret2
      exact ⟨_, rfl, Kd.R_nil _ _ _ _ _, HB2.out⟩
  · rw [if_neg h2] at h
    obtain ⟨rfl, rfl⟩ := Prod.mk.inj (Option.some.inj h)
    have heb : (t2 != 0) = true := bne_iff_ne.2 h2
    clear h
    go_enter Try.func14, Try.ntmps14
    go_wp2_with (go_at_call 35; refine (attr_check.calls k A0 c0 l0 t1 t2 _ (Kd.C_alloc HR0.out _) HC0.out HT.out).mono ?_; rintro e w1 ⟨rfl, hb1⟩; have HB1 := Aside0.mk (HBA.out.trans (hb1.mono HBA.out.size)); clear hb1)
    go_ret2
    exact ⟨_, rfl, Kd.R_nil _ _ _ _ _, HB1.out⟩
end Go.Proofs.Ytffaggckhneakaa.Pr
end
section
namespace Go.Proofs.Ytffaggckhneakaa.Pr
open Go.RowKit Go.Proofs.YtffaggckhneakaaW.PrintWords Go.Proofs.YtffaggckhneakaaW.PrintLast Go.Proofs.YtffaggckhneakaaW.PrintMore
attribute [local go_sem] max2_int min2_int max_two min_two max_three min_three max_four min_four
attribute [local go_sem] Go.Proofs.Ytffaggckhneakaa.Hl.str_geq Go.Proofs.Ytffaggckhneakaa.Hl.str_gtr Go.Proofs.Ytffaggckhneakaa.Hl.str_leq
set_option linter.unusedVariables false
set_option linter.unusedSimpArgs false
def attr_Get.f (k : Nat) (l0 : List (S26)) (a1 : ByteArray) : Option (ByteArray × Int) := (attr_check.f k l0).bind fun bt329 => (if bt329.2 = 0 then ((attr_find.f k l0 a1).bind fun bt331 => (if bt331.2 = true then (if 0 ≤ bt331.1 then (if bt331.1 < (l0.length : Int) then (some ((rd_T26 l0 bt331.1).f1, 0)) else (none)) else (none)) else (some ((⟨#[]⟩ : ByteArray), 15)))) else (some ((⟨#[]⟩ : ByteArray), bt329.2)))
set_option maxHeartbeats 8000000 in
set_option maxRecDepth 100000 in
theorem attr_Get.calls (k : Nat) (A0 : Option Addr) (c0 : Nat) (l0 : List (S26)) (a1 : ByteArray) (r1 : ByteArray) (r2 : Int) (w : World) (hr0 : Kd.C k26 w A0 l0.length l0) (hc0 : l0.length ≤ c0) (h : attr_Get.f k l0 a1 = some (r1, r2)) :
    Calls Try.prog 19 #[.slice A0 l0.length c0, .string a1] w fun e w' => e = .returned (.tuple #[.string r1, .int .i64 r2]) ∧ Below w.heap.size w w' := by
  have HR0 := Aside0.mk hr0
  have HC0 := Aside0.mk hc0
  clear hr0 hc0
  have HB := Aside0.mk (Below.refl w.heap.size w)
  have H : ((attr_check.f k l0).bind fun bt329 => (if bt329.2 = 0 then ((attr_find.f k l0 a1).bind fun bt331 => (if bt331.2 = true then (if 0 ≤ bt331.1 then (if bt331.1 < (l0.length : Int) then (some ((rd_T26 l0 bt331.1).f1, 0)) else (none)) else (none)) else (some ((⟨#[]⟩ : ByteArray), 15)))) else (some ((⟨#[]⟩ : ByteArray), bt329.2)))) = some (r1, r2) := h
  clear h
  replace H := Option.bind_eq_some_iff.mp H
  obtain ⟨⟨t329, t330⟩, A30, H⟩ := H
  replace H : (if t330 = 0 then ((attr_find.f k l0 a1).bind fun bt331 => (if bt331.2 = true then (if 0 ≤ bt331.1 then (if bt331.1 < (l0.length : Int) then (some ((rd_T26 l0 bt331.1).f1, 0)) else (none)) else (none)) else (some ((⟨#[]⟩ : ByteArray), 15)))) else (some ((⟨#[]⟩ : ByteArray), t330))) = some (r1, r2) := H
  have A3 := Aside0.mk A30
  clear A30
  by_cases c4 : t330 = 0
  · rw [if_pos c4] at H
    have c4b0 : (t330 == 0) = true := beq_iff_eq.mpr c4
    have c4b1 : (t330 != 0) = false := bne_eq_false_iff_eq.mpr c4
    clear c4
    replace H := Option.bind_eq_some_iff.mp H
    obtain ⟨⟨t331, t332⟩, A50, H⟩ := H
    replace H : (if t332 = true then (if 0 ≤ t331 then (if t331 < (l0.length : Int) then (some ((rd_T26 l0 t331).f1, 0)) else (none)) else (none)) else (some ((⟨#[]⟩ : ByteArray), 15))) = some (r1, r2) := H
    have A5 := Aside0.mk A50
    clear A50
    by_cases c6 : t332 = true
    · subst c6
      have H1 : (if 0 ≤ t331 then (if t331 < (l0.length : Int) then (some ((rd_T26 l0 t331).f1, 0)) else (none)) else (none)) = some (r1, r2) := by rw [if_pos rfl] at H; exact H
      clear H
      have H := H1
      clear H1
      by_cases c7 : 0 ≤ t331
      · rw [if_pos c7] at H
        have c7b0 : decide (0 ≤ t331) = true := decide_eq_true c7
        clear c7
        by_cases c8 : t331 < (l0.length : Int)
        · rw [if_pos c8] at H
          have c8b0 : decide (t331 < (l0.length : Int)) = true := decide_eq_true c8
          clear c8
          simp only [Option.some.injEq, Prod.mk.injEq] at H
          obtain ⟨rfl, rfl⟩ := H
          go_enter Try.func19, Try.ntmps19
          go_wp2_with (first | ((with_reducible refine gate_callee (f := 35) rfl ?_); refine goesL_ (some 12) rfl rfl Try.func35 (by kernel_rfl) rfl #[.slice A0 l0.length c0] rfl (by (try simp only [List.map_toArray, List.map_cons, List.map_nil]); first | done | rfl | (simp only [List.length_drop, List.length_take]; rfl)) ?_; (with_reducible refine (attr_check.calls k _ _ l0 t329 t330 _ ?side1 ?side2 A3.out).mono ?_); (case side1 => repeat (first | exact HR0.out | (with_reducible refine Kd.C_alloc ?_ _) | (with_reducible refine Kd.C_drewN ?_ _) | (with_reducible refine Kd.C_drew ?_))); (case side2 => exact HC0.out); rintro e w9 ⟨rfl, hb⟩; refine ⟨_, rfl, ?_⟩; have n0_ := Aside0.mk (below_step (by repeat (first | (with_reducible first | exact HB.out | apply below_alloc | apply pw_below_drewN | apply below_drew1) | exact HB.out)) hb); clear HB; have HB := n0_; clear n0_; (try clear hb); (try clear hb2); (try clear hk); (try clear hi)) | ((with_reducible refine gate_callee (f := 38) rfl ?_); refine goesL_ (some 21) rfl rfl Try.func38 (by kernel_rfl) rfl #[.slice A0 l0.length c0, .string a1] rfl (by (try simp only [List.map_toArray, List.map_cons, List.map_nil]); first | done | rfl | (simp only [List.length_drop, List.length_take]; rfl)) ?_; (with_reducible refine (attr_find.calls k _ _ l0 a1 t331 true _ ?side1 ?side2 A5.out).mono ?_); (case side1 => repeat (first | exact (Kd.C_below HR0.out HB.out) | (with_reducible refine Kd.C_alloc ?_ _) | (with_reducible refine Kd.C_drewN ?_ _) | (with_reducible refine Kd.C_drew ?_))); (case side2 => exact HC0.out); rintro e w10 ⟨rfl, hb⟩; refine ⟨_, rfl, ?_⟩; have n0_ := Aside0.mk (below_step (by repeat (first | (with_reducible first | exact HB.out | apply below_alloc | apply pw_below_drewN | apply below_drew1) | exact HB.out)) hb); clear HB; have HB := n0_; clear n0_; (try clear hb); (try clear hb2); (try clear hk); (try clear hi); have p333 : 0 ≤ (t331 : Int) := of_decide_eq_true (by first | (with_reducible assumption) | assumption); have q333 : t331 < (l0.length : Int) := of_decide_eq_true (by first | (with_reducible assumption) | assumption); obtain ⟨ad333, e333, hx333_0, hx333_1⟩ := at_T26 HR0.out t331 p333 q333; cases e333; replace hx333_0 := (HB.out.cell (World.block_lt_of_cell? w _ hx333_0)).trans hx333_0; replace hx333_1 := (HB.out.cell (World.block_lt_of_cell? w _ hx333_1)).trans hx333_1; replace p333 := eq_true p333; replace q333 := eq_true q333))
          go_ret2
          exact ⟨by first | rfl | (simp [errW_none, errW_some] <;> rfl) | (simp [*, errW_none, errW_some] <;> rfl), by repeat (first | (with_reducible first | exact HB.out | apply below_alloc | apply pw_below_drewN | apply below_drew1) | exact HB.out)⟩
        · rw [if_neg c8] at H
          exact absurd H (by simp)
      · rw [if_neg c7] at H
        exact absurd H (by simp)
    · replace c6 := Bool.eq_false_iff.mpr c6
      subst c6
      have H1 : (some ((⟨#[]⟩ : ByteArray), 15)) = some (r1, r2) := by rw [if_neg (show ¬ (false = true) by decide)] at H; exact H
      clear H
      have H := H1
      clear H1
      simp only [Option.some.injEq, Prod.mk.injEq] at H
      obtain ⟨rfl, rfl⟩ := H
      go_enter Try.func19, Try.ntmps19
      go_wp2_with (first | ((with_reducible refine gate_callee (f := 35) rfl ?_); refine goesL_ (some 12) rfl rfl Try.func35 (by kernel_rfl) rfl #[.slice A0 l0.length c0] rfl (by (try simp only [List.map_toArray, List.map_cons, List.map_nil]); first | done | rfl | (simp only [List.length_drop, List.length_take]; rfl)) ?_; (with_reducible refine (attr_check.calls k _ _ l0 t329 t330 _ ?side1 ?side2 A3.out).mono ?_); (case side1 => repeat (first | exact HR0.out | (with_reducible refine Kd.C_alloc ?_ _) | (with_reducible refine Kd.C_drewN ?_ _) | (with_reducible refine Kd.C_drew ?_))); (case side2 => exact HC0.out); rintro e w11 ⟨rfl, hb⟩; refine ⟨_, rfl, ?_⟩; have n0_ := Aside0.mk (below_step (by repeat (first | (with_reducible first | exact HB.out | apply below_alloc | apply pw_below_drewN | apply below_drew1) | exact HB.out)) hb); clear HB; have HB := n0_; clear n0_; (try clear hb); (try clear hb2); (try clear hk); (try clear hi)) | ((with_reducible refine gate_callee (f := 38) rfl ?_); refine goesL_ (some 21) rfl rfl Try.func38 (by kernel_rfl) rfl #[.slice A0 l0.length c0, .string a1] rfl (by (try simp only [List.map_toArray, List.map_cons, List.map_nil]); first | done | rfl | (simp only [List.length_drop, List.length_take]; rfl)) ?_; (with_reducible refine (attr_find.calls k _ _ l0 a1 t331 false _ ?side1 ?side2 A5.out).mono ?_); (case side1 => repeat (first | exact (Kd.C_below HR0.out HB.out) | (with_reducible refine Kd.C_alloc ?_ _) | (with_reducible refine Kd.C_drewN ?_ _) | (with_reducible refine Kd.C_drew ?_))); (case side2 => exact HC0.out); rintro e w12 ⟨rfl, hb⟩; refine ⟨_, rfl, ?_⟩; have n0_ := Aside0.mk (below_step (by repeat (first | (with_reducible first | exact HB.out | apply below_alloc | apply pw_below_drewN | apply below_drew1) | exact HB.out)) hb); clear HB; have HB := n0_; clear n0_; (try clear hb); (try clear hb2); (try clear hk); (try clear hi)))
      go_ret2
      exact ⟨by first | rfl | (simp [errW_none, errW_some] <;> rfl) | (simp [*, errW_none, errW_some] <;> rfl), by repeat (first | (with_reducible first | exact HB.out | apply below_alloc | apply pw_below_drewN | apply below_drew1) | exact HB.out)⟩
  · rw [if_neg c4] at H
    have c4b0 : (t330 == 0) = false := beq_eq_false_iff_ne.mpr c4
    have c4b1 : (t330 != 0) = true := bne_iff_ne.mpr c4
    simp only [Option.some.injEq, Prod.mk.injEq] at H
    obtain ⟨rfl, rfl⟩ := H
    go_enter Try.func19, Try.ntmps19
    go_wp2_with (first | ((with_reducible refine gate_callee (f := 35) rfl ?_); refine goesL_ (some 12) rfl rfl Try.func35 (by kernel_rfl) rfl #[.slice A0 l0.length c0] rfl (by (try simp only [List.map_toArray, List.map_cons, List.map_nil]); first | done | rfl | (simp only [List.length_drop, List.length_take]; rfl)) ?_; (with_reducible refine (attr_check.calls k _ _ l0 t329 t330 _ ?side1 ?side2 A3.out).mono ?_); (case side1 => repeat (first | exact HR0.out | (with_reducible refine Kd.C_alloc ?_ _) | (with_reducible refine Kd.C_drewN ?_ _) | (with_reducible refine Kd.C_drew ?_))); (case side2 => exact HC0.out); rintro e w13 ⟨rfl, hb⟩; refine ⟨_, rfl, ?_⟩; have n0_ := Aside0.mk (below_step (by repeat (first | (with_reducible first | exact HB.out | apply below_alloc | apply pw_below_drewN | apply below_drew1) | exact HB.out)) hb); clear HB; have HB := n0_; clear n0_; (try clear hb); (try clear hb2); (try clear hk); (try clear hi)))
    go_ret2
    exact ⟨by first | rfl | (simp [errW_none, errW_some] <;> rfl) | (simp [*, errW_none, errW_some] <;> rfl), by repeat (first | (with_reducible first | exact HB.out | apply below_alloc | apply pw_below_drewN | apply below_drew1) | exact HB.out)⟩
end Go.Proofs.Ytffaggckhneakaa.Pr
end
section
namespace Go.Proofs.Ytffaggckhneakaa.Pr
open Go.RowKit Go.Proofs.YtffaggckhneakaaW.PrintWords Go.Proofs.YtffaggckhneakaaW.PrintLast Go.Proofs.YtffaggckhneakaaW.PrintMore
attribute [local go_sem] max2_int min2_int max_two min_two max_three min_three max_four min_four
attribute [local go_sem] Go.Proofs.Ytffaggckhneakaa.Hl.str_geq Go.Proofs.Ytffaggckhneakaa.Hl.str_gtr Go.Proofs.Ytffaggckhneakaa.Hl.str_leq
set_option linter.unusedVariables false
set_option linter.unusedSimpArgs false
set_option maxHeartbeats 8000000 in
set_option maxRecDepth 100000 in
theorem del_calls (W : World) (base g n c : Nat) (xs : List S26) (i : Nat) (hn : xs.length = n) (hO : Kd.R k26 26 W base (fun _ => True) (.slice (some ⟨g, 0, none⟩) n c) xs) (hbase : base ≤ W.heap.size) (hi : i < n) (hl : n < 4398046511104) :
    Calls Try.prog 44 #[.slice (some ⟨g, 0, none⟩) n c, .int .i64 i, .int .i64 ((i : Int) + 1)] W fun e w' => ∃ v', e = .returned v' ∧ Kd.R k26 26 w' base (fun _ => True) v' (xs.eraseIdx i) ∧ Below base W w' := by
  have hu26 := Try.underlying26
  have hi26 := info26
  obtain ⟨g', c', cur, hv, hbg, hg, hnc, hcm, hcs, htk⟩ := Rw.own_open (Rw.R_flat hO) (by omega)
  injection hv with hv1 hv2 hv3
  injection hv1 with hv1
  injection hv1 with hv1
  subst hv1
  subst hv3
  rw [hn] at hnc htk
  have HO := Aside0.mk hO
  have HG := Aside0.mk hg
  have HN := Aside0.mk hn
  have HI := Aside0.mk hi
  have HL := Aside0.mk hl
  have HC := Aside0.mk hnc
  have h0 : (0 : Int) ≤ (i : Int) := by omega
  have h1 : (i : Int) ≤ (i : Int) + 1 := by omega
  have h2 : (i : Int) + 1 ≤ (n : Int) := by omega
  have h3 : (n : Int) ≤ (c : Int) := by omega
  have hne : ((i : Int) == (i : Int) + 1) = false := beq_eq_false_iff_ne.2 (by omega)
  have ht1 : ((i : Int) + 1).toNat = i + 1 := by omega
  have hic : i ≤ c := by omega
  have h4 : (0 : Int) ≤ (i : Int) + 1 := by omega
  clear hO hg hn hi hl hnc hcs htk hcm hv2 hbg
  go_enter Try.func44, Try.ntmps44
  go_wp2
  refine start_ (n := 8) (S := fun w' => True) (ds := []) #[false, false, false, false, false, false, false, false] (by kernel_rfl) rfl rfl trivial (fun hHeld => ?_)
  refine pure_ (i := 0) (N := some 20) (v := ?_) (a' := ?_) #[true, false, false, false, false, false, false, false] rfl rfl (by kernel_rfl) (fun _ _ _ h => h) (Or.inl ⟨by rfl, ?_⟩) ?_ ?_
  rotate_left
  · intro w'
    go_simp
    with_reducible rfl
  rotate_left
  · simp only [Act.put, List.setIfInBounds_toArray, List.set_cons_zero, List.set_cons_succ, i64_w, i32_w]
    rfl
  refine pure_ (i := 1) (N := some 21) (v := ?_) (a' := ?_) #[true, true, false, false, false, false, false, false] rfl rfl (by kernel_rfl) (fun _ _ _ h => h) (Or.inl ⟨by rfl, ?_⟩) ?_ ?_
  rotate_left
  · intro w'
    go_simp
    with_reducible rfl
  rotate_left
  · simp only [Act.put, List.setIfInBounds_toArray, List.set_cons_zero, List.set_cons_succ, i64_w, i32_w]
    rfl
  refine pure_ (i := 2) (N := some 22) (v := ?_) (a' := ?_) #[true, true, true, false, false, false, false, false] rfl rfl (by kernel_rfl) (fun _ _ _ h => h) (Or.inl ⟨by rfl, ?_⟩) ?_ ?_
  rotate_left
  · intro w'
    go_simp
    with_reducible rfl
  rotate_left
  · simp only [Act.put, List.setIfInBounds_toArray, List.set_cons_zero, List.set_cons_succ, i64_w, i32_w]
    rfl
  refine pure_ (i := 3) (N := some 23) (v := ?_) (a' := ?_) #[true, true, true, true, false, false, false, false] rfl rfl (by kernel_rfl) (fun _ _ _ h => h) (Or.inl ⟨by rfl, ?_⟩) ?_ ?_
  rotate_left
  · intro w'
    go_simp
    with_reducible rfl
  rotate_left
  · simp only [Act.put, List.setIfInBounds_toArray, List.set_cons_zero, List.set_cons_succ, i64_w, i32_w]
    rfl
  refine pure_ (i := 4) (N := some 24) (v := ?_) (a' := ?_) #[true, true, true, true, true, false, false, false] rfl rfl (by kernel_rfl) (fun _ _ _ h => h) (Or.inl ⟨by rfl, ?_⟩) ?_ ?_
  rotate_left
  · intro w'
    go_simp
    with_reducible rfl
  rotate_left
  · simp only [Act.put, List.setIfInBounds_toArray, List.set_cons_zero, List.set_cons_succ, i64_w, i32_w]
    rfl
  refine pure_ (i := 5) (N := some 25) (v := ?_) (a' := ?_) #[true, true, true, true, true, true, false, false] rfl rfl (by kernel_rfl) (fun _ _ _ h => h) (Or.inl ⟨by rfl, ?_⟩) ?_ ?_
  rotate_left
  · intro w'
    go_simp
    with_reducible rfl
  rotate_left
  · simp only [Act.put, List.setIfInBounds_toArray, List.set_cons_zero, List.set_cons_succ, i64_w, i32_w]
    rfl
  refine one_ (i := 6) (N := some 26) #[true, true, true, true, true, true, true, false] rfl rfl (by kernel_rfl) (by decide) (fun K hK => ?_)
  refine Kd.R_delete_step k26 (w0 := W) base (by rfl) (.tmp 22) (.tmp 25) 22 26 rfl Try.underlying22 (by kernel_rfl) rfl rfl ?hA ?hm (Kd.R_drew HO.out) HI.out (below_drew1 (Below.refl _ _)) hbase ?_
  (case hA => simp [add_plain, show k26.sz = 2 from rfl])
  (case hm => rfl)
  intro w1 ho1 hb1 hg1
  refine hK.out _ _ trivial (fun hHeld => ?_)
  clear hK K
  refine norm_ (a' := ?_) ?_ ?_
  rotate_left
  · show Act.put _ (some 26) _ = _
    simp only [Act.put, List.setIfInBounds_toArray, List.set_cons_zero, List.set_cons_succ, i64_w, i32_w]
    rfl
  refine pure_ (i := 7) (N := some 0) (v := ?_) (a' := ?_) #[true, true, true, true, true, true, true, true] rfl rfl (by kernel_rfl) (fun _ _ _ h => h) (Or.inl ⟨by rfl, ?_⟩) ?_ ?_
  rotate_left
  · intro w'
    go_simp
    with_reducible rfl
  rotate_left
  · simp only [Act.put, List.setIfInBounds_toArray, List.set_cons_zero, List.set_cons_succ, i64_w, i32_w]
    rfl
  refine done_ (by kernel_rfl) ?_
  obtain ⟨-, -, hbg, hm1, hcm, cur1, hg1', hcs1, htk1⟩ := Rw.own_at (Rw.R_flat ho1)
  have hel : (xs.eraseIdx i).length = n - 1 := by rw [List.length_eraseIdx, if_pos (by rw [HN.out]; exact HI.out), HN.out]
  rw [hel] at hm1 htk1
  have hz0 := Rw.run_clear_cells (P := Try.prog) w1 22 26 0 (.agg #[(.string ⟨#[]⟩), (.string ⟨#[]⟩)]) 1 2 Try.underlying22 (by kernel_rfl) (by decide) (by decide) g ((n - 1) * 2) (c - (n - 1)) cur1 26 hg1' (by rw [hcs1]; have := HC.out; have := HI.out; omega) (by rw [Rw.zero_one]; simp [Value.oneCell']) (by rw [Rw.zero_one]; rfl)
  rw [Rw.zero_one] at hz0
  obtain ⟨NW, hNW⟩ : ∃ NW : Array Value, NW = (cur1.toList.take ((n - 1) * 2) ++ ([.string ⟨#[]⟩, .string ⟨#[]⟩] : List Value) ++ cur1.toList.drop ((n - 1) * 2 + 1 * 2)).toArray := ⟨_, rfl⟩
  rw [← hNW] at hz0
  have hkeep : Kd.R k26 26 (w1.setRow g NW) base (fun _ => True) (.slice (some ⟨g, 0, none⟩) (xs.eraseIdx i).length c) (xs.eraseIdx i) := by
    have hsz1 : cur1.toList.length = c * 2 := by rw [Array.length_toList, hcs1]
    have hcn := HC.out
    have hin := HI.out
    rw [hNW]
    refine Rw.R_turn ho1 cur1 _ hg1' ?_ ?_ (by rw [hel]; exact hm1)
    · simp only [List.size_toArray, List.length_append, List.length_take, List.length_drop, List.length_cons, List.length_nil, hsz1, hcs1]; omega
    · rw [List.toList_toArray, hel, List.append_assoc, List.take_append_of_le_length (by rw [List.length_take, hsz1]; omega), List.take_take, Nat.min_self]
      exact htk1
  rw [hel] at hkeep
  have HK := Aside0.mk hkeep
  have HZ := Aside0.mk hz0
  have HBE := Aside0.mk (Rw.below_turn hb1 hbg NW)
  have hs1 : n - (n - 1) = 1 := by have := HI.out; omega
  have hs2 : ¬ (c = n - 1) := by have := HI.out; have := HC.out; omega
  have hs3 : n - 1 ≤ n := by omega
  have hs4 : n ≤ c := HC.out
  have hs5 : ((n - 1 : Nat) : Int) ≤ (n : Int) := by omega
  clear hkeep hz0 ho1 hb1 hg1 hg1' hcs1 htk1 hel hNW hm1 hcm hbg
  by_cases hci : c = i + 1
  · subst hci
    have hz1 := HZ.out
    go_wp2
    go_ret
    exact ⟨_, rfl, HK.out, HBE.out⟩
  · have hz1 := HZ.out
    go_wp2
    go_ret
    exact ⟨_, rfl, HK.out, HBE.out⟩
end Go.Proofs.Ytffaggckhneakaa.Pr
end
section
namespace Go.Proofs.Ytffaggckhneakaa.Pr
open Go.RowKit Go.Proofs.YtffaggckhneakaaW.PrintWords Go.Proofs.YtffaggckhneakaaW.PrintLast Go.Proofs.YtffaggckhneakaaW.PrintMore
attribute [local go_sem] max2_int min2_int max_two min_two max_three min_three max_four min_four
attribute [local go_sem] Go.Proofs.Ytffaggckhneakaa.Hl.str_geq Go.Proofs.Ytffaggckhneakaa.Hl.str_gtr Go.Proofs.Ytffaggckhneakaa.Hl.str_leq
set_option linter.unusedVariables false
set_option linter.unusedSimpArgs false
def attr_Drop.f (k : Nat) (l0 : List S26) (a1 : ByteArray) : Option (List S26 × Int) := (attr_check.f k l0).bind fun t => (if t.2 = 0 then ((attr_find.f k l0 a1).bind fun u => (if u.2 = true then (if 0 ≤ u.1 ∧ u.1 < (l0.length : Int) then some (l0.eraseIdx u.1.toNat, 0) else none) else some ([], 15))) else some ([], t.2))
set_option maxHeartbeats 8000000 in
set_option maxRecDepth 100000 in
theorem attr_Drop.calls (k : Nat) (A0 : Option Addr) (c0 : Nat) (l0 : List (S26)) (a1 : ByteArray) (r1 : List (S26)) (r2 : Int) (w : World) (hr0 : Kd.C k26 w A0 l0.length l0) (hc0 : l0.length ≤ c0) (h : attr_Drop.f k l0 a1 = some (r1, r2)) :
    Calls Try.prog 17 #[.slice A0 l0.length c0, .string a1] w fun e w' => ∃ v0_ : Value, e = .returned (.tuple #[v0_, .int .i64 r2]) ∧ Kd.R k26 26 w' w.heap.size (fun _ => True) v0_ r1 ∧ Below w.heap.size w w' := by
  unfold attr_Drop.f at h
  have hw : ∀ z : Int, 0 ≤ z → z < 9223372036854775807 → wrap64 z = z := fun z _ _ => by unfold wrap64; omega
  obtain ⟨⟨t1, t2⟩, ht, h⟩ := Option.bind_eq_some_iff.1 h
  simp only [] at h
  have HR0 := Aside0.mk hr0
  have HC0 := Aside0.mk hc0
  have HT := Aside0.mk ht
  clear hr0 hc0 ht
  by_cases h2 : t2 = 0
  · subst h2
    rw [if_pos rfl] at h
    obtain ⟨⟨u1, u2⟩, hu, h⟩ := Option.bind_eq_some_iff.1 h
    simp only [] at h
    have hlen : l0.length < 4398046511104 := by
      unfold attr_find.f at hu
      by_cases hl : l0.length < 4398046511104
      · exact hl
      · rw [if_neg hl] at hu; cases hu
    have HU := Aside0.mk hu
    have HL := Aside0.mk hlen
    clear hu
    by_cases hu2 : u2 = true
    · subst hu2
      rw [if_pos rfl] at h
      by_cases hb : 0 ≤ u1 ∧ u1 < (l0.length : Int)
      · rw [if_pos hb] at h
        obtain ⟨rfl, rfl⟩ := Prod.mk.inj (Option.some.inj h)
        obtain ⟨i, rfl⟩ : ∃ i : Nat, u1 = (i : Int) := ⟨u1.toNat, by omega⟩
        have HI := Aside0.mk (show i < l0.length by omega)
        have hw1 := hw ((i : Int) + 1) (by omega) (by omega)
        rw [Int.toNat_natCast]
        clear hb h hlen hw
        go_enter Try.func17, Try.ntmps17
        go_wp2_with (first | (go_at_call 44; refine (del_calls w3 w.heap.size g3 l0.length c3 l0 i rfl HO3.out HB3.out.size HI.out HL.out).mono ?_; rintro e w4 ⟨v4, rfl, ho4, hb4⟩; have HO4 := Aside0.mk ho4; have HB4 := Aside0.mk (HB3.out.trans hb4); clear ho4 hb4) | (go_at_call 37; refine (api_Pair_37.calls A0 c0 l0 l0 _ (Kd.C_below HR0.out HB2.out) HC0.out (by unfold api_Pair_37.f; rw [if_pos HL.out])).mono ?_; rintro e w3 ⟨v3, rfl, ho3, hb3⟩; obtain ⟨g3, c3, -, rfl, -⟩ := Rw.own_open (Rw.R_flat ho3) (by have := HI.out; omega); have HO3 := Aside0.mk (Kd.R_lower ho3 HB2.out.size); have HB3 := Aside0.mk (HB2.out.trans (hb3.mono HB2.out.size)); clear ho3 hb3) | (go_at_call 38; refine (attr_find.calls k A0 c0 l0 a1 (i : Int) true _ (Kd.C_below HR0.out HB1.out) HC0.out HU.out).mono ?_; rintro e w2 ⟨rfl, hb2⟩; have HB2 := Aside0.mk (HB1.out.trans (hb2.mono HB1.out.size)); clear hb2) | (go_at_call 35; refine (attr_check.calls k A0 c0 l0 t1 0 w HR0.out HC0.out HT.out).mono ?_; rintro e w1 ⟨rfl, hb1⟩; have HB1 := Aside0.mk hb1; clear hb1))
        go_ret2
        exact ⟨_, rfl, HO4.out, HB4.out⟩
      · rw [if_neg hb] at h
        cases h
    · obtain rfl : u2 = false := by simpa using hu2
      rw [if_neg (by decide)] at h
      obtain ⟨rfl, rfl⟩ := Prod.mk.inj (Option.some.inj h)
      clear h hlen hw hu2
      go_enter Try.func17, Try.ntmps17
      go_wp2_with (first | (go_at_call 38; refine (attr_find.calls k A0 c0 l0 a1 u1 false _ (Kd.C_below HR0.out HB1.out) HC0.out HU.out).mono ?_; rintro e w2 ⟨rfl, hb2⟩; have HB2 := Aside0.mk (HB1.out.trans (hb2.mono HB1.out.size)); clear hb2) | (go_at_call 35; refine (attr_check.calls k A0 c0 l0 t1 0 w HR0.out HC0.out HT.out).mono ?_; rintro e w1 ⟨rfl, hb1⟩; have HB1 := Aside0.mk hb1; clear hb1))
      go_ret2
      exact ⟨_, rfl, Kd.R_nil _ _ _ _ _, HB2.out⟩
  · rw [if_neg h2] at h
    obtain ⟨rfl, rfl⟩ := Prod.mk.inj (Option.some.inj h)
    have heb : (t2 != 0) = true := bne_iff_ne.2 h2
    clear h hw
    go_enter Try.func17, Try.ntmps17
    go_wp2_with (go_at_call 35; refine (attr_check.calls k A0 c0 l0 t1 t2 w HR0.out HC0.out HT.out).mono ?_; rintro e w1 ⟨rfl, hb1⟩; have HB1 := Aside0.mk hb1; clear hb1)
    go_ret2
    exact ⟨_, rfl, Kd.R_nil _ _ _ _ _, HB1.out⟩
end Go.Proofs.Ytffaggckhneakaa.Pr
end
section
namespace Go.Proofs.Ytffaggckhneakaa.Pr
open Go.RowKit Go.Proofs.YtffaggckhneakaaW.PrintWords Go.Proofs.YtffaggckhneakaaW.PrintLast Go.Proofs.YtffaggckhneakaaW.PrintMore
attribute [local go_sem] max2_int min2_int max_two min_two max_three min_three max_four min_four
attribute [local go_sem] Go.Proofs.Ytffaggckhneakaa.Hl.str_geq Go.Proofs.Ytffaggckhneakaa.Hl.str_gtr Go.Proofs.Ytffaggckhneakaa.Hl.str_leq
set_option linter.unusedVariables false
set_option linter.unusedSimpArgs false
def attr_Encode.l0 : Nat → List Int → List (S26) → Int → Int → Option (List Int × Int)
  | 0, _, _, _, _ => none
  | k + 1, x6, x23, x24, x25 => if x25 < x24 then (if 0 ≤ x25 then (if x25 < (x23.length : Int) then ((some (([((((rd_T26 x23 x25).f0).size : Int)) % 256, ((((rd_T26 x23 x25).f1).size : Int)) % 256] : List Int) : List Int)).bind fun y345 => (if x6.length + y345.length < 140737488355328 then ((some (x6 ++ y345 : List Int)).bind fun y348 => (if y348.length + ((rd_T26 x23 x25).f0).size < 140737488355328 then ((some (y348 ++ bytesOf ((rd_T26 x23 x25).f0) : List Int)).bind fun y351 => (if y351.length + ((rd_T26 x23 x25).f1).size < 140737488355328 then (attr_Encode.l0 k (y351 ++ bytesOf ((rd_T26 x23 x25).f1)) x23 x24 (wrap64 (x25 + 1))) else (none))) else (none))) else (none))) else (none)) else (none)) else (if 0 ≤ (wrap64 (252 - (x6.length : Int))) then (if x6.length + (wrap64 (252 - (x6.length : Int)) : Int).toNat < 140737488355328 then ((some (x6 ++ List.replicate (wrap64 (252 - (x6.length : Int)) : Int).toNat 0 : List Int)).bind fun y357 => ((crc_Sum.f k y357).bind fun t360 => ((crc_Bytes.f k (IntKind.u64.wrap (t360)) 4).bind fun t361 => (if y357.length + t361.length < 140737488355328 then (some ((y357 ++ t361), 0)) else (none))))) else (none)) else (none))
def attr_Encode.f (k : Nat) (l0 : List (S26)) : Option (List Int × Int) := (attr_check.f k l0).bind fun bt338 => (if bt338.2 = 0 then (if bt338.1 = true then ((crc_Bytes.f k (IntKind.u64.wrap ((l0.length : Int))) 2).bind fun t340 => (attr_Encode.l0 k t340 l0 (l0.length : Int) 0)) else (some (([] : List Int), 15))) else (some (([] : List Int), bt338.2)))
def attr_Encode.T11 : Bool × List (List Nat × List Nat) := (true, [([], []), ([], []), ([1], [1]), ([0, 2], [0, 2]), ([], []), ([4], [4]), ([3, 5, 3], [3, 5]), ([6, 6, 0, 1, 2, 3, 4, 5, 6], [0, 6])])
def attr_Encode.B11 : List Nat := [0, 0, 2, 7, 0, 16, 63, 127]
theorem attr_Encode.tab11 : rtab .any (opsOf Try.f21 11) = attr_Encode.T11 := by kernel_rfl
theorem attr_Encode.bits11 : waitsOk attr_Encode.T11.2 attr_Encode.B11 = true := by kernel_rfl
set_option maxHeartbeats 8000000 in
set_option maxRecDepth 100000 in
theorem attr_Encode.calls (k : Nat) (A0 : Option Addr) (c0 : Nat) (l0 : List (S26)) (r1 : List Int) (r2 : Int) (w : World) (hr0 : Kd.C k26 w A0 l0.length l0) (hc0 : l0.length ≤ c0) (h : attr_Encode.f k l0 = some (r1, r2)) :
    Calls Try.prog 21 #[.slice A0 l0.length c0] w fun e w' => ∃ v0_ : Value, e = .returned (.tuple #[v0_, .int .i64 r2]) ∧ Kd.R (Kd.int .u8) 5 w' w.heap.size (fun _ => True) v0_ r1 ∧ Below w.heap.size w w' := by
  have hu26 := Try.underlying26
  have HR0 := Aside0.mk hr0
  have HC0 := Aside0.mk hc0
  clear hr0 hc0
  have HB := Aside0.mk (Below.refl w.heap.size w)
  have H : ((attr_check.f k l0).bind fun bt338 => (if bt338.2 = 0 then (if bt338.1 = true then ((crc_Bytes.f k (IntKind.u64.wrap ((l0.length : Int))) 2).bind fun t340 => (attr_Encode.l0 k t340 l0 (l0.length : Int) 0)) else (some (([] : List Int), 15))) else (some (([] : List Int), bt338.2)))) = some (r1, r2) := h
  clear h
  replace H := Option.bind_eq_some_iff.mp H
  obtain ⟨⟨t338, t339⟩, A20, H⟩ := H
  replace H : (if t339 = 0 then (if t338 = true then ((crc_Bytes.f k (IntKind.u64.wrap ((l0.length : Int))) 2).bind fun t340 => (attr_Encode.l0 k t340 l0 (l0.length : Int) 0)) else (some (([] : List Int), 15))) else (some (([] : List Int), t339))) = some (r1, r2) := H
  have A2 := Aside0.mk A20
  clear A20
  by_cases c3 : t339 = 0
  · rw [if_pos c3] at H
    have c3b0 : (t339 == 0) = true := beq_iff_eq.mpr c3
    have c3b1 : (t339 != 0) = false := bne_eq_false_iff_eq.mpr c3
    clear c3
    by_cases c4 : t338 = true
    · subst c4
      have H1 : ((crc_Bytes.f k (IntKind.u64.wrap ((l0.length : Int))) 2).bind fun t340 => (attr_Encode.l0 k t340 l0 (l0.length : Int) 0)) = some (r1, r2) := by rw [if_pos rfl] at H; exact H
      clear H
      have H := H1
      clear H1
      replace H := Option.bind_eq_some_iff.mp H
      obtain ⟨t340, A50, H⟩ := H
      replace H : (attr_Encode.l0 k t340 l0 (l0.length : Int) 0) = some (r1, r2) := H
      have A5 := Aside0.mk A50
      clear A50
      have H' := Aside0.mk H
      clear H
      go_enter Try.func21, Try.ntmps21
      go_wp2_with (first | ((with_reducible refine gate_callee (f := 35) rfl ?_); refine goesL_ (some 11) rfl rfl Try.func35 (by kernel_rfl) rfl #[.slice A0 l0.length c0] rfl (by (try simp only [List.map_toArray, List.map_cons, List.map_nil]); first | done | rfl | (simp only [List.length_drop, List.length_take]; rfl)) ?_; (with_reducible refine (attr_check.calls k _ _ l0 true t339 _ ?side1 ?side2 A2.out).mono ?_); (case side1 => repeat (first | exact HR0.out | (with_reducible refine Kd.C_alloc ?_ _) | (with_reducible refine Kd.C_drewN ?_ _) | (with_reducible refine Kd.C_drew ?_))); (case side2 => exact HC0.out); rintro e w6 ⟨rfl, hb⟩; refine ⟨_, rfl, ?_⟩; have n0_ := Aside0.mk (below_step (by repeat (first | (with_reducible first | exact HB.out | apply below_alloc | apply pw_below_drewN | apply below_drew1) | exact HB.out)) hb); clear HB; have HB := n0_; clear n0_; (try clear hb); (try clear hb2); (try clear hk); (try clear hi)) | ((with_reducible refine gate_callee (f := 45) rfl ?_); refine goesL_ (some 22) rfl rfl Try.func45 (by kernel_rfl) rfl #[.int .u64 (IntKind.u64.wrap ((l0.length : Int))), .int .i64 2] rfl (by (try simp only [List.map_toArray, List.map_cons, List.map_nil]); first | done | rfl | (simp only [List.length_drop, List.length_take]; rfl)) ?_; (with_reducible refine (crc_Bytes.calls k (IntKind.u64.wrap ((l0.length : Int))) 2 t340 _ A5.out).mono ?_); rintro e w7 ⟨v341, rfl, ho0, hb⟩; refine ⟨_, rfl, ?_⟩; have n0_ := Aside0.mk (Kd.R_lower ho0 (below_size (by repeat (first | (with_reducible first | exact HB.out | apply below_alloc | apply pw_below_drewN | apply below_drew1) | exact HB.out)))); have n1_ := Aside0.mk (below_step (by repeat (first | (with_reducible first | exact HB.out | apply below_alloc | apply pw_below_drewN | apply below_drew1) | exact HB.out)) hb); clear HB; have HO342 := n0_; have HB := n1_; clear n0_ n1_; (try clear hb); (try clear hb2); (try clear hk); (try clear hi); (try clear ho0)))
      go_loopg [6, 25] k (fun kq v6 v25 w' => ∃ (x6_1 : List Int) (x25_1 : Int), v25 = .int .i64 x25_1 ∧ Aside0 (attr_Encode.l0 kq x6_1 l0 (l0.length : Int) x25_1 = some (r1, r2)) ∧ Aside0 (kq ≤ k) ∧ Aside0 (Kd.R (Kd.int .u8) 5 w' w.heap.size (fun _ => True) v6 x6_1) ∧ Aside0 (Below w.heap.size w w'))
      case atStart => exact ⟨(t340), (0), (by first | rfl | (simp; done) | (simp [*]; done)), H', ⟨Nat.le_refl _⟩, ⟨by (with_reducible repeat (first | apply Kd.R_alloc | apply Kd.R_drewN | apply Kd.R_drew)); exact HO342.out⟩, ⟨by repeat (first | (with_reducible first | exact HB.out | apply below_alloc | apply pw_below_drewN | apply below_drew1) | exact HB.out)⟩⟩
      case round =>
        clear H'
        try clear c2
        try clear p2
        try clear c3
        try clear c3b0
        try clear c3b1
        try clear c4
        obtain ⟨x6_1, x25_1, rfl, HA, HK1, HO_6, HB⟩ := hrel
        cases gk with
        | zero => exact absurd HA.out (by intro h_; cases h_)
        | succ k1 =>
          have H := HA.out
          clear HA
          simp only [attr_Encode.l0] at H
          by_cases c8 : x25_1 < (l0.length : Int)
          · rw [if_pos c8] at H
            have c8b0 : decide (x25_1 < (l0.length : Int)) = true := decide_eq_true c8
            clear c8
            by_cases c9 : 0 ≤ x25_1
            · rw [if_pos c9] at H
              have c9b0 : decide (0 ≤ x25_1) = true := decide_eq_true c9
              clear c9
              by_cases c10 : x25_1 < (l0.length : Int)
              · rw [if_pos c10] at H
                have c10b0 : decide (x25_1 < (l0.length : Int)) = true := decide_eq_true c10
                clear c10
                obtain ⟨y345, hy345⟩ : ∃ y_ : List Int, y_ = (([((((rd_T26 l0 x25_1).f0).size : Int)) % 256, ((((rd_T26 l0 x25_1).f1).size : Int)) % 256] : List Int)) := ⟨_, rfl⟩
                replace H : (if x6_1.length + y345.length < 140737488355328 then ((some (x6_1 ++ y345 : List Int)).bind fun y348 => (if y348.length + ((rd_T26 l0 x25_1).f0).size < 140737488355328 then ((some (y348 ++ bytesOf ((rd_T26 l0 x25_1).f0) : List Int)).bind fun y351 => (if y351.length + ((rd_T26 l0 x25_1).f1).size < 140737488355328 then (attr_Encode.l0 k1 (y351 ++ bytesOf ((rd_T26 l0 x25_1).f1)) l0 (l0.length : Int) (wrap64 (x25_1 + 1))) else (none))) else (none))) else (none)) = some (r1, r2) := by first | (rw [hy345]; with_reducible exact H) | (have H2_ := (Option.bind_some _ _).symm.trans H; rw [hy345]; with_reducible exact H2_) | (have H2_ := (Option.bind_some _ _).symm.trans H; with_reducible exact H2_) | with_reducible exact H | (rw [hy345]; exact H) | exact H
                have Ny345 := Aside0.mk hy345
                clear hy345
                by_cases c11 : x6_1.length + y345.length < 140737488355328
                · rw [if_pos c11] at H
                  have LMc11 := Aside0.mk c11
                  clear c11
                  obtain ⟨y348, hy348⟩ : ∃ y_ : List Int, y_ = (x6_1 ++ y345) := ⟨_, rfl⟩
                  replace H : (if y348.length + ((rd_T26 l0 x25_1).f0).size < 140737488355328 then ((some (y348 ++ bytesOf ((rd_T26 l0 x25_1).f0) : List Int)).bind fun y351 => (if y351.length + ((rd_T26 l0 x25_1).f1).size < 140737488355328 then (attr_Encode.l0 k1 (y351 ++ bytesOf ((rd_T26 l0 x25_1).f1)) l0 (l0.length : Int) (wrap64 (x25_1 + 1))) else (none))) else (none)) = some (r1, r2) := by first | (rw [hy348]; with_reducible exact H) | (have H2_ := (Option.bind_some _ _).symm.trans H; rw [hy348]; with_reducible exact H2_) | (have H2_ := (Option.bind_some _ _).symm.trans H; with_reducible exact H2_) | with_reducible exact H | (rw [hy348]; exact H) | exact H
                  have Ny348 := Aside0.mk hy348
                  clear hy348
                  by_cases c12 : y348.length + ((rd_T26 l0 x25_1).f0).size < 140737488355328
                  · rw [if_pos c12] at H
                    have LMc12 := Aside0.mk c12
                    clear c12
                    obtain ⟨y351, hy351⟩ : ∃ y_ : List Int, y_ = (y348 ++ bytesOf ((rd_T26 l0 x25_1).f0)) := ⟨_, rfl⟩
                    replace H : (if y351.length + ((rd_T26 l0 x25_1).f1).size < 140737488355328 then (attr_Encode.l0 k1 (y351 ++ bytesOf ((rd_T26 l0 x25_1).f1)) l0 (l0.length : Int) (wrap64 (x25_1 + 1))) else (none)) = some (r1, r2) := by first | (rw [hy351]; with_reducible exact H) | (have H2_ := (Option.bind_some _ _).symm.trans H; rw [hy351]; with_reducible exact H2_) | (have H2_ := (Option.bind_some _ _).symm.trans H; with_reducible exact H2_) | with_reducible exact H | (rw [hy351]; exact H) | exact H
                    have Ny351 := Aside0.mk hy351
                    clear hy351
                    by_cases c13 : y351.length + ((rd_T26 l0 x25_1).f1).size < 140737488355328
                    · rw [if_pos c13] at H
                      have LMc13 := Aside0.mk c13
                      clear c13
                      obtain ⟨y354, hy354⟩ : ∃ y_ : List Int, y_ = (y351 ++ bytesOf ((rd_T26 l0 x25_1).f1)) := ⟨_, rfl⟩
                      replace H : (attr_Encode.l0 k1 y354 l0 (l0.length : Int) (wrap64 (x25_1 + 1))) = some (r1, r2) := by first | (rw [hy354]; with_reducible exact H) | (have H2_ := (Option.bind_some _ _).symm.trans H; rw [hy354]; with_reducible exact H2_) | (have H2_ := (Option.bind_some _ _).symm.trans H; with_reducible exact H2_) | with_reducible exact H | (rw [hy354]; exact H) | exact H
                      have Ny354 := Aside0.mk hy354
                      clear hy354
                      have H' := Aside0.mk H
                      clear H
                      have p343 : 0 ≤ (x25_1 : Int) := of_decide_eq_true (by first | (with_reducible assumption) | assumption)
                      have q343 : x25_1 < (l0.length : Int) := of_decide_eq_true (by first | (with_reducible assumption) | assumption)
                      obtain ⟨ad343, e343, hx343_0, hx343_1⟩ := at_T26 HR0.out x25_1 p343 q343
                      cases e343
                      replace hx343_0 := (HB.out.cell (World.block_lt_of_cell? w _ hx343_0)).trans hx343_0
                      replace hx343_1 := (HB.out.cell (World.block_lt_of_cell? w _ hx343_1)).trans hx343_1
                      replace p343 := eq_true p343
                      replace q343 := eq_true q343
                      try go_wp2_with (first | ((with_reducible refine gate_dst (N := 8) rfl ?_); refine box_event ?hg (N := 8) ?hd (cs := #[.string (⟨#[]⟩ : ByteArray), .string (⟨#[]⟩ : ByteArray)]) (t := 26) ?hr ?_; (case hd => rfl); (case hg => rfl); (case hr => first | (go_simp; done) | (go_simp; rfl)); intro gb344 hg w14 hbox hb; have n0_ := Aside0.mk (Kd.R_below (by (with_reducible repeat (first | apply Kd.R_alloc | apply Kd.R_drewN | apply Kd.R_drew)); exact HO_6.out) hb); have n1_ := Aside0.mk (below_step (by repeat (first | (with_reducible first | exact HB.out | apply below_alloc | apply pw_below_drewN | apply below_drew1) | exact HB.out)) hb); have n2_ := Aside0.mk (hbox); have n3_ := Aside0.mk ((by rw [hg]; exact (below_size (by repeat (first | (with_reducible first | exact HB.out | apply below_alloc | apply pw_below_drewN | apply below_drew1) | exact HB.out))) : w.heap.size ≤ gb344)); have n4_ := Aside0.mk ((by rw [hg]; exact (below_size (by repeat (first | (with_reducible first | exact HB.out | apply below_alloc | apply pw_below_drewN | apply below_drew1) | exact HB.out))) : w.heap.size ≤ gb344)); clear HO_6; clear HB; have HO_6 := n0_; have HB := n1_; have BK344 := n2_; have GW344 := n3_; have GE344 := n4_; clear n0_ n1_ n2_ n3_ n4_; clear hb hbox hg; have hcz15_0 : w14.cell? ⟨gb344, 0, none⟩ = some (.string (⟨#[]⟩ : ByteArray)) := (blk_cell BK344.out 0).trans rfl; have hcz15_1 : w14.cell? ⟨gb344, 1, none⟩ = some (.string (⟨#[]⟩ : ByteArray)) := (blk_cell BK344.out 1).trans rfl; have hfz15_0 := blk_frozen BK344.out 0; have hfz15_1 := blk_frozen BK344.out 1) | ((with_reducible refine gate_dst (N := 38) rfl ?_); refine Kd.R_lit (Kd.int .u8) _ 5 ?hg (N := 38) ?hd (xs := ([((((rd_T26 l0 x25_1).f0).size : Int)) % 256, ((((rd_T26 l0 x25_1).f1).size : Int)) % 256] : List Int)) (inner := [.int .u8 (((((rd_T26 l0 x25_1).f0).size : Int)) % 256), .int .u8 (((((rd_T26 l0 x25_1).f1).size : Int)) % 256)]) (ok := fun _ => True) (okp := fun _ => True) ?hr ?hp (fun _ hk => hk) trivial (Below.refl _ _) (Nat.le_refl _) (by simp) ?_; (case hd => rfl); (case hg => rfl); (case hr => first | (go_simp; done) | (go_simp; rfl)); (case hp => exact (Reps.one (show Kd.M (Kd.int .u8) _ _ _ (((((rd_T26 l0 x25_1).f0).size : Int)) % 256) [.int .u8 (((((rd_T26 l0 x25_1).f0).size : Int)) % 256)] from rfl) (Reps.one (show Kd.M (Kd.int .u8) _ _ _ (((((rd_T26 l0 x25_1).f1).size : Int)) % 256) [.int .u8 (((((rd_T26 l0 x25_1).f1).size : Int)) % 256)] from rfl) (Reps.none _ _)))); intro v346 w16 ho17 hb hg_ hnew_; clear hg_ hnew_; (first | rw [← Ny345.out] at ho17 | (simp only [Int.reduceToNat] at ho17; rw [← Ny345.out] at ho17)); have n0_ := Aside0.mk (Kd.R_elder' (by (with_reducible repeat (first | apply Kd.R_alloc | apply Kd.R_drewN | apply Kd.R_drew)); exact (Kd.R_mono (Kd.R_far (p := ⟨gb344, 1, none⟩) (Kd.R_far (p := ⟨gb344, 0, none⟩) (Kd.R_types HO_6.out BK344.out (by decide)) (fun _ hk => hk.2) (.string ((rd_T26 l0 x25_1).f0))) (fun _ hk => hk.2) (.string ((rd_T26 l0 x25_1).f1))) (fun _ h_ => h_.1))) (Kd.R_base ho17) hb); have n1_ := Aside0.mk (Kd.R_lower (Kd.R_new' ho17 (Kd.R_lt (by (with_reducible repeat (first | apply Kd.R_alloc | apply Kd.R_drewN | apply Kd.R_drew)); exact (Kd.R_mono (Kd.R_far (p := ⟨gb344, 1, none⟩) (Kd.R_far (p := ⟨gb344, 0, none⟩) (Kd.R_types HO_6.out BK344.out (by decide)) (fun _ hk => hk.2) (.string ((rd_T26 l0 x25_1).f0))) (fun _ hk => hk.2) (.string ((rd_T26 l0 x25_1).f1))) (fun _ h_ => h_.1))))) (below_size (by repeat (first | (with_reducible first | exact HB.out | apply below_alloc | apply pw_below_drewN | apply below_drew1 | refine below_set ?_ GE344.out) | exact HB.out)))); have n2_ := Aside0.mk (blk_below (g := gb344) (o := .cells #[.string ((rd_T26 l0 x25_1).f0), .string ((rd_T26 l0 x25_1).f1)] 26 (0, 0)) (by (with_reducible repeat (first | refine blk_drewN ?_ _ | refine blk_drew ?_ | refine blk_alloc ?_ _)); refine blk_put (cs := #[.string ((rd_T26 l0 x25_1).f0), .string (⟨#[]⟩ : ByteArray)]) ?_ 1 _ rfl; (with_reducible repeat (first | refine blk_drewN ?_ _ | refine blk_drew ?_ | refine blk_alloc ?_ _)); refine blk_put (cs := #[.string (⟨#[]⟩ : ByteArray), .string (⟨#[]⟩ : ByteArray)]) ?_ 0 _ rfl; (with_reducible repeat (first | refine blk_drewN ?_ _ | refine blk_drew ?_ | refine blk_alloc ?_ _)); exact BK344.out) hb); have n3_ := Aside0.mk (below_step (by repeat (first | (with_reducible first | exact HB.out | apply below_alloc | apply pw_below_drewN | apply below_drew1 | refine below_set ?_ GE344.out) | exact HB.out)) hb); clear HO_6; clear BK344; clear HB; have HO_6 := n0_; have HO347 := n1_; have BK344 := n2_; have HB := n3_; clear n0_ n1_ n2_ n3_; clear hb ho17; obtain ⟨Ao19, co19, eo19⟩ := Kd.R_slice HO347.out; subst eo19) | ((with_reducible refine gate_builtin (b := .append) (xs := #[.tmp 29, .tmp 38]) rfl ?_); at_builtin; refine Kd.R_append_rows (Kd.int .u8) (w0 := w) w.heap.size rfl (.tmp 29) (.tmp 38) 37 5 (.int .u8 0) 1 rfl Try.underlying37 info5 rfl (by decide) (by omega) u6 x6_1 y345 _ _ _ (fun k_ => some k_ ≠ (.slice Ao19 y345.length co19 : Value).ownBlock) (fun _ => False) rfl rfl ?aO ?aR (fun _ _ h => h) (fun _ h => h.elim) ?aF ?aB ?aS ?aL ?_; (case aR => repeat (first | exact (Kd.R_reads' HO347.out).2.2 | (with_reducible refine Kd.C_alloc ?_ _) | (with_reducible refine Kd.C_drewN ?_ _) | (with_reducible refine Kd.C_drew ?_))); (case aB => exact (by repeat (first | (with_reducible first | exact HB.out | apply below_alloc | apply pw_below_drewN | apply below_drew1 | refine below_set ?_ GE344.out) | exact HB.out))); (case aF => exact (fun k_ hk => Kd.fresh' (Kd.R_lt (by (with_reducible repeat (first | apply Kd.R_alloc | apply Kd.R_drewN | apply Kd.R_drew)); exact HO347.out)) k_ hk)); (case aO => exact (by (with_reducible repeat (first | apply Kd.R_alloc | apply Kd.R_drewN | apply Kd.R_drew)); exact Kd.R_mono HO_6.out (fun _ hk => hk.2))); (case aS => exact (below_size (by repeat (first | (with_reducible first | exact HB.out | apply below_alloc | apply pw_below_drewN | apply below_drew1 | refine below_set ?_ GE344.out) | exact HB.out)))); (case aL => have := LMc11.out; omega); intro v349 w18 ho hb hg hat; rw [← Ny348.out] at ho; have n0_ := Aside0.mk (blk_grown (g := gb344) (o := .cells #[.string ((rd_T26 l0 x25_1).f0), .string ((rd_T26 l0 x25_1).f1)] 26 (0, 0)) (by (with_reducible repeat (first | refine blk_drewN ?_ _ | refine blk_drew ?_ | refine blk_alloc ?_ _)); exact BK344.out) hg (Kd.R_ne HO_6.out BK344.out (by decide))); have n1_ := Aside0.mk (Kd.R_after (ok := (fun _ => True)) (by (with_reducible repeat (first | apply Kd.R_alloc | apply Kd.R_drewN | apply Kd.R_drew)); exact HO347.out) hg hat); have n2_ := Aside0.mk (hb); have n3_ := Aside0.mk (ho); clear BK344; clear HO347; clear HB; clear HO_6; have BK344 := n0_; have HO347 := n1_; have HB := n2_; have HO350 := n3_; clear n0_ n1_ n2_ n3_; clear ho hb hg hat))
                      have n0_ := Aside0.mk (Kd.R_drew HO347.out)
                      have n1_ := Aside0.mk (Kd.R_drew HO350.out)
                      have n2_ := Aside0.mk (blk_drew BK344.out)
                      have n3_ := Aside0.mk (below_drew1 HB.out)
                      clear HO347
                      clear HO350
                      clear BK344
                      clear HB
                      have HO347 := n0_
                      have HO350 := n1_
                      have BK344 := n2_
                      have HB := n3_
                      clear n0_ n1_ n2_ n3_
                      refine start_ (n := 8) (S := fun w' => w'.cell? ⟨gb344, 0, none⟩ = some (.string ((rd_T26 l0 x25_1).f0)) ∧ w'.cell? ⟨gb344, 1, none⟩ = some (.string ((rd_T26 l0 x25_1).f1))) (ds := []) #[false, false, false, false, false, false, false, false] (by kernel_rfl) rfl rfl ⟨(blk_cell BK344.out 0).trans rfl, (blk_cell BK344.out 1).trans rfl⟩ (fun hHeld => ?_); refine with_tabW attr_Encode.tab11 attr_Encode.bits11 (fun HT_ HW_ => ?_)
                      generalize w18.drew = w20 at HO347 HO350 BK344 HB hHeld ⊢
                      refine pure_ (i := 0) (N := some 40) (v := ?_) (a' := ?_) #[true, false, false, false, false, false, false, false] rfl rfl (any_of HT_.out (by kernel_rfl)) (fun _ _ _ h => h) (Or.inl ⟨by rfl, ?_⟩) ?_ ?_
                      rotate_left
                      · intro w'
                        go_simp
                        with_reducible rfl
                      rotate_left
                      · simp only [Act.put, List.setIfInBounds_toArray, List.set_cons_zero, List.set_cons_succ, i64_w, i32_w]
                        rfl
                      refine pure_ (i := 1) (N := some 41) (v := ?_) (a' := ?_) #[true, true, false, false, false, false, false, false] rfl rfl (any_of HT_.out (by kernel_rfl)) (fun _ _ _ h => h) (Or.inl ⟨by rfl, ?_⟩) ?_ ?_
                      rotate_left
                      · intro w'
                        go_simp
                        with_reducible rfl
                      rotate_left
                      · simp only [Act.put, List.setIfInBounds_toArray, List.set_cons_zero, List.set_cons_succ, i64_w, i32_w]
                        rfl
                      refine pure_ (i := 4) (N := some 44) (v := ?_) (a' := ?_) #[true, true, false, false, true, false, false, false] rfl rfl (any_of HT_.out (by kernel_rfl)) (fun _ _ _ h => h) (Or.inl ⟨by rfl, ?_⟩) ?_ ?_
                      rotate_left
                      · intro w'
                        go_simp
                        with_reducible rfl
                      rotate_left
                      · simp only [Act.put, List.setIfInBounds_toArray, List.set_cons_zero, List.set_cons_succ, i64_w, i32_w]
                        rfl
                      refine take_ (i := 2) (N := some 42) (v := ?_) (a' := ?_) #[true, true, true, false, true, false, false, false] rfl rfl (take_ofW HT_.out HW_.out (by kernel_rfl)) (fun _ _ _ h => h) (Or.inl ⟨by rfl, ?_⟩) hHeld ?_ ?_
                      rotate_left
                      · rintro w' ⟨s0, s1⟩
                        go_simp
                        with_reducible rfl
                      rotate_left
                      · simp only [Act.put, List.setIfInBounds_toArray, List.set_cons_zero, List.set_cons_succ, i64_w, i32_w]
                        rfl
                      refine take_ (i := 5) (N := some 45) (v := ?_) (a' := ?_) #[true, true, true, false, true, true, false, false] rfl rfl (take_ofW HT_.out HW_.out (by kernel_rfl)) (fun _ _ _ h => h) (Or.inl ⟨by rfl, ?_⟩) hHeld ?_ ?_
                      rotate_left
                      · rintro w' ⟨s0, s1⟩
                        go_simp
                        with_reducible rfl
                      rotate_left
                      · simp only [Act.put, List.setIfInBounds_toArray, List.set_cons_zero, List.set_cons_succ, i64_w, i32_w]
                        rfl
                      refine one_ (i := 3) (N := some 43) #[true, true, true, true, true, true, false, false] rfl rfl (one_of HT_.out (by kernel_rfl)) (by decide) (fun K hK => ?_)
                      refine Go.Proofs.Ytffaggckhneakaa.Hs.R_append_str_step (w0 := w) w.heap.size (by rfl) (.tmp 40) _ 37 9 5 rfl Try.underlying37 Try.underlying9 info5 v349 y348 ((rd_T26 l0 x25_1).f0) (fun k_ => some k_ ≠ (.slice Ao19 y345.length co19 : Value).ownBlock) rfl rfl ?aO ?aF ?aB ?aS ?aL ?_
                      (case aB => exact (by repeat (first | (with_reducible first | exact HB.out | apply below_alloc | apply pw_below_drewN | apply below_drew1 | refine below_set ?_ GE344.out) | exact HB.out)))
                      (case aF => exact (fun k_ hk => Kd.fresh' (Kd.R_lt (by (with_reducible repeat (first | apply Kd.R_alloc | apply Kd.R_drewN | apply Kd.R_drew)); exact HO347.out)) k_ hk))
                      (case aO => exact (by (with_reducible repeat (first | apply Kd.R_alloc | apply Kd.R_drewN | apply Kd.R_drew)); exact HO350.out))
                      (case aS => exact (below_size (by repeat (first | (with_reducible first | exact HB.out | apply below_alloc | apply pw_below_drewN | apply below_drew1 | refine below_set ?_ GE344.out) | exact HB.out))))
                      (case aL => have := LMc12.out; omega)
                      intro v352 w21 ho hb hg hat
                      rw [← Ny351.out] at ho
                      have n0_ := Aside0.mk (blk_grown (g := gb344) (o := .cells #[.string ((rd_T26 l0 x25_1).f0), .string ((rd_T26 l0 x25_1).f1)] 26 (0, 0)) (by (with_reducible repeat (first | refine blk_drewN ?_ _ | refine blk_drew ?_ | refine blk_alloc ?_ _)); exact BK344.out) hg (Kd.R_ne HO350.out BK344.out (by decide)))
                      have n1_ := Aside0.mk (Kd.R_after (ok := (fun _ => True)) (by (with_reducible repeat (first | apply Kd.R_alloc | apply Kd.R_drewN | apply Kd.R_drew)); exact HO347.out) hg hat)
                      have n2_ := Aside0.mk (hb)
                      have n3_ := Aside0.mk (ho)
                      clear BK344
                      clear HO347
                      clear HB
                      clear HO350
                      have BK344 := n0_
                      have HO347 := n1_
                      have HB := n2_
                      have HO353 := n3_
                      clear n0_ n1_ n2_ n3_
                      clear ho hb hg hat
                      refine hK.out _ _ ⟨(blk_cell BK344.out 0).trans rfl, (blk_cell BK344.out 1).trans rfl⟩ (fun hHeld => ?_)
                      clear hK K
                      refine norm_ (a' := ?_) ?_ ?_
                      rotate_left
                      · show Act.put _ (some 43) _ = _
                        simp only [Act.put, List.setIfInBounds_toArray, List.set_cons_zero, List.set_cons_succ, i64_w, i32_w]
                        rfl
                      refine one_ (i := 6) (N := some 46) #[true, true, true, true, true, true, true, false] rfl rfl (one_of HT_.out (by kernel_rfl)) (by decide) (fun K hK => ?_)
                      refine Go.Proofs.Ytffaggckhneakaa.Hs.R_append_str_step (w0 := w) w.heap.size (by rfl) (.tmp 43) _ 37 9 5 rfl Try.underlying37 Try.underlying9 info5 v352 y351 ((rd_T26 l0 x25_1).f1) (fun k_ => some k_ ≠ (.slice Ao19 y345.length co19 : Value).ownBlock) rfl rfl ?aO ?aF ?aB ?aS ?aL ?_
                      (case aB => exact (by repeat (first | (with_reducible first | exact HB.out | apply below_alloc | apply pw_below_drewN | apply below_drew1 | refine below_set ?_ GE344.out) | exact HB.out)))
                      (case aF => exact (fun k_ hk => Kd.fresh' (Kd.R_lt (by (with_reducible repeat (first | apply Kd.R_alloc | apply Kd.R_drewN | apply Kd.R_drew)); exact HO347.out)) k_ hk))
                      (case aO => exact (by (with_reducible repeat (first | apply Kd.R_alloc | apply Kd.R_drewN | apply Kd.R_drew)); exact HO353.out))
                      (case aS => exact (below_size (by repeat (first | (with_reducible first | exact HB.out | apply below_alloc | apply pw_below_drewN | apply below_drew1 | refine below_set ?_ GE344.out) | exact HB.out))))
                      (case aL => have := LMc13.out; omega)
                      intro v355 w22 ho hb hg hat
                      rw [← Ny354.out] at ho
                      have n0_ := Aside0.mk (blk_grown (g := gb344) (o := .cells #[.string ((rd_T26 l0 x25_1).f0), .string ((rd_T26 l0 x25_1).f1)] 26 (0, 0)) (by (with_reducible repeat (first | refine blk_drewN ?_ _ | refine blk_drew ?_ | refine blk_alloc ?_ _)); exact BK344.out) hg (Kd.R_ne HO353.out BK344.out (by decide)))
                      have n1_ := Aside0.mk (Kd.R_after (ok := (fun _ => True)) (by (with_reducible repeat (first | apply Kd.R_alloc | apply Kd.R_drewN | apply Kd.R_drew)); exact HO347.out) hg hat)
                      have n2_ := Aside0.mk (hb)
                      have n3_ := Aside0.mk (ho)
                      clear BK344
                      clear HO347
                      clear HB
                      clear HO353
                      have BK344 := n0_
                      have HO347 := n1_
                      have HB := n2_
                      have HO356 := n3_
                      clear n0_ n1_ n2_ n3_
                      clear ho hb hg hat
                      refine hK.out _ _ ⟨(blk_cell BK344.out 0).trans rfl, (blk_cell BK344.out 1).trans rfl⟩ (fun hHeld => ?_)
                      clear hK K
                      refine norm_ (a' := ?_) ?_ ?_
                      rotate_left
                      · show Act.put _ (some 46) _ = _
                        simp only [Act.put, List.setIfInBounds_toArray, List.set_cons_zero, List.set_cons_succ, i64_w, i32_w]
                        rfl
                      refine pure_ (i := 7) (N := some 6) (v := ?_) (a' := ?_) #[true, true, true, true, true, true, true, true] rfl rfl (any_of HT_.out (by kernel_rfl)) (fun _ _ _ h => h) (Or.inl ⟨by rfl, ?_⟩) ?_ ?_
                      rotate_left
                      · intro w'
                        go_simp
                        with_reducible rfl
                      rotate_left
                      · simp only [Act.put, List.setIfInBounds_toArray, List.set_cons_zero, List.set_cons_succ, i64_w, i32_w]
                        rfl
                      refine done_ (done_of HT_.out (by kernel_rfl)) ?_
                      try go_wp2
                      go_roundg k1
                      case measure => have := HK1.out; omega
                      case rel => exact ⟨(y354), (wrap64 (x25_1 + 1)), (by first | rfl | (simp; done) | (simp [*]; done)), H', ⟨by have := HK1.out; omega⟩, ⟨by (with_reducible repeat (first | apply Kd.R_alloc | apply Kd.R_drewN | apply Kd.R_drew)); exact Kd.R_mono HO356.out (fun _ hk => trivial)⟩, ⟨by repeat (first | (with_reducible first | exact HB.out | apply below_alloc | apply pw_below_drewN | apply below_drew1 | refine below_set ?_ GE344.out) | exact HB.out)⟩⟩
                    · rw [if_neg c13] at H
                      exact absurd H (by simp)
                  · rw [if_neg c12] at H
                    exact absurd H (by simp)
                · rw [if_neg c11] at H
                  exact absurd H (by simp)
              · rw [if_neg c10] at H
                exact absurd H (by simp)
            · rw [if_neg c9] at H
              exact absurd H (by simp)
          · rw [if_neg c8] at H
            have c8b0 : decide (x25_1 < (l0.length : Int)) = false := decide_eq_false c8
            clear c8
            obtain ⟨ji23, hji23⟩ : ∃ j_ : Int, (wrap64 (252 - (x6_1.length : Int))) = j_ := ⟨_, rfl⟩
            replace H : (if 0 ≤ (ji23) then (if x6_1.length + (ji23 : Int).toNat < 140737488355328 then ((some (x6_1 ++ List.replicate (ji23 : Int).toNat 0 : List Int)).bind fun y357 => ((crc_Sum.f k1 y357).bind fun t360 => ((crc_Bytes.f k1 (IntKind.u64.wrap (t360)) 4).bind fun t361 => (if y357.length + t361.length < 140737488355328 then (some ((y357 ++ t361), 0)) else (none))))) else (none)) else (none)) = some (r1, r2) := by first | (rw [hji23] at H; exact H) | (simp only [hji23] at H ⊢; exact H)
            have hji23w : (IntKind.i64.wrap (252 - (x6_1.length : Int))) = ji23 := (i64_w _).trans hji23
            (try rw [hji23] at c3b0)
            (try rw [hji23] at c3b1)
            (try rw [hji23] at c8b0)
            by_cases c24 : 0 ≤ (ji23)
            · rw [if_pos c24] at H
              have c24b0 := eq_true c24
              have c24b1 : decide (0 ≤ (ji23)) = true := decide_eq_true c24
              clear c24
              by_cases c25 : x6_1.length + (ji23 : Int).toNat < 140737488355328
              · rw [if_pos c25] at H
                have LMc25 := Aside0.mk c25
                clear c25
                obtain ⟨y357, hy357⟩ : ∃ y_ : List Int, y_ = (x6_1 ++ List.replicate (ji23 : Int).toNat 0) := ⟨_, rfl⟩
                replace H : ((crc_Sum.f k1 y357).bind fun t360 => ((crc_Bytes.f k1 (IntKind.u64.wrap (t360)) 4).bind fun t361 => (if y357.length + t361.length < 140737488355328 then (some ((y357 ++ t361), 0)) else (none)))) = some (r1, r2) := by first | (rw [hy357]; with_reducible exact H) | (have H2_ := (Option.bind_some _ _).symm.trans H; rw [hy357]; with_reducible exact H2_) | (have H2_ := (Option.bind_some _ _).symm.trans H; with_reducible exact H2_) | with_reducible exact H | (rw [hy357]; exact H) | exact H
                have Ny357 := Aside0.mk hy357
                clear hy357
                replace H := Option.bind_eq_some_iff.mp H
                obtain ⟨t360, A260, H⟩ := H
                replace H : ((crc_Bytes.f k1 (IntKind.u64.wrap (t360)) 4).bind fun t361 => (if y357.length + t361.length < 140737488355328 then (some ((y357 ++ t361), 0)) else (none))) = some (r1, r2) := H
                have A26 := Aside0.mk A260
                clear A260
                replace H := Option.bind_eq_some_iff.mp H
                obtain ⟨t361, A270, H⟩ := H
                replace H : (if y357.length + t361.length < 140737488355328 then (some ((y357 ++ t361), 0)) else (none)) = some (r1, r2) := H
                have A27 := Aside0.mk A270
                clear A270
                by_cases c28 : y357.length + t361.length < 140737488355328
                · rw [if_pos c28] at H
                  have LMc28 := Aside0.mk c28
                  clear c28
                  obtain ⟨y364, hy364⟩ : ∃ y_ : List Int, y_ = (y357 ++ t361) := ⟨_, rfl⟩
                  replace H : (some (y364, 0)) = some (r1, r2) := by first | (rw [hy364]; with_reducible exact H) | (have H2_ := (Option.bind_some _ _).symm.trans H; rw [hy364]; with_reducible exact H2_) | (have H2_ := (Option.bind_some _ _).symm.trans H; with_reducible exact H2_) | with_reducible exact H | (rw [hy364]; exact H) | exact H
                  have Ny364 := Aside0.mk hy364
                  clear hy364
                  simp only [Option.some.injEq, Prod.mk.injEq] at H
                  obtain ⟨rfl, rfl⟩ := H
                  obtain ⟨Ao29, co29, eo29⟩ := Kd.R_slice HO_6.out
                  subst eo29
                  go_wp2_with (first | (at_builtin; refine Kd.R_append_zeros (Kd.int .u8) (w0 := w) w.heap.size rfl (.tmp 48) (.tmp 51) 37 3 5 (.int .u8 0) 1 rfl Try.underlying37 Try.underlying3 info5 rfl (by decide) (by omega) (.slice Ao29 x6_1.length co29) x6_1 0 (ji23 : Int) (fun _ => True) rfl rfl rfl ?aF ?aO (of_decide_eq_true (by first | (with_reducible assumption) | assumption)) ?aB ?aS ?aL ?_; (case aB => exact (by repeat (first | (with_reducible first | exact HB.out | apply below_alloc | apply pw_below_drewN | apply below_drew1) | exact HB.out))); (case aF => exact (fun _ _ => trivial)); (case aO => exact (by (with_reducible repeat (first | apply Kd.R_alloc | apply Kd.R_drewN | apply Kd.R_drew)); exact HO_6.out)); (case aS => exact (below_size (by repeat (first | (with_reducible first | exact HB.out | apply below_alloc | apply pw_below_drewN | apply below_drew1) | exact HB.out)))); (case aL => have := LMc25.out; omega); intro v358 w30 ho hb hg hat; rw [← Ny357.out] at ho; have n0_ := Aside0.mk (hb); have n1_ := Aside0.mk (ho); clear HB; clear HO_6; have HB := n0_; have HO359 := n1_; clear n0_ n1_; clear ho hb hg hat; obtain ⟨Ao31, co31, eo31⟩ := Kd.R_slice HO359.out; subst eo31) | ((with_reducible refine gate_callee (f := 46) rfl ?_); refine goesL_ (some 55) rfl rfl Try.func46 (by kernel_rfl) rfl #[.slice Ao31 y357.length co31] rfl (by (try simp only [List.map_toArray, List.map_cons, List.map_nil]); first | done | rfl | (simp only [List.length_drop, List.length_take]; rfl)) ?_; (with_reducible refine (crc_Sum.calls k1 _ _ y357 t360 _ ?side1 ?side2 A26.out).mono ?_); (case side1 => repeat (first | exact (Kd.R_reads' HO359.out).2.2 | (with_reducible refine Kd.C_alloc ?_ _) | (with_reducible refine Kd.C_drewN ?_ _) | (with_reducible refine Kd.C_drew ?_))); (case side2 => exact (Kd.R_reads' HO359.out).2.1); rintro e w32 ⟨rfl, hb⟩; refine ⟨_, rfl, ?_⟩; have n0_ := Aside0.mk (Kd.R_below (by (with_reducible repeat (first | apply Kd.R_alloc | apply Kd.R_drewN | apply Kd.R_drew)); exact HO359.out) hb); have n1_ := Aside0.mk (below_step (by repeat (first | (with_reducible first | exact HB.out | apply below_alloc | apply pw_below_drewN | apply below_drew1) | exact HB.out)) hb); clear HO359; clear HB; have HO359 := n0_; have HB := n1_; clear n0_ n1_; (try clear hb); (try clear hb2); (try clear hk); (try clear hi)) | ((with_reducible refine gate_callee (f := 45) rfl ?_); refine goesL_ (some 57) rfl rfl Try.func45 (by kernel_rfl) rfl #[.int .u64 (IntKind.u64.wrap (t360)), .int .i64 4] rfl (by (try simp only [List.map_toArray, List.map_cons, List.map_nil]); first | done | rfl | (simp only [List.length_drop, List.length_take]; rfl)) ?_; (with_reducible refine (crc_Bytes.calls k1 (IntKind.u64.wrap (t360)) 4 t361 _ A27.out).mono ?_); rintro e w33 ⟨v362, rfl, ho0, hb⟩; refine ⟨_, rfl, ?_⟩; have n0_ := Aside0.mk (Kd.R_elder' (by (with_reducible repeat (first | apply Kd.R_alloc | apply Kd.R_drewN | apply Kd.R_drew)); exact HO359.out) (Kd.R_base ho0) hb); have n1_ := Aside0.mk (Kd.R_lower (Kd.R_new' ho0 (Kd.R_lt (by (with_reducible repeat (first | apply Kd.R_alloc | apply Kd.R_drewN | apply Kd.R_drew)); exact HO359.out))) (below_size (by repeat (first | (with_reducible first | exact HB.out | apply below_alloc | apply pw_below_drewN | apply below_drew1) | exact HB.out)))); have n2_ := Aside0.mk (below_step (by repeat (first | (with_reducible first | exact HB.out | apply below_alloc | apply pw_below_drewN | apply below_drew1) | exact HB.out)) hb); clear HO359; clear HB; have HO359 := n0_; have HO363 := n1_; have HB := n2_; clear n0_ n1_ n2_; (try clear hb); (try clear hb2); (try clear hk); (try clear hi); (try clear ho0); obtain ⟨Ao35, co35, eo35⟩ := Kd.R_slice HO363.out; subst eo35) | ((with_reducible refine gate_builtin (b := .append) (xs := #[.tmp 53, .tmp 57]) rfl ?_); at_builtin; refine Kd.R_append_rows (Kd.int .u8) (w0 := w) w.heap.size rfl (.tmp 53) (.tmp 57) 37 5 (.int .u8 0) 1 rfl Try.underlying37 info5 rfl (by decide) (by omega) (.slice Ao31 y357.length co31) y357 t361 _ _ _ (fun k_ => some k_ ≠ (.slice Ao35 t361.length co35 : Value).ownBlock) (fun _ => False) rfl rfl ?aO ?aR (fun _ _ h => h) (fun _ h => h.elim) ?aF ?aB ?aS ?aL ?_; (case aR => repeat (first | exact (Kd.R_reads' HO363.out).2.2 | (with_reducible refine Kd.C_alloc ?_ _) | (with_reducible refine Kd.C_drewN ?_ _) | (with_reducible refine Kd.C_drew ?_))); (case aB => exact (by repeat (first | (with_reducible first | exact HB.out | apply below_alloc | apply pw_below_drewN | apply below_drew1) | exact HB.out))); (case aF => exact (fun k_ hk => Kd.fresh' (Kd.R_lt (by (with_reducible repeat (first | apply Kd.R_alloc | apply Kd.R_drewN | apply Kd.R_drew)); exact HO363.out)) k_ hk)); (case aO => exact (by (with_reducible repeat (first | apply Kd.R_alloc | apply Kd.R_drewN | apply Kd.R_drew)); exact Kd.R_mono HO359.out (fun _ hk => hk.2))); (case aS => exact (below_size (by repeat (first | (with_reducible first | exact HB.out | apply below_alloc | apply pw_below_drewN | apply below_drew1) | exact HB.out)))); (case aL => have := LMc28.out; omega); intro v365 w34 ho hb hg hat; rw [← Ny364.out] at ho; have n0_ := Aside0.mk (Kd.R_after (ok := (fun _ => True)) (by (with_reducible repeat (first | apply Kd.R_alloc | apply Kd.R_drewN | apply Kd.R_drew)); exact HO363.out) hg hat); have n1_ := Aside0.mk (hb); have n2_ := Aside0.mk (ho); clear HO363; clear HB; clear HO359; have HO363 := n0_; have HB := n1_; have HO366 := n2_; clear n0_ n1_ n2_; clear ho hb hg hat))
                  go_ret2
                  exact ⟨_, by first | rfl | (simp [errW_none, errW_some] <;> rfl) | (simp only [← hji23]; first | rfl | (simp [errW_none, errW_some] <;> rfl)) | (simp [*, errW_none, errW_some] <;> rfl), by (with_reducible repeat (first | apply Kd.R_alloc | apply Kd.R_drewN | apply Kd.R_drew)); exact Kd.R_mono HO366.out (fun _ hk => trivial), by repeat (first | (with_reducible first | exact HB.out | apply below_alloc | apply pw_below_drewN | apply below_drew1) | exact HB.out)⟩
                · rw [if_neg c28] at H
                  exact absurd H (by simp)
              · rw [if_neg c25] at H
                exact absurd H (by simp)
            · rw [if_neg c24] at H
              exact absurd H (by simp)
    · replace c4 := Bool.eq_false_iff.mpr c4
      subst c4
      have H1 : (some (([] : List Int), 15)) = some (r1, r2) := by rw [if_neg (show ¬ (false = true) by decide)] at H; exact H
      clear H
      have H := H1
      clear H1
      simp only [Option.some.injEq, Prod.mk.injEq] at H
      obtain ⟨rfl, rfl⟩ := H
      go_enter Try.func21, Try.ntmps21
      go_wp2_with (first | ((with_reducible refine gate_callee (f := 35) rfl ?_); refine goesL_ (some 11) rfl rfl Try.func35 (by kernel_rfl) rfl #[.slice A0 l0.length c0] rfl (by (try simp only [List.map_toArray, List.map_cons, List.map_nil]); first | done | rfl | (simp only [List.length_drop, List.length_take]; rfl)) ?_; (with_reducible refine (attr_check.calls k _ _ l0 false t339 _ ?side1 ?side2 A2.out).mono ?_); (case side1 => repeat (first | exact HR0.out | (with_reducible refine Kd.C_alloc ?_ _) | (with_reducible refine Kd.C_drewN ?_ _) | (with_reducible refine Kd.C_drew ?_))); (case side2 => exact HC0.out); rintro e w36 ⟨rfl, hb⟩; refine ⟨_, rfl, ?_⟩; have n0_ := Aside0.mk (below_step (by repeat (first | (with_reducible first | exact HB.out | apply below_alloc | apply pw_below_drewN | apply below_drew1) | exact HB.out)) hb); clear HB; have HB := n0_; clear n0_; (try clear hb); (try clear hb2); (try clear hk); (try clear hi)))
      go_ret2
      exact ⟨_, by first | rfl | (simp [errW_none, errW_some] <;> rfl) | (simp [*, errW_none, errW_some] <;> rfl), by first | exact Kd.R_nil _ _ _ _ _ | exact Kd.N_nil _ _ _ _ _ | exact Kd.V_nil _ _ _ _ _ | exact Kd.Q_nil _ _ _ _ _ | exact Kd.S_nil _ _ _ _ _, by repeat (first | (with_reducible first | exact HB.out | apply below_alloc | apply pw_below_drewN | apply below_drew1) | exact HB.out)⟩
  · rw [if_neg c3] at H
    have c3b0 : (t339 == 0) = false := beq_eq_false_iff_ne.mpr c3
    have c3b1 : (t339 != 0) = true := bne_iff_ne.mpr c3
    simp only [Option.some.injEq, Prod.mk.injEq] at H
    obtain ⟨rfl, rfl⟩ := H
    go_enter Try.func21, Try.ntmps21
    go_wp2_with (first | ((with_reducible refine gate_callee (f := 35) rfl ?_); refine goesL_ (some 11) rfl rfl Try.func35 (by kernel_rfl) rfl #[.slice A0 l0.length c0] rfl (by (try simp only [List.map_toArray, List.map_cons, List.map_nil]); first | done | rfl | (simp only [List.length_drop, List.length_take]; rfl)) ?_; (with_reducible refine (attr_check.calls k _ _ l0 t338 t339 _ ?side1 ?side2 A2.out).mono ?_); (case side1 => repeat (first | exact HR0.out | (with_reducible refine Kd.C_alloc ?_ _) | (with_reducible refine Kd.C_drewN ?_ _) | (with_reducible refine Kd.C_drew ?_))); (case side2 => exact HC0.out); rintro e w37 ⟨rfl, hb⟩; refine ⟨_, rfl, ?_⟩; have n0_ := Aside0.mk (below_step (by repeat (first | (with_reducible first | exact HB.out | apply below_alloc | apply pw_below_drewN | apply below_drew1) | exact HB.out)) hb); clear HB; have HB := n0_; clear n0_; (try clear hb); (try clear hb2); (try clear hk); (try clear hi)))
    go_ret2
    exact ⟨_, by first | rfl | (simp [errW_none, errW_some] <;> rfl) | (simp [*, errW_none, errW_some] <;> rfl), by first | exact Kd.R_nil _ _ _ _ _ | exact Kd.N_nil _ _ _ _ _ | exact Kd.V_nil _ _ _ _ _ | exact Kd.Q_nil _ _ _ _ _ | exact Kd.S_nil _ _ _ _ _, by repeat (first | (with_reducible first | exact HB.out | apply below_alloc | apply pw_below_drewN | apply below_drew1) | exact HB.out)⟩
end Go.Proofs.Ytffaggckhneakaa.Pr
end
section
namespace Go.Proofs.Ytffaggckhneakaa.At
open Go.RowKit Go.Proofs.YtffaggckhneakaaW.PrintWords Go.Proofs.YtffaggckhneakaaW.PrintMore Go.Proofs.Ytffaggckhneakaa.Pr Go.Proofs.Ytffaggckhneakaa.Od Go.Proofs.Ytffaggckhneakaa.Cr
set_option linter.unusedVariables false
set_option linter.unusedSimpArgs false
theorem fin_ev (m : List E) (hm : right none m = true) (hl : m.length < 4398046511104) : Ev (fun k => attr_Set.fin k m) (if sumL m ≤ 250 then (m, 0) else ([], 15)) := by
  unfold attr_Set.fin
  refine Ev.bind (check_ev m hl) ?_
  unfold checkR
  simp only [if_pos hm]
  by_cases h : sumL m ≤ 250
  · simp only [decide_eq_true h, if_true, if_pos h]
    exact Ev.now _
  · simp only [decide_eq_false h, Bool.false_eq_true, if_false, if_neg h]
    exact Ev.now _
theorem set_ev (l : List E) (x : E) (hl : l.length < 4398046511103) : Ev (fun k => attr_Set.f k l x.f0 x.f1) (setR l x) := by
  unfold attr_Set.f
  refine Ev.bind (check_ev l (by omega)) ?_
  unfold checkR setR
  by_cases hr : right none l = true
  · simp only [if_pos hr, if_true, may_some, Option.bind_some]
    by_cases hx : okE x = true
    · have hx' : mayB x.f0 x.f1 = true := hx
      simp only [hx', if_true, if_pos (show right none l = true ∧ okE x = true from ⟨hr, hx⟩)]
      have hpr := put_right hr hx
      have hpl : (put x l).length ≤ l.length + 1 := put_len
      obtain ⟨A, M, C, rfl, hA, hC, hM⟩ := split (nb x) l ((right_iff l none).1 hr).2.2
      have hput := put_split hA hC hM
      rw [hput] at hpr hpl
      have hfin := fin_ev (A ++ x :: C) hpr (by omega)
      refine Ev.bind (find_ev A M C x.f0 hA hC hM (by omega)) ?_
      have hlen : (A ++ (M ++ C)).length = A.length + (M.length + C.length) := by rw [List.length_append, List.length_append]
      simp only [hput]
      rcases hM with rfl | ⟨m, rfl, hm⟩
      · rw [show (decide (([] : List E) ≠ [])) = false from rfl]
        simp only [Bool.false_eq_true, if_false]
        simp only [if_pos (show 0 ≤ (A.length : Int) ∧ (A.length : Int) ≤ ((A ++ ([] ++ C)).length : Int) ∧ (A ++ ([] ++ C)).length < 4398046511103 by omega)]
        simp only [Int.toNat_natCast, List.nil_append, List.take_left, List.drop_left]
        exact hfin
      · rw [show (decide (([m] : List E) ≠ [])) = true from rfl]
        simp only [if_true]
        simp only [if_pos (show 0 ≤ (A.length : Int) ∧ (A.length : Int) < ((A ++ ([m] ++ C)).length : Int) by rw [hlen]; simp; omega)]
        have e : (A ++ ([m] ++ C)).set (A.length : Int).toNat (⟨x.f0, x.f1⟩ : E) = A ++ x :: C := by
          rw [Int.toNat_natCast, List.set_append_right _ _ (Nat.le_refl _), Nat.sub_self]; rfl
        simp only [e]
        exact hfin
    · have hx' : mayB x.f0 x.f1 = false := by simpa [okE] using hx
      simp only [hx', Bool.false_eq_true, if_false, if_neg (show ¬ (right none l = true ∧ okE x = true) from fun h => hx h.2)]
      exact Ev.now _
  · simp only [if_neg hr, if_neg (show ¬ ((1 : Int) = 0) by decide), if_neg (show ¬ (right none l = true ∧ okE x = true) from fun h => hr h.1)]
    exact Ev.now _
theorem drop_ev (l : List E) (s : ByteArray) (hl : l.length < 4398046511104) : Ev (fun k => attr_Drop.f k l s) (dropR l s.data.toList) := by
  unfold attr_Drop.f
  refine Ev.bind (check_ev l hl) ?_
  unfold checkR dropR
  by_cases hr : right none l = true
  · simp only [if_pos hr, if_true]
    obtain ⟨A, M, C, rfl, hA, hC, hM⟩ := split s.data.toList l ((right_iff l none).1 hr).2.2
    refine Ev.bind (find_ev A M C s hA hC hM hl) ?_
    rw [get_split hA hC hM, rem_split hA hC hM]
    rcases hM with rfl | ⟨m, rfl, hm⟩
    · rw [show (decide (([] : List E) ≠ [])) = false from rfl]
      simp only [Bool.false_eq_true, if_false, List.head?_nil]
      exact Ev.now _
    · rw [show (decide (([m] : List E) ≠ [])) = true from rfl]
      simp only [if_true, List.head?_cons]
      simp only [if_pos (show 0 ≤ (A.length : Int) ∧ (A.length : Int) < ((A ++ ([m] ++ C)).length : Int) by simp; omega)]
      have e : (A ++ ([m] ++ C)).eraseIdx (A.length : Int).toNat = A ++ C := by
        rw [Int.toNat_natCast, List.eraseIdx_append_of_length_le (Nat.le_refl _), Nat.sub_self]; rfl
      simp only [e]
      exact Ev.now _
  · simp only [if_neg hr, if_neg (show ¬ ((1 : Int) = 0) by decide)]
    exact Ev.now _
theorem get_ev (l : List E) (s : ByteArray) (hl : l.length < 4398046511104) : Ev (fun k => attr_Get.f k l s) (getR l s.data.toList) := by
  unfold attr_Get.f
  refine Ev.bind (check_ev l hl) ?_
  unfold checkR getR
  by_cases hr : right none l = true
  · simp only [if_pos hr, if_true]
    obtain ⟨A, M, C, rfl, hA, hC, hM⟩ := split s.data.toList l ((right_iff l none).1 hr).2.2
    refine Ev.bind (find_ev A M C s hA hC hM hl) ?_
    rw [get_split hA hC hM]
    rcases hM with rfl | ⟨m, rfl, hm⟩
    · rw [show (decide (([] : List E) ≠ [])) = false from rfl]
      simp only [Bool.false_eq_true, if_false, List.head?_nil]
      exact Ev.now _
    · rw [show (decide (([m] : List E) ≠ [])) = true from rfl]
      have hlt : A.length < (A ++ ([m] ++ C)).length := by simp
      simp only [if_true, List.head?_cons, if_pos (show (0 : Int) ≤ (A.length : Int) by omega), if_pos (show (A.length : Int) < ((A ++ ([m] ++ C)).length : Int) by omega), rdT_get hlt]
      have e : (A ++ ([m] ++ C))[A.length] = m := by simp
      simp only [e]
      exact Ev.now _
  · simp only [if_neg hr, if_neg (show ¬ ((1 : Int) = 0) by decide)]
    exact Ev.now _
def entB (e : E) : List Int := bytesN 1 e.f0.size ++ bytesN 1 e.f1.size ++ bytesOf e.f0 ++ bytesOf e.f1
def bodyL : List E → List Int
  | [] => []
  | e :: l => entB e ++ bodyL l
def headP (l : List E) : List Int := bytesN 2 l.length
def encP (l : List E) : List Int := headP l ++ bodyL l ++ List.replicate (252 - (2 + sumL l)) 0
def encR (l : List E) : List Int × Int := if right none l = true then (if sumL l > 250 then ([], 15) else (encP l ++ bytesN 4 (sumB (encP l)).toNat, 0)) else ([], 1)
theorem entB_len (e : E) : (entB e).length = 2 + e.f0.size + e.f1.size := by
  simp only [entB, List.length_append, bytesN_len, bytesOf_length]
theorem bodyL_len : ∀ l, (bodyL l).length = sumL l
  | [] => rfl
  | e :: l => by rw [bodyL, List.length_append, entB_len, bodyL_len l, sumL]
theorem headP_len (l : List E) : (headP l).length = 2 := by simp [headP, bytesN_len]
theorem encP_len {l : List E} (h : sumL l ≤ 250) : (encP l).length = 252 := by
  rw [encP, List.length_append, List.length_append, headP_len, bodyL_len, List.length_replicate]; omega
theorem encR_len {l : List E} (h : (encR l).2 = 0) : (encR l).1.length = 256 := by
  unfold encR at h ⊢
  by_cases hr : right none l = true
  · rw [if_pos hr] at h ⊢
    by_cases hs : sumL l > 250
    · rw [if_pos hs] at h; cases h
    · rw [if_neg hs, List.length_append, encP_len (by omega), bytesN_len]
  · rw [if_neg hr] at h; cases h
theorem encR_iff {l : List E} : (encR l).2 = 0 ↔ right none l = true ∧ sumL l ≤ 250 := by
  unfold encR
  by_cases hr : right none l = true
  · rw [if_pos hr]
    by_cases hs : sumL l > 250
    · rw [if_pos hs]
      constructor
      · intro h; cases h
      · intro h; omega
    · rw [if_neg hs]
      exact ⟨fun _ => ⟨hr, by omega⟩, fun _ => rfl⟩
  · rw [if_neg hr]
    constructor
    · intro h; cases h
    · intro h; exact absurd h.1 hr
theorem u64n (n : Nat) (h : n < 18446744073709551616) : IntKind.u64.wrap (n : Int) = (n : Int) := by rw [u64w]; omega
theorem two_bytes (a b : Nat) : [((a : Nat) : Int) % 256, ((b : Nat) : Int) % 256] = bytesN 1 a ++ bytesN 1 b := by simp [bytesN]
theorem enc_ev (l : List E) (hl : l.length < 4398046511104) : Ev (fun k => attr_Encode.f k l) (encR l) := by
  unfold attr_Encode.f
  refine Ev.bind (check_ev l hl) ?_
  unfold checkR encR
  by_cases hr : right none l = true
  · simp only [if_pos hr, if_true]
    by_cases hs : sumL l > 250
    · simp only [if_pos hs, decide_eq_false (show ¬ sumL l ≤ 250 by omega), Bool.false_eq_true, if_false]
      exact Ev.now _
    · simp only [if_neg hs, decide_eq_true (show sumL l ≤ 250 by omega), if_true, u64n l.length (by omega)]
      refine Ev.bind (crc_bytes_ev _ 2 (by decide)) ?_
      have hlen : (headP l ++ bodyL l).length = 2 + sumL l := by rw [List.length_append, headP_len, bodyL_len]
      have key : ∀ (n i : Nat) (b : List Int), i + n = l.length → b.length + sumL (l.drop i) ≤ 252 → b ++ bodyL (l.drop i) = headP l ++ bodyL l → Ev (fun k => attr_Encode.l0 k b l (l.length : Int) (i : Int)) (encP l ++ bytesN 4 (sumB (encP l)).toNat, 0) := by
        intro n
        induction n with
        | zero =>
          intro i b hi hb he
          refine Ev.succ ?_
          rw [List.drop_of_length_le (by omega), bodyL, List.append_nil] at he
          subst he
          have ew : wrap64 (252 - ((headP l ++ bodyL l).length : Int)) = ((252 - (2 + sumL l) : Nat) : Int) := by rw [hlen, w64 (by omega) (by omega)]; omega
          have el : (headP l ++ bodyL l).length + (252 - (2 + sumL l)) = 252 := by omega
          simp only [attr_Encode.l0, if_neg (show ¬((i : Int) < (l.length : Int)) by omega), ew, if_pos (show (0 : Int) ≤ ((252 - (2 + sumL l) : Nat) : Int) by omega), Int.toNat_natCast, el, if_pos (show 252 < 140737488355328 by decide), bs]
          refine Ev.bind (crc_sum_ev (encP l) (by rw [encP_len (by omega)]; decide)) ?_
          have hlt := (sumB (encP l)).isLt
          rw [u64n _ (by omega)]
          refine Ev.bind (crc_bytes_ev _ 4 (by decide)) ?_
          have e5 : (headP l ++ bodyL l ++ List.replicate (252 - (2 + sumL l)) 0).length = 252 := encP_len (by omega)
          simp only [bytesN_len, e5, if_pos (show 252 + 4 < 140737488355328 by decide)]
          exact Ev.now _
        | succ n ih =>
          intro i b hi hb he
          refine Ev.succ ?_
          have hil : i < l.length := by omega
          rw [List.drop_eq_getElem_cons hil] at hb he
          simp only [sumL] at hb
          simp only [attr_Encode.l0, if_pos (show ((i : Int) < (l.length : Int)) by omega), if_pos (show (0 : Int) ≤ (i : Int) by omega), rdT_get hil, bs, two_bytes, List.length_append, bytesN_len, bytesOf_length, if_pos (show b.length + (1 + 1) < 140737488355328 by omega), if_pos (show b.length + (1 + 1) + l[i].f0.size < 140737488355328 by omega), if_pos (show b.length + (1 + 1) + l[i].f0.size + l[i].f1.size < 140737488355328 by omega), w64 (show -9223372036854775808 ≤ (i : Int) + 1 by omega) (by omega)]
          refine ih (i + 1) _ (by omega) (by simp only [List.length_append, bytesN_len, bytesOf_length]; omega) ?_
          rw [← he]
          simp only [bodyL, entB, List.append_assoc]
      have := key l.length 0 (headP l) (by omega) (by rw [List.drop_zero, headP_len]; omega) (by rw [List.drop_zero])
      exact this
  · simp only [if_neg hr, if_neg (show ¬ ((1 : Int) = 0) by decide)]
    exact Ev.now _
end Go.Proofs.Ytffaggckhneakaa.At
end
section
namespace Go.Proofs.Ytffaggckhneakaa.Pr
open Go.RowKit Go.Proofs.YtffaggckhneakaaW.PrintWords Go.Proofs.YtffaggckhneakaaW.PrintLast Go.Proofs.YtffaggckhneakaaW.PrintMore
attribute [local go_sem] max2_int min2_int max_two min_two max_three min_three max_four min_four
attribute [local go_sem] Go.Proofs.Ytffaggckhneakaa.Hl.str_geq Go.Proofs.Ytffaggckhneakaa.Hl.str_gtr Go.Proofs.Ytffaggckhneakaa.Hl.str_leq
set_option linter.unusedVariables false
set_option linter.unusedSimpArgs false
def undercroftlaw13_alive.f (k : Nat)  : Option (Bool) := (attr_Set.f k (([(⟨(⟨#[98]⟩ : ByteArray), (⟨#[49]⟩ : ByteArray)⟩ : S26)] : List (S26))) (⟨#[97]⟩ : ByteArray) (⟨#[50]⟩ : ByteArray)).bind fun bt370 => ((attr_Get.f k bt370.1 (⟨#[98]⟩ : ByteArray)).bind fun bt374 => ((attr_Encode.f k bt370.1).bind fun bt376 => (if bt370.2 = 0 then (if (bt370.1.length : Int) = 2 then (if 0 < (bt370.1.length : Int) then (if ((rd_T26 bt370.1 0).f0).toList = ([97] : List UInt8) then (if bt374.2 = 0 then (if bt374.1.toList = ([49] : List UInt8) then (if bt376.2 = 0 then (if (bt376.1.length : Int) = 256 then (if 0 < (bt376.1.length : Int) then (some ((rd bt376.1 0) == 2)) else (none)) else (some false)) else (some false)) else (some false)) else (some false)) else (some false)) else (none)) else (some false)) else (some false))))
set_option maxHeartbeats 8000000 in
set_option maxRecDepth 100000 in
theorem undercroftlaw13_alive.calls (k : Nat)  (r : Bool) (w : World) (h : undercroftlaw13_alive.f k  = some r) :
    Calls Try.prog 13 #[] w fun e w' => e = .returned (.bool r) ∧ Below w.heap.size w w' := by
  have hu26 := Try.underlying26
  have HB := Aside0.mk (Below.refl w.heap.size w)
  have H : ((attr_Set.f k (([(⟨(⟨#[98]⟩ : ByteArray), (⟨#[49]⟩ : ByteArray)⟩ : S26)] : List (S26))) (⟨#[97]⟩ : ByteArray) (⟨#[50]⟩ : ByteArray)).bind fun bt370 => ((attr_Get.f k bt370.1 (⟨#[98]⟩ : ByteArray)).bind fun bt374 => ((attr_Encode.f k bt370.1).bind fun bt376 => (if bt370.2 = 0 then (if (bt370.1.length : Int) = 2 then (if 0 < (bt370.1.length : Int) then (if ((rd_T26 bt370.1 0).f0).toList = ([97] : List UInt8) then (if bt374.2 = 0 then (if bt374.1.toList = ([49] : List UInt8) then (if bt376.2 = 0 then (if (bt376.1.length : Int) = 256 then (if 0 < (bt376.1.length : Int) then (some ((rd bt376.1 0) == 2)) else (none)) else (some false)) else (some false)) else (some false)) else (some false)) else (some false)) else (none)) else (some false)) else (some false))))) = some r := h
  clear h
  obtain ⟨y367, hy367⟩ : ∃ y_ : List (S26), y_ = (([(⟨(⟨#[98]⟩ : ByteArray), (⟨#[49]⟩ : ByteArray)⟩ : S26)] : List (S26))) := ⟨_, rfl⟩
  replace H : ((attr_Set.f k y367 (⟨#[97]⟩ : ByteArray) (⟨#[50]⟩ : ByteArray)).bind fun bt370 => ((attr_Get.f k bt370.1 (⟨#[98]⟩ : ByteArray)).bind fun bt374 => ((attr_Encode.f k bt370.1).bind fun bt376 => (if bt370.2 = 0 then (if (bt370.1.length : Int) = 2 then (if 0 < (bt370.1.length : Int) then (if ((rd_T26 bt370.1 0).f0).toList = ([97] : List UInt8) then (if bt374.2 = 0 then (if bt374.1.toList = ([49] : List UInt8) then (if bt376.2 = 0 then (if (bt376.1.length : Int) = 256 then (if 0 < (bt376.1.length : Int) then (some ((rd bt376.1 0) == 2)) else (none)) else (some false)) else (some false)) else (some false)) else (some false)) else (some false)) else (none)) else (some false)) else (some false))))) = some r := by first | (rw [hy367]; with_reducible exact H) | (have H2_ := (Option.bind_some _ _).symm.trans H; rw [hy367]; with_reducible exact H2_) | (have H2_ := (Option.bind_some _ _).symm.trans H; with_reducible exact H2_) | with_reducible exact H | (rw [hy367]; exact H) | exact H
  have Ny367 := Aside0.mk hy367
  clear hy367
  replace H := Option.bind_eq_some_iff.mp H
  obtain ⟨⟨t370, t373⟩, A10, H⟩ := H
  replace H : ((attr_Get.f k t370 (⟨#[98]⟩ : ByteArray)).bind fun bt374 => ((attr_Encode.f k t370).bind fun bt376 => (if t373 = 0 then (if (t370.length : Int) = 2 then (if 0 < (t370.length : Int) then (if ((rd_T26 t370 0).f0).toList = ([97] : List UInt8) then (if bt374.2 = 0 then (if bt374.1.toList = ([49] : List UInt8) then (if bt376.2 = 0 then (if (bt376.1.length : Int) = 256 then (if 0 < (bt376.1.length : Int) then (some ((rd bt376.1 0) == 2)) else (none)) else (some false)) else (some false)) else (some false)) else (some false)) else (some false)) else (none)) else (some false)) else (some false)))) = some r := H
  have A1 := Aside0.mk A10
  clear A10
  replace H := Option.bind_eq_some_iff.mp H
  obtain ⟨⟨t374, t375⟩, A20, H⟩ := H
  replace H : ((attr_Encode.f k t370).bind fun bt376 => (if t373 = 0 then (if (t370.length : Int) = 2 then (if 0 < (t370.length : Int) then (if ((rd_T26 t370 0).f0).toList = ([97] : List UInt8) then (if t375 = 0 then (if t374.toList = ([49] : List UInt8) then (if bt376.2 = 0 then (if (bt376.1.length : Int) = 256 then (if 0 < (bt376.1.length : Int) then (some ((rd bt376.1 0) == 2)) else (none)) else (some false)) else (some false)) else (some false)) else (some false)) else (some false)) else (none)) else (some false)) else (some false))) = some r := H
  have A2 := Aside0.mk A20
  clear A20
  replace H := Option.bind_eq_some_iff.mp H
  obtain ⟨⟨t376, t377⟩, A30, H⟩ := H
  replace H : (if t373 = 0 then (if (t370.length : Int) = 2 then (if 0 < (t370.length : Int) then (if ((rd_T26 t370 0).f0).toList = ([97] : List UInt8) then (if t375 = 0 then (if t374.toList = ([49] : List UInt8) then (if t377 = 0 then (if (t376.length : Int) = 256 then (if 0 < (t376.length : Int) then (some ((rd t376 0) == 2)) else (none)) else (some false)) else (some false)) else (some false)) else (some false)) else (some false)) else (none)) else (some false)) else (some false)) = some r := H
  have A3 := Aside0.mk A30
  clear A30
  by_cases c4 : t373 = 0
  · rw [if_pos c4] at H
    have c4b0 : (t373 == 0) = true := beq_iff_eq.mpr c4
    have c4b1 : (t373 != 0) = false := bne_eq_false_iff_eq.mpr c4
    clear c4
    by_cases c5 : (t370.length : Int) = 2
    · rw [if_pos c5] at H
      have c5b0 : ((t370.length : Int) == 2) = true := beq_iff_eq.mpr c5
      have c5b1 : ((t370.length : Int) != 2) = false := bne_eq_false_iff_eq.mpr c5
      clear c5
      by_cases c6 : 0 < (t370.length : Int)
      · rw [if_pos c6] at H
        have c6b0 : decide (0 < (t370.length : Int)) = true := decide_eq_true c6
        have c6b1 : decide (0 < t370.length) = true := decide_eq_true (by omega)
        clear c6
        by_cases c7 : ((rd_T26 t370 0).f0).toList = ([97] : List UInt8)
        · rw [if_pos c7] at H
          have c7b0 : (((rd_T26 t370 0).f0).toList == ([97] : List UInt8)) = true := beq_iff_eq.mpr c7
          have c7b1 : (((rd_T26 t370 0).f0).toList != ([97] : List UInt8)) = false := bne_eq_false_iff_eq.mpr c7
          clear c7
          by_cases c8 : t375 = 0
          · rw [if_pos c8] at H
            have c8b0 : (t375 == 0) = true := beq_iff_eq.mpr c8
            have c8b1 : (t375 != 0) = false := bne_eq_false_iff_eq.mpr c8
            clear c8
            by_cases c9 : t374.toList = ([49] : List UInt8)
            · rw [if_pos c9] at H
              have c9b0 : (t374.toList == ([49] : List UInt8)) = true := beq_iff_eq.mpr c9
              have c9b1 : (t374.toList != ([49] : List UInt8)) = false := bne_eq_false_iff_eq.mpr c9
              clear c9
              by_cases c10 : t377 = 0
              · rw [if_pos c10] at H
                have c10b0 : (t377 == 0) = true := beq_iff_eq.mpr c10
                have c10b1 : (t377 != 0) = false := bne_eq_false_iff_eq.mpr c10
                clear c10
                by_cases c11 : (t376.length : Int) = 256
                · rw [if_pos c11] at H
                  have c11b0 : ((t376.length : Int) == 256) = true := beq_iff_eq.mpr c11
                  have c11b1 : ((t376.length : Int) != 256) = false := bne_eq_false_iff_eq.mpr c11
                  clear c11
                  by_cases c12 : 0 < (t376.length : Int)
                  · rw [if_pos c12] at H
                    have c12b0 : decide (0 < (t376.length : Int)) = true := decide_eq_true c12
                    have c12b1 : decide (0 < t376.length) = true := decide_eq_true (by omega)
                    clear c12
                    obtain rfl := Option.some.inj H
                    go_enter Try.func13, Try.ntmps13
                    go_wp2_with (first | ((with_reducible refine gate_dst (N := 9) rfl ?_); (try (refine gate_guard (by rfl) ?_; dsimp only)); refine Kd.R_lit k26 _ 26 ?hg (N := 9) ?hd (xs := ([(⟨(⟨#[98]⟩ : ByteArray), (⟨#[49]⟩ : ByteArray)⟩ : S26)] : List (S26))) (inner := [.string (⟨#[98]⟩ : ByteArray), .string (⟨#[49]⟩ : ByteArray)]) (ok := fun _ => True) (okp := fun _ => True) ?hr ?hp (fun _ hk => hk) trivial (Below.refl _ _) (Nat.le_refl _) (by simp) ?_; (case hd => rfl); (case hg => rfl); (case hr => first | (go_simp; done) | (go_simp; rfl)); (case hp => exact (Reps.c2 (show Kd.M k26 _ _ _ (⟨(⟨#[98]⟩ : ByteArray), (⟨#[49]⟩ : ByteArray)⟩ : S26) [.string (⟨#[98]⟩ : ByteArray), .string (⟨#[49]⟩ : ByteArray)] from (k26_mkM _ _ _ (⟨(⟨#[98]⟩ : ByteArray), (⟨#[49]⟩ : ByteArray)⟩ : S26) )) (Reps.none _ _))); intro v368 w13 ho14 hb hg_ hnew_; clear hg_ hnew_; (first | rw [← Ny367.out] at ho14 | (simp only [Int.reduceToNat] at ho14; rw [← Ny367.out] at ho14)); have n0_ := Aside0.mk (Kd.R_lower ho14 (below_size (by repeat (first | (with_reducible first | exact HB.out | apply below_alloc | apply pw_below_drewN | apply below_drew1) | exact HB.out)))); have n1_ := Aside0.mk (below_step (by repeat (first | (with_reducible first | exact HB.out | apply below_alloc | apply pw_below_drewN | apply below_drew1) | exact HB.out)) hb); clear HB; have HO369 := n0_; have HB := n1_; clear n0_ n1_; clear hb ho14; obtain ⟨Ao15, co15, eo15⟩ := Kd.R_slice HO369.out; subst eo15) | ((with_reducible refine gate_callee (f := 14) rfl ?_); refine goesL_ (some 11) rfl rfl Try.func14 (by kernel_rfl) rfl #[.slice Ao15 y367.length co15, .agg #[.string (⟨#[97]⟩ : ByteArray), .string (⟨#[50]⟩ : ByteArray)]] rfl (by (try simp only [List.map_toArray, List.map_cons, List.map_nil]); first | done | rfl | (simp only [List.length_drop, List.length_take]; rfl)) ?_; (with_reducible refine (attr_Set.calls k _ _ y367 (⟨#[97]⟩ : ByteArray) (⟨#[50]⟩ : ByteArray) t370 t373 _ ?side1 ?side2 A1.out).mono ?_); (case side1 => repeat (first | exact (Kd.R_reads' HO369.out).2.2 | (with_reducible refine Kd.C_alloc ?_ _) | (with_reducible refine Kd.C_drewN ?_ _) | (with_reducible refine Kd.C_drew ?_))); (case side2 => exact (Kd.R_reads' HO369.out).2.1); rintro e w16 ⟨v371, rfl, ho0, hb⟩; refine ⟨_, rfl, ?_⟩; have n0_ := Aside0.mk (Kd.R_elder' (by (with_reducible repeat (first | apply Kd.R_alloc | apply Kd.R_drewN | apply Kd.R_drew)); exact HO369.out) (Kd.R_base ho0) hb); have n1_ := Aside0.mk (Kd.R_lower (Kd.R_new' ho0 (Kd.R_lt (by (with_reducible repeat (first | apply Kd.R_alloc | apply Kd.R_drewN | apply Kd.R_drew)); exact HO369.out))) (below_size (by repeat (first | (with_reducible first | exact HB.out | apply below_alloc | apply pw_below_drewN | apply below_drew1) | exact HB.out)))); have n2_ := Aside0.mk (below_step (by repeat (first | (with_reducible first | exact HB.out | apply below_alloc | apply pw_below_drewN | apply below_drew1) | exact HB.out)) hb); clear HO369; clear HB; have HO369 := n0_; have HO372 := n1_; have HB := n2_; clear n0_ n1_ n2_; (try clear hb); (try clear hb2); (try clear hk); (try clear hi); (try clear ho0); obtain ⟨Ao17, co17, eo17⟩ := Kd.R_slice HO372.out; subst eo17) | ((with_reducible refine gate_callee (f := 19) rfl ?_); refine goesL_ (some 16) rfl rfl Try.func19 (by kernel_rfl) rfl #[.slice Ao17 t370.length co17, .string (⟨#[98]⟩ : ByteArray)] rfl (by (try simp only [List.map_toArray, List.map_cons, List.map_nil]); first | done | rfl | (simp only [List.length_drop, List.length_take]; rfl)) ?_; (with_reducible refine (attr_Get.calls k _ _ t370 (⟨#[98]⟩ : ByteArray) t374 t375 _ ?side1 ?side2 A2.out).mono ?_); (case side1 => repeat (first | exact (Kd.R_reads' HO372.out).2.2 | (with_reducible refine Kd.C_alloc ?_ _) | (with_reducible refine Kd.C_drewN ?_ _) | (with_reducible refine Kd.C_drew ?_))); (case side2 => exact (Kd.R_reads' HO372.out).2.1); rintro e w18 ⟨rfl, hb⟩; refine ⟨_, rfl, ?_⟩; have n0_ := Aside0.mk (Kd.R_below (by (with_reducible repeat (first | apply Kd.R_alloc | apply Kd.R_drewN | apply Kd.R_drew)); exact HO369.out) hb); have n1_ := Aside0.mk (Kd.R_below (by (with_reducible repeat (first | apply Kd.R_alloc | apply Kd.R_drewN | apply Kd.R_drew)); exact HO372.out) hb); have n2_ := Aside0.mk (below_step (by repeat (first | (with_reducible first | exact HB.out | apply below_alloc | apply pw_below_drewN | apply below_drew1) | exact HB.out)) hb); clear HO369; clear HO372; clear HB; have HO369 := n0_; have HO372 := n1_; have HB := n2_; clear n0_ n1_ n2_; (try clear hb); (try clear hb2); (try clear hk); (try clear hi)) | ((with_reducible refine gate_callee (f := 21) rfl ?_); refine goesL_ (some 21) rfl rfl Try.func21 (by kernel_rfl) rfl #[.slice Ao17 t370.length co17] rfl (by (try simp only [List.map_toArray, List.map_cons, List.map_nil]); first | done | rfl | (simp only [List.length_drop, List.length_take]; rfl)) ?_; (with_reducible refine (attr_Encode.calls k _ _ t370 t376 t377 _ ?side1 ?side2 A3.out).mono ?_); (case side1 => repeat (first | exact (Kd.R_reads' HO372.out).2.2 | (with_reducible refine Kd.C_alloc ?_ _) | (with_reducible refine Kd.C_drewN ?_ _) | (with_reducible refine Kd.C_drew ?_))); (case side2 => exact (Kd.R_reads' HO372.out).2.1); rintro e w19 ⟨v378, rfl, ho0, hb⟩; refine ⟨_, rfl, ?_⟩; have n0_ := Aside0.mk (Kd.R_below (by (with_reducible repeat (first | apply Kd.R_alloc | apply Kd.R_drewN | apply Kd.R_drew)); exact HO369.out) hb); have n1_ := Aside0.mk (Kd.R_below (by (with_reducible repeat (first | apply Kd.R_alloc | apply Kd.R_drewN | apply Kd.R_drew)); exact HO372.out) hb); have n2_ := Aside0.mk (Kd.R_lower ho0 (below_size (by repeat (first | (with_reducible first | exact HB.out | apply below_alloc | apply pw_below_drewN | apply below_drew1) | exact HB.out)))); have n3_ := Aside0.mk (below_step (by repeat (first | (with_reducible first | exact HB.out | apply below_alloc | apply pw_below_drewN | apply below_drew1) | exact HB.out)) hb); clear HO369; clear HO372; clear HB; have HO369 := n0_; have HO372 := n1_; have HO379 := n2_; have HB := n3_; clear n0_ n1_ n2_ n3_; (try clear hb); (try clear hb2); (try clear hk); (try clear hi); (try clear ho0); have p380 : 0 ≤ (0 : Int) := (by omega); have q380 : 0 < (t370.length : Int) := of_decide_eq_true (by first | (with_reducible assumption) | assumption); obtain ⟨ad380, e380, hx380_0, hx380_1⟩ := at_T26 (Kd.R_reads' HO372.out).2.2 0 p380 q380; cases e380; have qi380 : (0 < t370.length) = True := eq_true (by omega); (try rw [show ((0 : Int)).toNat = 0 from rfl] at hx380_0); (try rw [show 0 * 2 = 0 from rfl] at hx380_0); (try rw [Addr.add_zero'] at hx380_0); (try rw [show ((0 : Int)).toNat = 0 from rfl] at hx380_1); (try rw [show 0 * 2 = 0 from rfl] at hx380_1); (try rw [Addr.add_zero'] at hx380_1); replace p380 := eq_true p380; replace q380 := eq_true q380; obtain ⟨Ao20, co20, eo20⟩ := Kd.R_slice HO379.out; subst eo20; have p381 : 0 ≤ (0 : Int) := (by omega); have q381 : 0 < (t376.length : Int) := of_decide_eq_true (by first | (with_reducible assumption) | assumption); obtain ⟨ad381, e381, hx381_0⟩ := Kd.at_int (Kd.R_reads' HO379.out).2.2 0 p381 q381; cases e381; have qi381 : (0 < t376.length) = True := eq_true (by omega); (try rw [show ((0 : Int)).toNat = 0 from rfl] at hx381_0); (try rw [Addr.add_zero'] at hx381_0); replace p381 := eq_true p381; replace q381 := eq_true q381))
                    go_ret
                    exact ⟨by first | rfl | (simp [errW_none, errW_some] <;> rfl) | (simp [*, errW_none, errW_some] <;> rfl), by repeat (first | (with_reducible first | exact HB.out | apply below_alloc | apply pw_below_drewN | apply below_drew1) | exact HB.out)⟩
                  · rw [if_neg c12] at H
                    exact absurd H (by simp)
                · rw [if_neg c11] at H
                  have c11b0 : ((t376.length : Int) == 256) = false := beq_eq_false_iff_ne.mpr c11
                  have c11b1 : ((t376.length : Int) != 256) = true := bne_iff_ne.mpr c11
                  obtain rfl := Option.some.inj H
                  go_enter Try.func13, Try.ntmps13
                  go_wp2_with (first | ((with_reducible refine gate_dst (N := 9) rfl ?_); (try (refine gate_guard (by rfl) ?_; dsimp only)); refine Kd.R_lit k26 _ 26 ?hg (N := 9) ?hd (xs := ([(⟨(⟨#[98]⟩ : ByteArray), (⟨#[49]⟩ : ByteArray)⟩ : S26)] : List (S26))) (inner := [.string (⟨#[98]⟩ : ByteArray), .string (⟨#[49]⟩ : ByteArray)]) (ok := fun _ => True) (okp := fun _ => True) ?hr ?hp (fun _ hk => hk) trivial (Below.refl _ _) (Nat.le_refl _) (by simp) ?_; (case hd => rfl); (case hg => rfl); (case hr => first | (go_simp; done) | (go_simp; rfl)); (case hp => exact (Reps.c2 (show Kd.M k26 _ _ _ (⟨(⟨#[98]⟩ : ByteArray), (⟨#[49]⟩ : ByteArray)⟩ : S26) [.string (⟨#[98]⟩ : ByteArray), .string (⟨#[49]⟩ : ByteArray)] from (k26_mkM _ _ _ (⟨(⟨#[98]⟩ : ByteArray), (⟨#[49]⟩ : ByteArray)⟩ : S26) )) (Reps.none _ _))); intro v368 w21 ho22 hb hg_ hnew_; clear hg_ hnew_; (first | rw [← Ny367.out] at ho22 | (simp only [Int.reduceToNat] at ho22; rw [← Ny367.out] at ho22)); have n0_ := Aside0.mk (Kd.R_lower ho22 (below_size (by repeat (first | (with_reducible first | exact HB.out | apply below_alloc | apply pw_below_drewN | apply below_drew1) | exact HB.out)))); have n1_ := Aside0.mk (below_step (by repeat (first | (with_reducible first | exact HB.out | apply below_alloc | apply pw_below_drewN | apply below_drew1) | exact HB.out)) hb); clear HB; have HO369 := n0_; have HB := n1_; clear n0_ n1_; clear hb ho22; obtain ⟨Ao23, co23, eo23⟩ := Kd.R_slice HO369.out; subst eo23) | ((with_reducible refine gate_callee (f := 14) rfl ?_); refine goesL_ (some 11) rfl rfl Try.func14 (by kernel_rfl) rfl #[.slice Ao23 y367.length co23, .agg #[.string (⟨#[97]⟩ : ByteArray), .string (⟨#[50]⟩ : ByteArray)]] rfl (by (try simp only [List.map_toArray, List.map_cons, List.map_nil]); first | done | rfl | (simp only [List.length_drop, List.length_take]; rfl)) ?_; (with_reducible refine (attr_Set.calls k _ _ y367 (⟨#[97]⟩ : ByteArray) (⟨#[50]⟩ : ByteArray) t370 t373 _ ?side1 ?side2 A1.out).mono ?_); (case side1 => repeat (first | exact (Kd.R_reads' HO369.out).2.2 | (with_reducible refine Kd.C_alloc ?_ _) | (with_reducible refine Kd.C_drewN ?_ _) | (with_reducible refine Kd.C_drew ?_))); (case side2 => exact (Kd.R_reads' HO369.out).2.1); rintro e w24 ⟨v371, rfl, ho0, hb⟩; refine ⟨_, rfl, ?_⟩; have n0_ := Aside0.mk (Kd.R_elder' (by (with_reducible repeat (first | apply Kd.R_alloc | apply Kd.R_drewN | apply Kd.R_drew)); exact HO369.out) (Kd.R_base ho0) hb); have n1_ := Aside0.mk (Kd.R_lower (Kd.R_new' ho0 (Kd.R_lt (by (with_reducible repeat (first | apply Kd.R_alloc | apply Kd.R_drewN | apply Kd.R_drew)); exact HO369.out))) (below_size (by repeat (first | (with_reducible first | exact HB.out | apply below_alloc | apply pw_below_drewN | apply below_drew1) | exact HB.out)))); have n2_ := Aside0.mk (below_step (by repeat (first | (with_reducible first | exact HB.out | apply below_alloc | apply pw_below_drewN | apply below_drew1) | exact HB.out)) hb); clear HO369; clear HB; have HO369 := n0_; have HO372 := n1_; have HB := n2_; clear n0_ n1_ n2_; (try clear hb); (try clear hb2); (try clear hk); (try clear hi); (try clear ho0); obtain ⟨Ao25, co25, eo25⟩ := Kd.R_slice HO372.out; subst eo25) | ((with_reducible refine gate_callee (f := 19) rfl ?_); refine goesL_ (some 16) rfl rfl Try.func19 (by kernel_rfl) rfl #[.slice Ao25 t370.length co25, .string (⟨#[98]⟩ : ByteArray)] rfl (by (try simp only [List.map_toArray, List.map_cons, List.map_nil]); first | done | rfl | (simp only [List.length_drop, List.length_take]; rfl)) ?_; (with_reducible refine (attr_Get.calls k _ _ t370 (⟨#[98]⟩ : ByteArray) t374 t375 _ ?side1 ?side2 A2.out).mono ?_); (case side1 => repeat (first | exact (Kd.R_reads' HO372.out).2.2 | (with_reducible refine Kd.C_alloc ?_ _) | (with_reducible refine Kd.C_drewN ?_ _) | (with_reducible refine Kd.C_drew ?_))); (case side2 => exact (Kd.R_reads' HO372.out).2.1); rintro e w26 ⟨rfl, hb⟩; refine ⟨_, rfl, ?_⟩; have n0_ := Aside0.mk (Kd.R_below (by (with_reducible repeat (first | apply Kd.R_alloc | apply Kd.R_drewN | apply Kd.R_drew)); exact HO369.out) hb); have n1_ := Aside0.mk (Kd.R_below (by (with_reducible repeat (first | apply Kd.R_alloc | apply Kd.R_drewN | apply Kd.R_drew)); exact HO372.out) hb); have n2_ := Aside0.mk (below_step (by repeat (first | (with_reducible first | exact HB.out | apply below_alloc | apply pw_below_drewN | apply below_drew1) | exact HB.out)) hb); clear HO369; clear HO372; clear HB; have HO369 := n0_; have HO372 := n1_; have HB := n2_; clear n0_ n1_ n2_; (try clear hb); (try clear hb2); (try clear hk); (try clear hi)) | ((with_reducible refine gate_callee (f := 21) rfl ?_); refine goesL_ (some 21) rfl rfl Try.func21 (by kernel_rfl) rfl #[.slice Ao25 t370.length co25] rfl (by (try simp only [List.map_toArray, List.map_cons, List.map_nil]); first | done | rfl | (simp only [List.length_drop, List.length_take]; rfl)) ?_; (with_reducible refine (attr_Encode.calls k _ _ t370 t376 t377 _ ?side1 ?side2 A3.out).mono ?_); (case side1 => repeat (first | exact (Kd.R_reads' HO372.out).2.2 | (with_reducible refine Kd.C_alloc ?_ _) | (with_reducible refine Kd.C_drewN ?_ _) | (with_reducible refine Kd.C_drew ?_))); (case side2 => exact (Kd.R_reads' HO372.out).2.1); rintro e w27 ⟨v378, rfl, ho0, hb⟩; refine ⟨_, rfl, ?_⟩; have n0_ := Aside0.mk (Kd.R_below (by (with_reducible repeat (first | apply Kd.R_alloc | apply Kd.R_drewN | apply Kd.R_drew)); exact HO369.out) hb); have n1_ := Aside0.mk (Kd.R_below (by (with_reducible repeat (first | apply Kd.R_alloc | apply Kd.R_drewN | apply Kd.R_drew)); exact HO372.out) hb); have n2_ := Aside0.mk (Kd.R_lower ho0 (below_size (by repeat (first | (with_reducible first | exact HB.out | apply below_alloc | apply pw_below_drewN | apply below_drew1) | exact HB.out)))); have n3_ := Aside0.mk (below_step (by repeat (first | (with_reducible first | exact HB.out | apply below_alloc | apply pw_below_drewN | apply below_drew1) | exact HB.out)) hb); clear HO369; clear HO372; clear HB; have HO369 := n0_; have HO372 := n1_; have HO379 := n2_; have HB := n3_; clear n0_ n1_ n2_ n3_; (try clear hb); (try clear hb2); (try clear hk); (try clear hi); (try clear ho0); have p380 : 0 ≤ (0 : Int) := (by omega); have q380 : 0 < (t370.length : Int) := of_decide_eq_true (by first | (with_reducible assumption) | assumption); obtain ⟨ad380, e380, hx380_0, hx380_1⟩ := at_T26 (Kd.R_reads' HO372.out).2.2 0 p380 q380; cases e380; have qi380 : (0 < t370.length) = True := eq_true (by omega); (try rw [show ((0 : Int)).toNat = 0 from rfl] at hx380_0); (try rw [show 0 * 2 = 0 from rfl] at hx380_0); (try rw [Addr.add_zero'] at hx380_0); (try rw [show ((0 : Int)).toNat = 0 from rfl] at hx380_1); (try rw [show 0 * 2 = 0 from rfl] at hx380_1); (try rw [Addr.add_zero'] at hx380_1); replace p380 := eq_true p380; replace q380 := eq_true q380; obtain ⟨Ao28, co28, eo28⟩ := Kd.R_slice HO379.out; subst eo28))
                  go_ret
                  exact ⟨by first | rfl | (simp [errW_none, errW_some] <;> rfl) | (simp [*, errW_none, errW_some] <;> rfl), by repeat (first | (with_reducible first | exact HB.out | apply below_alloc | apply pw_below_drewN | apply below_drew1) | exact HB.out)⟩
              · rw [if_neg c10] at H
                have c10b0 : (t377 == 0) = false := beq_eq_false_iff_ne.mpr c10
                have c10b1 : (t377 != 0) = true := bne_iff_ne.mpr c10
                obtain rfl := Option.some.inj H
                go_enter Try.func13, Try.ntmps13
                go_wp2_with (first | ((with_reducible refine gate_dst (N := 9) rfl ?_); (try (refine gate_guard (by rfl) ?_; dsimp only)); refine Kd.R_lit k26 _ 26 ?hg (N := 9) ?hd (xs := ([(⟨(⟨#[98]⟩ : ByteArray), (⟨#[49]⟩ : ByteArray)⟩ : S26)] : List (S26))) (inner := [.string (⟨#[98]⟩ : ByteArray), .string (⟨#[49]⟩ : ByteArray)]) (ok := fun _ => True) (okp := fun _ => True) ?hr ?hp (fun _ hk => hk) trivial (Below.refl _ _) (Nat.le_refl _) (by simp) ?_; (case hd => rfl); (case hg => rfl); (case hr => first | (go_simp; done) | (go_simp; rfl)); (case hp => exact (Reps.c2 (show Kd.M k26 _ _ _ (⟨(⟨#[98]⟩ : ByteArray), (⟨#[49]⟩ : ByteArray)⟩ : S26) [.string (⟨#[98]⟩ : ByteArray), .string (⟨#[49]⟩ : ByteArray)] from (k26_mkM _ _ _ (⟨(⟨#[98]⟩ : ByteArray), (⟨#[49]⟩ : ByteArray)⟩ : S26) )) (Reps.none _ _))); intro v368 w29 ho30 hb hg_ hnew_; clear hg_ hnew_; (first | rw [← Ny367.out] at ho30 | (simp only [Int.reduceToNat] at ho30; rw [← Ny367.out] at ho30)); have n0_ := Aside0.mk (Kd.R_lower ho30 (below_size (by repeat (first | (with_reducible first | exact HB.out | apply below_alloc | apply pw_below_drewN | apply below_drew1) | exact HB.out)))); have n1_ := Aside0.mk (below_step (by repeat (first | (with_reducible first | exact HB.out | apply below_alloc | apply pw_below_drewN | apply below_drew1) | exact HB.out)) hb); clear HB; have HO369 := n0_; have HB := n1_; clear n0_ n1_; clear hb ho30; obtain ⟨Ao31, co31, eo31⟩ := Kd.R_slice HO369.out; subst eo31) | ((with_reducible refine gate_callee (f := 14) rfl ?_); refine goesL_ (some 11) rfl rfl Try.func14 (by kernel_rfl) rfl #[.slice Ao31 y367.length co31, .agg #[.string (⟨#[97]⟩ : ByteArray), .string (⟨#[50]⟩ : ByteArray)]] rfl (by (try simp only [List.map_toArray, List.map_cons, List.map_nil]); first | done | rfl | (simp only [List.length_drop, List.length_take]; rfl)) ?_; (with_reducible refine (attr_Set.calls k _ _ y367 (⟨#[97]⟩ : ByteArray) (⟨#[50]⟩ : ByteArray) t370 t373 _ ?side1 ?side2 A1.out).mono ?_); (case side1 => repeat (first | exact (Kd.R_reads' HO369.out).2.2 | (with_reducible refine Kd.C_alloc ?_ _) | (with_reducible refine Kd.C_drewN ?_ _) | (with_reducible refine Kd.C_drew ?_))); (case side2 => exact (Kd.R_reads' HO369.out).2.1); rintro e w32 ⟨v371, rfl, ho0, hb⟩; refine ⟨_, rfl, ?_⟩; have n0_ := Aside0.mk (Kd.R_elder' (by (with_reducible repeat (first | apply Kd.R_alloc | apply Kd.R_drewN | apply Kd.R_drew)); exact HO369.out) (Kd.R_base ho0) hb); have n1_ := Aside0.mk (Kd.R_lower (Kd.R_new' ho0 (Kd.R_lt (by (with_reducible repeat (first | apply Kd.R_alloc | apply Kd.R_drewN | apply Kd.R_drew)); exact HO369.out))) (below_size (by repeat (first | (with_reducible first | exact HB.out | apply below_alloc | apply pw_below_drewN | apply below_drew1) | exact HB.out)))); have n2_ := Aside0.mk (below_step (by repeat (first | (with_reducible first | exact HB.out | apply below_alloc | apply pw_below_drewN | apply below_drew1) | exact HB.out)) hb); clear HO369; clear HB; have HO369 := n0_; have HO372 := n1_; have HB := n2_; clear n0_ n1_ n2_; (try clear hb); (try clear hb2); (try clear hk); (try clear hi); (try clear ho0); obtain ⟨Ao33, co33, eo33⟩ := Kd.R_slice HO372.out; subst eo33) | ((with_reducible refine gate_callee (f := 19) rfl ?_); refine goesL_ (some 16) rfl rfl Try.func19 (by kernel_rfl) rfl #[.slice Ao33 t370.length co33, .string (⟨#[98]⟩ : ByteArray)] rfl (by (try simp only [List.map_toArray, List.map_cons, List.map_nil]); first | done | rfl | (simp only [List.length_drop, List.length_take]; rfl)) ?_; (with_reducible refine (attr_Get.calls k _ _ t370 (⟨#[98]⟩ : ByteArray) t374 t375 _ ?side1 ?side2 A2.out).mono ?_); (case side1 => repeat (first | exact (Kd.R_reads' HO372.out).2.2 | (with_reducible refine Kd.C_alloc ?_ _) | (with_reducible refine Kd.C_drewN ?_ _) | (with_reducible refine Kd.C_drew ?_))); (case side2 => exact (Kd.R_reads' HO372.out).2.1); rintro e w34 ⟨rfl, hb⟩; refine ⟨_, rfl, ?_⟩; have n0_ := Aside0.mk (Kd.R_below (by (with_reducible repeat (first | apply Kd.R_alloc | apply Kd.R_drewN | apply Kd.R_drew)); exact HO369.out) hb); have n1_ := Aside0.mk (Kd.R_below (by (with_reducible repeat (first | apply Kd.R_alloc | apply Kd.R_drewN | apply Kd.R_drew)); exact HO372.out) hb); have n2_ := Aside0.mk (below_step (by repeat (first | (with_reducible first | exact HB.out | apply below_alloc | apply pw_below_drewN | apply below_drew1) | exact HB.out)) hb); clear HO369; clear HO372; clear HB; have HO369 := n0_; have HO372 := n1_; have HB := n2_; clear n0_ n1_ n2_; (try clear hb); (try clear hb2); (try clear hk); (try clear hi)) | ((with_reducible refine gate_callee (f := 21) rfl ?_); refine goesL_ (some 21) rfl rfl Try.func21 (by kernel_rfl) rfl #[.slice Ao33 t370.length co33] rfl (by (try simp only [List.map_toArray, List.map_cons, List.map_nil]); first | done | rfl | (simp only [List.length_drop, List.length_take]; rfl)) ?_; (with_reducible refine (attr_Encode.calls k _ _ t370 t376 t377 _ ?side1 ?side2 A3.out).mono ?_); (case side1 => repeat (first | exact (Kd.R_reads' HO372.out).2.2 | (with_reducible refine Kd.C_alloc ?_ _) | (with_reducible refine Kd.C_drewN ?_ _) | (with_reducible refine Kd.C_drew ?_))); (case side2 => exact (Kd.R_reads' HO372.out).2.1); rintro e w35 ⟨v378, rfl, ho0, hb⟩; refine ⟨_, rfl, ?_⟩; have n0_ := Aside0.mk (Kd.R_below (by (with_reducible repeat (first | apply Kd.R_alloc | apply Kd.R_drewN | apply Kd.R_drew)); exact HO369.out) hb); have n1_ := Aside0.mk (Kd.R_below (by (with_reducible repeat (first | apply Kd.R_alloc | apply Kd.R_drewN | apply Kd.R_drew)); exact HO372.out) hb); have n2_ := Aside0.mk (Kd.R_lower ho0 (below_size (by repeat (first | (with_reducible first | exact HB.out | apply below_alloc | apply pw_below_drewN | apply below_drew1) | exact HB.out)))); have n3_ := Aside0.mk (below_step (by repeat (first | (with_reducible first | exact HB.out | apply below_alloc | apply pw_below_drewN | apply below_drew1) | exact HB.out)) hb); clear HO369; clear HO372; clear HB; have HO369 := n0_; have HO372 := n1_; have HO379 := n2_; have HB := n3_; clear n0_ n1_ n2_ n3_; (try clear hb); (try clear hb2); (try clear hk); (try clear hi); (try clear ho0); have p380 : 0 ≤ (0 : Int) := (by omega); have q380 : 0 < (t370.length : Int) := of_decide_eq_true (by first | (with_reducible assumption) | assumption); obtain ⟨ad380, e380, hx380_0, hx380_1⟩ := at_T26 (Kd.R_reads' HO372.out).2.2 0 p380 q380; cases e380; have qi380 : (0 < t370.length) = True := eq_true (by omega); (try rw [show ((0 : Int)).toNat = 0 from rfl] at hx380_0); (try rw [show 0 * 2 = 0 from rfl] at hx380_0); (try rw [Addr.add_zero'] at hx380_0); (try rw [show ((0 : Int)).toNat = 0 from rfl] at hx380_1); (try rw [show 0 * 2 = 0 from rfl] at hx380_1); (try rw [Addr.add_zero'] at hx380_1); replace p380 := eq_true p380; replace q380 := eq_true q380))
                go_ret
                exact ⟨by first | rfl | (simp [errW_none, errW_some] <;> rfl) | (simp [*, errW_none, errW_some] <;> rfl), by repeat (first | (with_reducible first | exact HB.out | apply below_alloc | apply pw_below_drewN | apply below_drew1) | exact HB.out)⟩
            · rw [if_neg c9] at H
              have c9b0 : (t374.toList == ([49] : List UInt8)) = false := beq_eq_false_iff_ne.mpr c9
              have c9b1 : (t374.toList != ([49] : List UInt8)) = true := bne_iff_ne.mpr c9
              obtain rfl := Option.some.inj H
              go_enter Try.func13, Try.ntmps13
              go_wp2_with (first | ((with_reducible refine gate_dst (N := 9) rfl ?_); (try (refine gate_guard (by rfl) ?_; dsimp only)); refine Kd.R_lit k26 _ 26 ?hg (N := 9) ?hd (xs := ([(⟨(⟨#[98]⟩ : ByteArray), (⟨#[49]⟩ : ByteArray)⟩ : S26)] : List (S26))) (inner := [.string (⟨#[98]⟩ : ByteArray), .string (⟨#[49]⟩ : ByteArray)]) (ok := fun _ => True) (okp := fun _ => True) ?hr ?hp (fun _ hk => hk) trivial (Below.refl _ _) (Nat.le_refl _) (by simp) ?_; (case hd => rfl); (case hg => rfl); (case hr => first | (go_simp; done) | (go_simp; rfl)); (case hp => exact (Reps.c2 (show Kd.M k26 _ _ _ (⟨(⟨#[98]⟩ : ByteArray), (⟨#[49]⟩ : ByteArray)⟩ : S26) [.string (⟨#[98]⟩ : ByteArray), .string (⟨#[49]⟩ : ByteArray)] from (k26_mkM _ _ _ (⟨(⟨#[98]⟩ : ByteArray), (⟨#[49]⟩ : ByteArray)⟩ : S26) )) (Reps.none _ _))); intro v368 w36 ho37 hb hg_ hnew_; clear hg_ hnew_; (first | rw [← Ny367.out] at ho37 | (simp only [Int.reduceToNat] at ho37; rw [← Ny367.out] at ho37)); have n0_ := Aside0.mk (Kd.R_lower ho37 (below_size (by repeat (first | (with_reducible first | exact HB.out | apply below_alloc | apply pw_below_drewN | apply below_drew1) | exact HB.out)))); have n1_ := Aside0.mk (below_step (by repeat (first | (with_reducible first | exact HB.out | apply below_alloc | apply pw_below_drewN | apply below_drew1) | exact HB.out)) hb); clear HB; have HO369 := n0_; have HB := n1_; clear n0_ n1_; clear hb ho37; obtain ⟨Ao38, co38, eo38⟩ := Kd.R_slice HO369.out; subst eo38) | ((with_reducible refine gate_callee (f := 14) rfl ?_); refine goesL_ (some 11) rfl rfl Try.func14 (by kernel_rfl) rfl #[.slice Ao38 y367.length co38, .agg #[.string (⟨#[97]⟩ : ByteArray), .string (⟨#[50]⟩ : ByteArray)]] rfl (by (try simp only [List.map_toArray, List.map_cons, List.map_nil]); first | done | rfl | (simp only [List.length_drop, List.length_take]; rfl)) ?_; (with_reducible refine (attr_Set.calls k _ _ y367 (⟨#[97]⟩ : ByteArray) (⟨#[50]⟩ : ByteArray) t370 t373 _ ?side1 ?side2 A1.out).mono ?_); (case side1 => repeat (first | exact (Kd.R_reads' HO369.out).2.2 | (with_reducible refine Kd.C_alloc ?_ _) | (with_reducible refine Kd.C_drewN ?_ _) | (with_reducible refine Kd.C_drew ?_))); (case side2 => exact (Kd.R_reads' HO369.out).2.1); rintro e w39 ⟨v371, rfl, ho0, hb⟩; refine ⟨_, rfl, ?_⟩; have n0_ := Aside0.mk (Kd.R_elder' (by (with_reducible repeat (first | apply Kd.R_alloc | apply Kd.R_drewN | apply Kd.R_drew)); exact HO369.out) (Kd.R_base ho0) hb); have n1_ := Aside0.mk (Kd.R_lower (Kd.R_new' ho0 (Kd.R_lt (by (with_reducible repeat (first | apply Kd.R_alloc | apply Kd.R_drewN | apply Kd.R_drew)); exact HO369.out))) (below_size (by repeat (first | (with_reducible first | exact HB.out | apply below_alloc | apply pw_below_drewN | apply below_drew1) | exact HB.out)))); have n2_ := Aside0.mk (below_step (by repeat (first | (with_reducible first | exact HB.out | apply below_alloc | apply pw_below_drewN | apply below_drew1) | exact HB.out)) hb); clear HO369; clear HB; have HO369 := n0_; have HO372 := n1_; have HB := n2_; clear n0_ n1_ n2_; (try clear hb); (try clear hb2); (try clear hk); (try clear hi); (try clear ho0); obtain ⟨Ao40, co40, eo40⟩ := Kd.R_slice HO372.out; subst eo40) | ((with_reducible refine gate_callee (f := 19) rfl ?_); refine goesL_ (some 16) rfl rfl Try.func19 (by kernel_rfl) rfl #[.slice Ao40 t370.length co40, .string (⟨#[98]⟩ : ByteArray)] rfl (by (try simp only [List.map_toArray, List.map_cons, List.map_nil]); first | done | rfl | (simp only [List.length_drop, List.length_take]; rfl)) ?_; (with_reducible refine (attr_Get.calls k _ _ t370 (⟨#[98]⟩ : ByteArray) t374 t375 _ ?side1 ?side2 A2.out).mono ?_); (case side1 => repeat (first | exact (Kd.R_reads' HO372.out).2.2 | (with_reducible refine Kd.C_alloc ?_ _) | (with_reducible refine Kd.C_drewN ?_ _) | (with_reducible refine Kd.C_drew ?_))); (case side2 => exact (Kd.R_reads' HO372.out).2.1); rintro e w41 ⟨rfl, hb⟩; refine ⟨_, rfl, ?_⟩; have n0_ := Aside0.mk (Kd.R_below (by (with_reducible repeat (first | apply Kd.R_alloc | apply Kd.R_drewN | apply Kd.R_drew)); exact HO369.out) hb); have n1_ := Aside0.mk (Kd.R_below (by (with_reducible repeat (first | apply Kd.R_alloc | apply Kd.R_drewN | apply Kd.R_drew)); exact HO372.out) hb); have n2_ := Aside0.mk (below_step (by repeat (first | (with_reducible first | exact HB.out | apply below_alloc | apply pw_below_drewN | apply below_drew1) | exact HB.out)) hb); clear HO369; clear HO372; clear HB; have HO369 := n0_; have HO372 := n1_; have HB := n2_; clear n0_ n1_ n2_; (try clear hb); (try clear hb2); (try clear hk); (try clear hi)) | ((with_reducible refine gate_callee (f := 21) rfl ?_); refine goesL_ (some 21) rfl rfl Try.func21 (by kernel_rfl) rfl #[.slice Ao40 t370.length co40] rfl (by (try simp only [List.map_toArray, List.map_cons, List.map_nil]); first | done | rfl | (simp only [List.length_drop, List.length_take]; rfl)) ?_; (with_reducible refine (attr_Encode.calls k _ _ t370 t376 t377 _ ?side1 ?side2 A3.out).mono ?_); (case side1 => repeat (first | exact (Kd.R_reads' HO372.out).2.2 | (with_reducible refine Kd.C_alloc ?_ _) | (with_reducible refine Kd.C_drewN ?_ _) | (with_reducible refine Kd.C_drew ?_))); (case side2 => exact (Kd.R_reads' HO372.out).2.1); rintro e w42 ⟨v378, rfl, ho0, hb⟩; refine ⟨_, rfl, ?_⟩; have n0_ := Aside0.mk (Kd.R_below (by (with_reducible repeat (first | apply Kd.R_alloc | apply Kd.R_drewN | apply Kd.R_drew)); exact HO369.out) hb); have n1_ := Aside0.mk (Kd.R_below (by (with_reducible repeat (first | apply Kd.R_alloc | apply Kd.R_drewN | apply Kd.R_drew)); exact HO372.out) hb); have n2_ := Aside0.mk (Kd.R_lower ho0 (below_size (by repeat (first | (with_reducible first | exact HB.out | apply below_alloc | apply pw_below_drewN | apply below_drew1) | exact HB.out)))); have n3_ := Aside0.mk (below_step (by repeat (first | (with_reducible first | exact HB.out | apply below_alloc | apply pw_below_drewN | apply below_drew1) | exact HB.out)) hb); clear HO369; clear HO372; clear HB; have HO369 := n0_; have HO372 := n1_; have HO379 := n2_; have HB := n3_; clear n0_ n1_ n2_ n3_; (try clear hb); (try clear hb2); (try clear hk); (try clear hi); (try clear ho0); have p380 : 0 ≤ (0 : Int) := (by omega); have q380 : 0 < (t370.length : Int) := of_decide_eq_true (by first | (with_reducible assumption) | assumption); obtain ⟨ad380, e380, hx380_0, hx380_1⟩ := at_T26 (Kd.R_reads' HO372.out).2.2 0 p380 q380; cases e380; have qi380 : (0 < t370.length) = True := eq_true (by omega); (try rw [show ((0 : Int)).toNat = 0 from rfl] at hx380_0); (try rw [show 0 * 2 = 0 from rfl] at hx380_0); (try rw [Addr.add_zero'] at hx380_0); (try rw [show ((0 : Int)).toNat = 0 from rfl] at hx380_1); (try rw [show 0 * 2 = 0 from rfl] at hx380_1); (try rw [Addr.add_zero'] at hx380_1); replace p380 := eq_true p380; replace q380 := eq_true q380))
              go_ret
              exact ⟨by first | rfl | (simp [errW_none, errW_some] <;> rfl) | (simp [*, errW_none, errW_some] <;> rfl), by repeat (first | (with_reducible first | exact HB.out | apply below_alloc | apply pw_below_drewN | apply below_drew1) | exact HB.out)⟩
          · rw [if_neg c8] at H
            have c8b0 : (t375 == 0) = false := beq_eq_false_iff_ne.mpr c8
            have c8b1 : (t375 != 0) = true := bne_iff_ne.mpr c8
            obtain rfl := Option.some.inj H
            go_enter Try.func13, Try.ntmps13
            go_wp2_with (first | ((with_reducible refine gate_dst (N := 9) rfl ?_); (try (refine gate_guard (by rfl) ?_; dsimp only)); refine Kd.R_lit k26 _ 26 ?hg (N := 9) ?hd (xs := ([(⟨(⟨#[98]⟩ : ByteArray), (⟨#[49]⟩ : ByteArray)⟩ : S26)] : List (S26))) (inner := [.string (⟨#[98]⟩ : ByteArray), .string (⟨#[49]⟩ : ByteArray)]) (ok := fun _ => True) (okp := fun _ => True) ?hr ?hp (fun _ hk => hk) trivial (Below.refl _ _) (Nat.le_refl _) (by simp) ?_; (case hd => rfl); (case hg => rfl); (case hr => first | (go_simp; done) | (go_simp; rfl)); (case hp => exact (Reps.c2 (show Kd.M k26 _ _ _ (⟨(⟨#[98]⟩ : ByteArray), (⟨#[49]⟩ : ByteArray)⟩ : S26) [.string (⟨#[98]⟩ : ByteArray), .string (⟨#[49]⟩ : ByteArray)] from (k26_mkM _ _ _ (⟨(⟨#[98]⟩ : ByteArray), (⟨#[49]⟩ : ByteArray)⟩ : S26) )) (Reps.none _ _))); intro v368 w43 ho44 hb hg_ hnew_; clear hg_ hnew_; (first | rw [← Ny367.out] at ho44 | (simp only [Int.reduceToNat] at ho44; rw [← Ny367.out] at ho44)); have n0_ := Aside0.mk (Kd.R_lower ho44 (below_size (by repeat (first | (with_reducible first | exact HB.out | apply below_alloc | apply pw_below_drewN | apply below_drew1) | exact HB.out)))); have n1_ := Aside0.mk (below_step (by repeat (first | (with_reducible first | exact HB.out | apply below_alloc | apply pw_below_drewN | apply below_drew1) | exact HB.out)) hb); clear HB; have HO369 := n0_; have HB := n1_; clear n0_ n1_; clear hb ho44; obtain ⟨Ao45, co45, eo45⟩ := Kd.R_slice HO369.out; subst eo45) | ((with_reducible refine gate_callee (f := 14) rfl ?_); refine goesL_ (some 11) rfl rfl Try.func14 (by kernel_rfl) rfl #[.slice Ao45 y367.length co45, .agg #[.string (⟨#[97]⟩ : ByteArray), .string (⟨#[50]⟩ : ByteArray)]] rfl (by (try simp only [List.map_toArray, List.map_cons, List.map_nil]); first | done | rfl | (simp only [List.length_drop, List.length_take]; rfl)) ?_; (with_reducible refine (attr_Set.calls k _ _ y367 (⟨#[97]⟩ : ByteArray) (⟨#[50]⟩ : ByteArray) t370 t373 _ ?side1 ?side2 A1.out).mono ?_); (case side1 => repeat (first | exact (Kd.R_reads' HO369.out).2.2 | (with_reducible refine Kd.C_alloc ?_ _) | (with_reducible refine Kd.C_drewN ?_ _) | (with_reducible refine Kd.C_drew ?_))); (case side2 => exact (Kd.R_reads' HO369.out).2.1); rintro e w46 ⟨v371, rfl, ho0, hb⟩; refine ⟨_, rfl, ?_⟩; have n0_ := Aside0.mk (Kd.R_elder' (by (with_reducible repeat (first | apply Kd.R_alloc | apply Kd.R_drewN | apply Kd.R_drew)); exact HO369.out) (Kd.R_base ho0) hb); have n1_ := Aside0.mk (Kd.R_lower (Kd.R_new' ho0 (Kd.R_lt (by (with_reducible repeat (first | apply Kd.R_alloc | apply Kd.R_drewN | apply Kd.R_drew)); exact HO369.out))) (below_size (by repeat (first | (with_reducible first | exact HB.out | apply below_alloc | apply pw_below_drewN | apply below_drew1) | exact HB.out)))); have n2_ := Aside0.mk (below_step (by repeat (first | (with_reducible first | exact HB.out | apply below_alloc | apply pw_below_drewN | apply below_drew1) | exact HB.out)) hb); clear HO369; clear HB; have HO369 := n0_; have HO372 := n1_; have HB := n2_; clear n0_ n1_ n2_; (try clear hb); (try clear hb2); (try clear hk); (try clear hi); (try clear ho0); obtain ⟨Ao47, co47, eo47⟩ := Kd.R_slice HO372.out; subst eo47) | ((with_reducible refine gate_callee (f := 19) rfl ?_); refine goesL_ (some 16) rfl rfl Try.func19 (by kernel_rfl) rfl #[.slice Ao47 t370.length co47, .string (⟨#[98]⟩ : ByteArray)] rfl (by (try simp only [List.map_toArray, List.map_cons, List.map_nil]); first | done | rfl | (simp only [List.length_drop, List.length_take]; rfl)) ?_; (with_reducible refine (attr_Get.calls k _ _ t370 (⟨#[98]⟩ : ByteArray) t374 t375 _ ?side1 ?side2 A2.out).mono ?_); (case side1 => repeat (first | exact (Kd.R_reads' HO372.out).2.2 | (with_reducible refine Kd.C_alloc ?_ _) | (with_reducible refine Kd.C_drewN ?_ _) | (with_reducible refine Kd.C_drew ?_))); (case side2 => exact (Kd.R_reads' HO372.out).2.1); rintro e w48 ⟨rfl, hb⟩; refine ⟨_, rfl, ?_⟩; have n0_ := Aside0.mk (Kd.R_below (by (with_reducible repeat (first | apply Kd.R_alloc | apply Kd.R_drewN | apply Kd.R_drew)); exact HO369.out) hb); have n1_ := Aside0.mk (Kd.R_below (by (with_reducible repeat (first | apply Kd.R_alloc | apply Kd.R_drewN | apply Kd.R_drew)); exact HO372.out) hb); have n2_ := Aside0.mk (below_step (by repeat (first | (with_reducible first | exact HB.out | apply below_alloc | apply pw_below_drewN | apply below_drew1) | exact HB.out)) hb); clear HO369; clear HO372; clear HB; have HO369 := n0_; have HO372 := n1_; have HB := n2_; clear n0_ n1_ n2_; (try clear hb); (try clear hb2); (try clear hk); (try clear hi)) | ((with_reducible refine gate_callee (f := 21) rfl ?_); refine goesL_ (some 21) rfl rfl Try.func21 (by kernel_rfl) rfl #[.slice Ao47 t370.length co47] rfl (by (try simp only [List.map_toArray, List.map_cons, List.map_nil]); first | done | rfl | (simp only [List.length_drop, List.length_take]; rfl)) ?_; (with_reducible refine (attr_Encode.calls k _ _ t370 t376 t377 _ ?side1 ?side2 A3.out).mono ?_); (case side1 => repeat (first | exact (Kd.R_reads' HO372.out).2.2 | (with_reducible refine Kd.C_alloc ?_ _) | (with_reducible refine Kd.C_drewN ?_ _) | (with_reducible refine Kd.C_drew ?_))); (case side2 => exact (Kd.R_reads' HO372.out).2.1); rintro e w49 ⟨v378, rfl, ho0, hb⟩; refine ⟨_, rfl, ?_⟩; have n0_ := Aside0.mk (Kd.R_below (by (with_reducible repeat (first | apply Kd.R_alloc | apply Kd.R_drewN | apply Kd.R_drew)); exact HO369.out) hb); have n1_ := Aside0.mk (Kd.R_below (by (with_reducible repeat (first | apply Kd.R_alloc | apply Kd.R_drewN | apply Kd.R_drew)); exact HO372.out) hb); have n2_ := Aside0.mk (Kd.R_lower ho0 (below_size (by repeat (first | (with_reducible first | exact HB.out | apply below_alloc | apply pw_below_drewN | apply below_drew1) | exact HB.out)))); have n3_ := Aside0.mk (below_step (by repeat (first | (with_reducible first | exact HB.out | apply below_alloc | apply pw_below_drewN | apply below_drew1) | exact HB.out)) hb); clear HO369; clear HO372; clear HB; have HO369 := n0_; have HO372 := n1_; have HO379 := n2_; have HB := n3_; clear n0_ n1_ n2_ n3_; (try clear hb); (try clear hb2); (try clear hk); (try clear hi); (try clear ho0); have p380 : 0 ≤ (0 : Int) := (by omega); have q380 : 0 < (t370.length : Int) := of_decide_eq_true (by first | (with_reducible assumption) | assumption); obtain ⟨ad380, e380, hx380_0, hx380_1⟩ := at_T26 (Kd.R_reads' HO372.out).2.2 0 p380 q380; cases e380; have qi380 : (0 < t370.length) = True := eq_true (by omega); (try rw [show ((0 : Int)).toNat = 0 from rfl] at hx380_0); (try rw [show 0 * 2 = 0 from rfl] at hx380_0); (try rw [Addr.add_zero'] at hx380_0); (try rw [show ((0 : Int)).toNat = 0 from rfl] at hx380_1); (try rw [show 0 * 2 = 0 from rfl] at hx380_1); (try rw [Addr.add_zero'] at hx380_1); replace p380 := eq_true p380; replace q380 := eq_true q380))
            go_ret
            exact ⟨by first | rfl | (simp [errW_none, errW_some] <;> rfl) | (simp [*, errW_none, errW_some] <;> rfl), by repeat (first | (with_reducible first | exact HB.out | apply below_alloc | apply pw_below_drewN | apply below_drew1) | exact HB.out)⟩
        · rw [if_neg c7] at H
          have c7b0 : (((rd_T26 t370 0).f0).toList == ([97] : List UInt8)) = false := beq_eq_false_iff_ne.mpr c7
          have c7b1 : (((rd_T26 t370 0).f0).toList != ([97] : List UInt8)) = true := bne_iff_ne.mpr c7
          obtain rfl := Option.some.inj H
          go_enter Try.func13, Try.ntmps13
          go_wp2_with (first | ((with_reducible refine gate_dst (N := 9) rfl ?_); (try (refine gate_guard (by rfl) ?_; dsimp only)); refine Kd.R_lit k26 _ 26 ?hg (N := 9) ?hd (xs := ([(⟨(⟨#[98]⟩ : ByteArray), (⟨#[49]⟩ : ByteArray)⟩ : S26)] : List (S26))) (inner := [.string (⟨#[98]⟩ : ByteArray), .string (⟨#[49]⟩ : ByteArray)]) (ok := fun _ => True) (okp := fun _ => True) ?hr ?hp (fun _ hk => hk) trivial (Below.refl _ _) (Nat.le_refl _) (by simp) ?_; (case hd => rfl); (case hg => rfl); (case hr => first | (go_simp; done) | (go_simp; rfl)); (case hp => exact (Reps.c2 (show Kd.M k26 _ _ _ (⟨(⟨#[98]⟩ : ByteArray), (⟨#[49]⟩ : ByteArray)⟩ : S26) [.string (⟨#[98]⟩ : ByteArray), .string (⟨#[49]⟩ : ByteArray)] from (k26_mkM _ _ _ (⟨(⟨#[98]⟩ : ByteArray), (⟨#[49]⟩ : ByteArray)⟩ : S26) )) (Reps.none _ _))); intro v368 w50 ho51 hb hg_ hnew_; clear hg_ hnew_; (first | rw [← Ny367.out] at ho51 | (simp only [Int.reduceToNat] at ho51; rw [← Ny367.out] at ho51)); have n0_ := Aside0.mk (Kd.R_lower ho51 (below_size (by repeat (first | (with_reducible first | exact HB.out | apply below_alloc | apply pw_below_drewN | apply below_drew1) | exact HB.out)))); have n1_ := Aside0.mk (below_step (by repeat (first | (with_reducible first | exact HB.out | apply below_alloc | apply pw_below_drewN | apply below_drew1) | exact HB.out)) hb); clear HB; have HO369 := n0_; have HB := n1_; clear n0_ n1_; clear hb ho51; obtain ⟨Ao52, co52, eo52⟩ := Kd.R_slice HO369.out; subst eo52) | ((with_reducible refine gate_callee (f := 14) rfl ?_); refine goesL_ (some 11) rfl rfl Try.func14 (by kernel_rfl) rfl #[.slice Ao52 y367.length co52, .agg #[.string (⟨#[97]⟩ : ByteArray), .string (⟨#[50]⟩ : ByteArray)]] rfl (by (try simp only [List.map_toArray, List.map_cons, List.map_nil]); first | done | rfl | (simp only [List.length_drop, List.length_take]; rfl)) ?_; (with_reducible refine (attr_Set.calls k _ _ y367 (⟨#[97]⟩ : ByteArray) (⟨#[50]⟩ : ByteArray) t370 t373 _ ?side1 ?side2 A1.out).mono ?_); (case side1 => repeat (first | exact (Kd.R_reads' HO369.out).2.2 | (with_reducible refine Kd.C_alloc ?_ _) | (with_reducible refine Kd.C_drewN ?_ _) | (with_reducible refine Kd.C_drew ?_))); (case side2 => exact (Kd.R_reads' HO369.out).2.1); rintro e w53 ⟨v371, rfl, ho0, hb⟩; refine ⟨_, rfl, ?_⟩; have n0_ := Aside0.mk (Kd.R_elder' (by (with_reducible repeat (first | apply Kd.R_alloc | apply Kd.R_drewN | apply Kd.R_drew)); exact HO369.out) (Kd.R_base ho0) hb); have n1_ := Aside0.mk (Kd.R_lower (Kd.R_new' ho0 (Kd.R_lt (by (with_reducible repeat (first | apply Kd.R_alloc | apply Kd.R_drewN | apply Kd.R_drew)); exact HO369.out))) (below_size (by repeat (first | (with_reducible first | exact HB.out | apply below_alloc | apply pw_below_drewN | apply below_drew1) | exact HB.out)))); have n2_ := Aside0.mk (below_step (by repeat (first | (with_reducible first | exact HB.out | apply below_alloc | apply pw_below_drewN | apply below_drew1) | exact HB.out)) hb); clear HO369; clear HB; have HO369 := n0_; have HO372 := n1_; have HB := n2_; clear n0_ n1_ n2_; (try clear hb); (try clear hb2); (try clear hk); (try clear hi); (try clear ho0); obtain ⟨Ao54, co54, eo54⟩ := Kd.R_slice HO372.out; subst eo54) | ((with_reducible refine gate_callee (f := 19) rfl ?_); refine goesL_ (some 16) rfl rfl Try.func19 (by kernel_rfl) rfl #[.slice Ao54 t370.length co54, .string (⟨#[98]⟩ : ByteArray)] rfl (by (try simp only [List.map_toArray, List.map_cons, List.map_nil]); first | done | rfl | (simp only [List.length_drop, List.length_take]; rfl)) ?_; (with_reducible refine (attr_Get.calls k _ _ t370 (⟨#[98]⟩ : ByteArray) t374 t375 _ ?side1 ?side2 A2.out).mono ?_); (case side1 => repeat (first | exact (Kd.R_reads' HO372.out).2.2 | (with_reducible refine Kd.C_alloc ?_ _) | (with_reducible refine Kd.C_drewN ?_ _) | (with_reducible refine Kd.C_drew ?_))); (case side2 => exact (Kd.R_reads' HO372.out).2.1); rintro e w55 ⟨rfl, hb⟩; refine ⟨_, rfl, ?_⟩; have n0_ := Aside0.mk (Kd.R_below (by (with_reducible repeat (first | apply Kd.R_alloc | apply Kd.R_drewN | apply Kd.R_drew)); exact HO369.out) hb); have n1_ := Aside0.mk (Kd.R_below (by (with_reducible repeat (first | apply Kd.R_alloc | apply Kd.R_drewN | apply Kd.R_drew)); exact HO372.out) hb); have n2_ := Aside0.mk (below_step (by repeat (first | (with_reducible first | exact HB.out | apply below_alloc | apply pw_below_drewN | apply below_drew1) | exact HB.out)) hb); clear HO369; clear HO372; clear HB; have HO369 := n0_; have HO372 := n1_; have HB := n2_; clear n0_ n1_ n2_; (try clear hb); (try clear hb2); (try clear hk); (try clear hi)) | ((with_reducible refine gate_callee (f := 21) rfl ?_); refine goesL_ (some 21) rfl rfl Try.func21 (by kernel_rfl) rfl #[.slice Ao54 t370.length co54] rfl (by (try simp only [List.map_toArray, List.map_cons, List.map_nil]); first | done | rfl | (simp only [List.length_drop, List.length_take]; rfl)) ?_; (with_reducible refine (attr_Encode.calls k _ _ t370 t376 t377 _ ?side1 ?side2 A3.out).mono ?_); (case side1 => repeat (first | exact (Kd.R_reads' HO372.out).2.2 | (with_reducible refine Kd.C_alloc ?_ _) | (with_reducible refine Kd.C_drewN ?_ _) | (with_reducible refine Kd.C_drew ?_))); (case side2 => exact (Kd.R_reads' HO372.out).2.1); rintro e w56 ⟨v378, rfl, ho0, hb⟩; refine ⟨_, rfl, ?_⟩; have n0_ := Aside0.mk (Kd.R_below (by (with_reducible repeat (first | apply Kd.R_alloc | apply Kd.R_drewN | apply Kd.R_drew)); exact HO369.out) hb); have n1_ := Aside0.mk (Kd.R_below (by (with_reducible repeat (first | apply Kd.R_alloc | apply Kd.R_drewN | apply Kd.R_drew)); exact HO372.out) hb); have n2_ := Aside0.mk (Kd.R_lower ho0 (below_size (by repeat (first | (with_reducible first | exact HB.out | apply below_alloc | apply pw_below_drewN | apply below_drew1) | exact HB.out)))); have n3_ := Aside0.mk (below_step (by repeat (first | (with_reducible first | exact HB.out | apply below_alloc | apply pw_below_drewN | apply below_drew1) | exact HB.out)) hb); clear HO369; clear HO372; clear HB; have HO369 := n0_; have HO372 := n1_; have HO379 := n2_; have HB := n3_; clear n0_ n1_ n2_ n3_; (try clear hb); (try clear hb2); (try clear hk); (try clear hi); (try clear ho0); have p380 : 0 ≤ (0 : Int) := (by omega); have q380 : 0 < (t370.length : Int) := of_decide_eq_true (by first | (with_reducible assumption) | assumption); obtain ⟨ad380, e380, hx380_0, hx380_1⟩ := at_T26 (Kd.R_reads' HO372.out).2.2 0 p380 q380; cases e380; have qi380 : (0 < t370.length) = True := eq_true (by omega); (try rw [show ((0 : Int)).toNat = 0 from rfl] at hx380_0); (try rw [show 0 * 2 = 0 from rfl] at hx380_0); (try rw [Addr.add_zero'] at hx380_0); (try rw [show ((0 : Int)).toNat = 0 from rfl] at hx380_1); (try rw [show 0 * 2 = 0 from rfl] at hx380_1); (try rw [Addr.add_zero'] at hx380_1); replace p380 := eq_true p380; replace q380 := eq_true q380))
          go_ret
          exact ⟨by first | rfl | (simp [errW_none, errW_some] <;> rfl) | (simp [*, errW_none, errW_some] <;> rfl), by repeat (first | (with_reducible first | exact HB.out | apply below_alloc | apply pw_below_drewN | apply below_drew1) | exact HB.out)⟩
      · rw [if_neg c6] at H
        exact absurd H (by simp)
    · rw [if_neg c5] at H
      have c5b0 : ((t370.length : Int) == 2) = false := beq_eq_false_iff_ne.mpr c5
      have c5b1 : ((t370.length : Int) != 2) = true := bne_iff_ne.mpr c5
      obtain rfl := Option.some.inj H
      go_enter Try.func13, Try.ntmps13
      go_wp2_with (first | ((with_reducible refine gate_dst (N := 9) rfl ?_); (try (refine gate_guard (by rfl) ?_; dsimp only)); refine Kd.R_lit k26 _ 26 ?hg (N := 9) ?hd (xs := ([(⟨(⟨#[98]⟩ : ByteArray), (⟨#[49]⟩ : ByteArray)⟩ : S26)] : List (S26))) (inner := [.string (⟨#[98]⟩ : ByteArray), .string (⟨#[49]⟩ : ByteArray)]) (ok := fun _ => True) (okp := fun _ => True) ?hr ?hp (fun _ hk => hk) trivial (Below.refl _ _) (Nat.le_refl _) (by simp) ?_; (case hd => rfl); (case hg => rfl); (case hr => first | (go_simp; done) | (go_simp; rfl)); (case hp => exact (Reps.c2 (show Kd.M k26 _ _ _ (⟨(⟨#[98]⟩ : ByteArray), (⟨#[49]⟩ : ByteArray)⟩ : S26) [.string (⟨#[98]⟩ : ByteArray), .string (⟨#[49]⟩ : ByteArray)] from (k26_mkM _ _ _ (⟨(⟨#[98]⟩ : ByteArray), (⟨#[49]⟩ : ByteArray)⟩ : S26) )) (Reps.none _ _))); intro v368 w57 ho58 hb hg_ hnew_; clear hg_ hnew_; (first | rw [← Ny367.out] at ho58 | (simp only [Int.reduceToNat] at ho58; rw [← Ny367.out] at ho58)); have n0_ := Aside0.mk (Kd.R_lower ho58 (below_size (by repeat (first | (with_reducible first | exact HB.out | apply below_alloc | apply pw_below_drewN | apply below_drew1) | exact HB.out)))); have n1_ := Aside0.mk (below_step (by repeat (first | (with_reducible first | exact HB.out | apply below_alloc | apply pw_below_drewN | apply below_drew1) | exact HB.out)) hb); clear HB; have HO369 := n0_; have HB := n1_; clear n0_ n1_; clear hb ho58; obtain ⟨Ao59, co59, eo59⟩ := Kd.R_slice HO369.out; subst eo59) | ((with_reducible refine gate_callee (f := 14) rfl ?_); refine goesL_ (some 11) rfl rfl Try.func14 (by kernel_rfl) rfl #[.slice Ao59 y367.length co59, .agg #[.string (⟨#[97]⟩ : ByteArray), .string (⟨#[50]⟩ : ByteArray)]] rfl (by (try simp only [List.map_toArray, List.map_cons, List.map_nil]); first | done | rfl | (simp only [List.length_drop, List.length_take]; rfl)) ?_; (with_reducible refine (attr_Set.calls k _ _ y367 (⟨#[97]⟩ : ByteArray) (⟨#[50]⟩ : ByteArray) t370 t373 _ ?side1 ?side2 A1.out).mono ?_); (case side1 => repeat (first | exact (Kd.R_reads' HO369.out).2.2 | (with_reducible refine Kd.C_alloc ?_ _) | (with_reducible refine Kd.C_drewN ?_ _) | (with_reducible refine Kd.C_drew ?_))); (case side2 => exact (Kd.R_reads' HO369.out).2.1); rintro e w60 ⟨v371, rfl, ho0, hb⟩; refine ⟨_, rfl, ?_⟩; have n0_ := Aside0.mk (Kd.R_elder' (by (with_reducible repeat (first | apply Kd.R_alloc | apply Kd.R_drewN | apply Kd.R_drew)); exact HO369.out) (Kd.R_base ho0) hb); have n1_ := Aside0.mk (Kd.R_lower (Kd.R_new' ho0 (Kd.R_lt (by (with_reducible repeat (first | apply Kd.R_alloc | apply Kd.R_drewN | apply Kd.R_drew)); exact HO369.out))) (below_size (by repeat (first | (with_reducible first | exact HB.out | apply below_alloc | apply pw_below_drewN | apply below_drew1) | exact HB.out)))); have n2_ := Aside0.mk (below_step (by repeat (first | (with_reducible first | exact HB.out | apply below_alloc | apply pw_below_drewN | apply below_drew1) | exact HB.out)) hb); clear HO369; clear HB; have HO369 := n0_; have HO372 := n1_; have HB := n2_; clear n0_ n1_ n2_; (try clear hb); (try clear hb2); (try clear hk); (try clear hi); (try clear ho0); obtain ⟨Ao61, co61, eo61⟩ := Kd.R_slice HO372.out; subst eo61) | ((with_reducible refine gate_callee (f := 19) rfl ?_); refine goesL_ (some 16) rfl rfl Try.func19 (by kernel_rfl) rfl #[.slice Ao61 t370.length co61, .string (⟨#[98]⟩ : ByteArray)] rfl (by (try simp only [List.map_toArray, List.map_cons, List.map_nil]); first | done | rfl | (simp only [List.length_drop, List.length_take]; rfl)) ?_; (with_reducible refine (attr_Get.calls k _ _ t370 (⟨#[98]⟩ : ByteArray) t374 t375 _ ?side1 ?side2 A2.out).mono ?_); (case side1 => repeat (first | exact (Kd.R_reads' HO372.out).2.2 | (with_reducible refine Kd.C_alloc ?_ _) | (with_reducible refine Kd.C_drewN ?_ _) | (with_reducible refine Kd.C_drew ?_))); (case side2 => exact (Kd.R_reads' HO372.out).2.1); rintro e w62 ⟨rfl, hb⟩; refine ⟨_, rfl, ?_⟩; have n0_ := Aside0.mk (Kd.R_below (by (with_reducible repeat (first | apply Kd.R_alloc | apply Kd.R_drewN | apply Kd.R_drew)); exact HO369.out) hb); have n1_ := Aside0.mk (Kd.R_below (by (with_reducible repeat (first | apply Kd.R_alloc | apply Kd.R_drewN | apply Kd.R_drew)); exact HO372.out) hb); have n2_ := Aside0.mk (below_step (by repeat (first | (with_reducible first | exact HB.out | apply below_alloc | apply pw_below_drewN | apply below_drew1) | exact HB.out)) hb); clear HO369; clear HO372; clear HB; have HO369 := n0_; have HO372 := n1_; have HB := n2_; clear n0_ n1_ n2_; (try clear hb); (try clear hb2); (try clear hk); (try clear hi)) | ((with_reducible refine gate_callee (f := 21) rfl ?_); refine goesL_ (some 21) rfl rfl Try.func21 (by kernel_rfl) rfl #[.slice Ao61 t370.length co61] rfl (by (try simp only [List.map_toArray, List.map_cons, List.map_nil]); first | done | rfl | (simp only [List.length_drop, List.length_take]; rfl)) ?_; (with_reducible refine (attr_Encode.calls k _ _ t370 t376 t377 _ ?side1 ?side2 A3.out).mono ?_); (case side1 => repeat (first | exact (Kd.R_reads' HO372.out).2.2 | (with_reducible refine Kd.C_alloc ?_ _) | (with_reducible refine Kd.C_drewN ?_ _) | (with_reducible refine Kd.C_drew ?_))); (case side2 => exact (Kd.R_reads' HO372.out).2.1); rintro e w63 ⟨v378, rfl, ho0, hb⟩; refine ⟨_, rfl, ?_⟩; have n0_ := Aside0.mk (Kd.R_below (by (with_reducible repeat (first | apply Kd.R_alloc | apply Kd.R_drewN | apply Kd.R_drew)); exact HO369.out) hb); have n1_ := Aside0.mk (Kd.R_below (by (with_reducible repeat (first | apply Kd.R_alloc | apply Kd.R_drewN | apply Kd.R_drew)); exact HO372.out) hb); have n2_ := Aside0.mk (Kd.R_lower ho0 (below_size (by repeat (first | (with_reducible first | exact HB.out | apply below_alloc | apply pw_below_drewN | apply below_drew1) | exact HB.out)))); have n3_ := Aside0.mk (below_step (by repeat (first | (with_reducible first | exact HB.out | apply below_alloc | apply pw_below_drewN | apply below_drew1) | exact HB.out)) hb); clear HO369; clear HO372; clear HB; have HO369 := n0_; have HO372 := n1_; have HO379 := n2_; have HB := n3_; clear n0_ n1_ n2_ n3_; (try clear hb); (try clear hb2); (try clear hk); (try clear hi); (try clear ho0)))
      go_ret
      exact ⟨by first | rfl | (simp [errW_none, errW_some] <;> rfl) | (simp [*, errW_none, errW_some] <;> rfl), by repeat (first | (with_reducible first | exact HB.out | apply below_alloc | apply pw_below_drewN | apply below_drew1) | exact HB.out)⟩
  · rw [if_neg c4] at H
    have c4b0 : (t373 == 0) = false := beq_eq_false_iff_ne.mpr c4
    have c4b1 : (t373 != 0) = true := bne_iff_ne.mpr c4
    obtain rfl := Option.some.inj H
    go_enter Try.func13, Try.ntmps13
    go_wp2_with (first | ((with_reducible refine gate_dst (N := 9) rfl ?_); (try (refine gate_guard (by rfl) ?_; dsimp only)); refine Kd.R_lit k26 _ 26 ?hg (N := 9) ?hd (xs := ([(⟨(⟨#[98]⟩ : ByteArray), (⟨#[49]⟩ : ByteArray)⟩ : S26)] : List (S26))) (inner := [.string (⟨#[98]⟩ : ByteArray), .string (⟨#[49]⟩ : ByteArray)]) (ok := fun _ => True) (okp := fun _ => True) ?hr ?hp (fun _ hk => hk) trivial (Below.refl _ _) (Nat.le_refl _) (by simp) ?_; (case hd => rfl); (case hg => rfl); (case hr => first | (go_simp; done) | (go_simp; rfl)); (case hp => exact (Reps.c2 (show Kd.M k26 _ _ _ (⟨(⟨#[98]⟩ : ByteArray), (⟨#[49]⟩ : ByteArray)⟩ : S26) [.string (⟨#[98]⟩ : ByteArray), .string (⟨#[49]⟩ : ByteArray)] from (k26_mkM _ _ _ (⟨(⟨#[98]⟩ : ByteArray), (⟨#[49]⟩ : ByteArray)⟩ : S26) )) (Reps.none _ _))); intro v368 w64 ho65 hb hg_ hnew_; clear hg_ hnew_; (first | rw [← Ny367.out] at ho65 | (simp only [Int.reduceToNat] at ho65; rw [← Ny367.out] at ho65)); have n0_ := Aside0.mk (Kd.R_lower ho65 (below_size (by repeat (first | (with_reducible first | exact HB.out | apply below_alloc | apply pw_below_drewN | apply below_drew1) | exact HB.out)))); have n1_ := Aside0.mk (below_step (by repeat (first | (with_reducible first | exact HB.out | apply below_alloc | apply pw_below_drewN | apply below_drew1) | exact HB.out)) hb); clear HB; have HO369 := n0_; have HB := n1_; clear n0_ n1_; clear hb ho65; obtain ⟨Ao66, co66, eo66⟩ := Kd.R_slice HO369.out; subst eo66) | ((with_reducible refine gate_callee (f := 14) rfl ?_); refine goesL_ (some 11) rfl rfl Try.func14 (by kernel_rfl) rfl #[.slice Ao66 y367.length co66, .agg #[.string (⟨#[97]⟩ : ByteArray), .string (⟨#[50]⟩ : ByteArray)]] rfl (by (try simp only [List.map_toArray, List.map_cons, List.map_nil]); first | done | rfl | (simp only [List.length_drop, List.length_take]; rfl)) ?_; (with_reducible refine (attr_Set.calls k _ _ y367 (⟨#[97]⟩ : ByteArray) (⟨#[50]⟩ : ByteArray) t370 t373 _ ?side1 ?side2 A1.out).mono ?_); (case side1 => repeat (first | exact (Kd.R_reads' HO369.out).2.2 | (with_reducible refine Kd.C_alloc ?_ _) | (with_reducible refine Kd.C_drewN ?_ _) | (with_reducible refine Kd.C_drew ?_))); (case side2 => exact (Kd.R_reads' HO369.out).2.1); rintro e w67 ⟨v371, rfl, ho0, hb⟩; refine ⟨_, rfl, ?_⟩; have n0_ := Aside0.mk (Kd.R_elder' (by (with_reducible repeat (first | apply Kd.R_alloc | apply Kd.R_drewN | apply Kd.R_drew)); exact HO369.out) (Kd.R_base ho0) hb); have n1_ := Aside0.mk (Kd.R_lower (Kd.R_new' ho0 (Kd.R_lt (by (with_reducible repeat (first | apply Kd.R_alloc | apply Kd.R_drewN | apply Kd.R_drew)); exact HO369.out))) (below_size (by repeat (first | (with_reducible first | exact HB.out | apply below_alloc | apply pw_below_drewN | apply below_drew1) | exact HB.out)))); have n2_ := Aside0.mk (below_step (by repeat (first | (with_reducible first | exact HB.out | apply below_alloc | apply pw_below_drewN | apply below_drew1) | exact HB.out)) hb); clear HO369; clear HB; have HO369 := n0_; have HO372 := n1_; have HB := n2_; clear n0_ n1_ n2_; (try clear hb); (try clear hb2); (try clear hk); (try clear hi); (try clear ho0); obtain ⟨Ao68, co68, eo68⟩ := Kd.R_slice HO372.out; subst eo68) | ((with_reducible refine gate_callee (f := 19) rfl ?_); refine goesL_ (some 16) rfl rfl Try.func19 (by kernel_rfl) rfl #[.slice Ao68 t370.length co68, .string (⟨#[98]⟩ : ByteArray)] rfl (by (try simp only [List.map_toArray, List.map_cons, List.map_nil]); first | done | rfl | (simp only [List.length_drop, List.length_take]; rfl)) ?_; (with_reducible refine (attr_Get.calls k _ _ t370 (⟨#[98]⟩ : ByteArray) t374 t375 _ ?side1 ?side2 A2.out).mono ?_); (case side1 => repeat (first | exact (Kd.R_reads' HO372.out).2.2 | (with_reducible refine Kd.C_alloc ?_ _) | (with_reducible refine Kd.C_drewN ?_ _) | (with_reducible refine Kd.C_drew ?_))); (case side2 => exact (Kd.R_reads' HO372.out).2.1); rintro e w69 ⟨rfl, hb⟩; refine ⟨_, rfl, ?_⟩; have n0_ := Aside0.mk (Kd.R_below (by (with_reducible repeat (first | apply Kd.R_alloc | apply Kd.R_drewN | apply Kd.R_drew)); exact HO369.out) hb); have n1_ := Aside0.mk (Kd.R_below (by (with_reducible repeat (first | apply Kd.R_alloc | apply Kd.R_drewN | apply Kd.R_drew)); exact HO372.out) hb); have n2_ := Aside0.mk (below_step (by repeat (first | (with_reducible first | exact HB.out | apply below_alloc | apply pw_below_drewN | apply below_drew1) | exact HB.out)) hb); clear HO369; clear HO372; clear HB; have HO369 := n0_; have HO372 := n1_; have HB := n2_; clear n0_ n1_ n2_; (try clear hb); (try clear hb2); (try clear hk); (try clear hi)) | ((with_reducible refine gate_callee (f := 21) rfl ?_); refine goesL_ (some 21) rfl rfl Try.func21 (by kernel_rfl) rfl #[.slice Ao68 t370.length co68] rfl (by (try simp only [List.map_toArray, List.map_cons, List.map_nil]); first | done | rfl | (simp only [List.length_drop, List.length_take]; rfl)) ?_; (with_reducible refine (attr_Encode.calls k _ _ t370 t376 t377 _ ?side1 ?side2 A3.out).mono ?_); (case side1 => repeat (first | exact (Kd.R_reads' HO372.out).2.2 | (with_reducible refine Kd.C_alloc ?_ _) | (with_reducible refine Kd.C_drewN ?_ _) | (with_reducible refine Kd.C_drew ?_))); (case side2 => exact (Kd.R_reads' HO372.out).2.1); rintro e w70 ⟨v378, rfl, ho0, hb⟩; refine ⟨_, rfl, ?_⟩; have n0_ := Aside0.mk (Kd.R_below (by (with_reducible repeat (first | apply Kd.R_alloc | apply Kd.R_drewN | apply Kd.R_drew)); exact HO369.out) hb); have n1_ := Aside0.mk (Kd.R_below (by (with_reducible repeat (first | apply Kd.R_alloc | apply Kd.R_drewN | apply Kd.R_drew)); exact HO372.out) hb); have n2_ := Aside0.mk (Kd.R_lower ho0 (below_size (by repeat (first | (with_reducible first | exact HB.out | apply below_alloc | apply pw_below_drewN | apply below_drew1) | exact HB.out)))); have n3_ := Aside0.mk (below_step (by repeat (first | (with_reducible first | exact HB.out | apply below_alloc | apply pw_below_drewN | apply below_drew1) | exact HB.out)) hb); clear HO369; clear HO372; clear HB; have HO369 := n0_; have HO372 := n1_; have HO379 := n2_; have HB := n3_; clear n0_ n1_ n2_ n3_; (try clear hb); (try clear hb2); (try clear hk); (try clear hi); (try clear ho0)))
    go_ret
    exact ⟨by first | rfl | (simp [errW_none, errW_some] <;> rfl) | (simp [*, errW_none, errW_some] <;> rfl), by repeat (first | (with_reducible first | exact HB.out | apply below_alloc | apply pw_below_drewN | apply below_drew1) | exact HB.out)⟩
end Go.Proofs.Ytffaggckhneakaa.Pr
end
section
namespace Go.Proofs.Ytffaggckhneakaa.At
open Go.RowKit Go.Proofs.YtffaggckhneakaaW.PrintWords Go.Proofs.YtffaggckhneakaaW.PrintMore Go.Proofs.Ytffaggckhneakaa.Pr Go.Proofs.Ytffaggckhneakaa.Od Go.Proofs.Ytffaggckhneakaa.Cr
set_option linter.unusedVariables false
set_option linter.unusedSimpArgs false
def Fits (l : List E) : Prop := l.length ≤ 4398046510976
theorem o26 : Op.Opens Try.prog 22 (Kd.slice 26 k26) Fits :=
  Op.opens_imp (Op.opens_slice Try.underlying22 (by kernel_rfl) (B := 32) (by kernel_rfl)
    (Op.opens_iso (T := fun _ : E => True) (fun x => ⟨x.1, x.2⟩) (fun _ => rfl) (fun _ _ => trivial)
      (Op.opens_struct Try.underlying26 (by kernel_rfl) (Op.opensAt_cons rfl (by kernel_rfl) (Op.opens_string Try.underlying9) (Op.opensAt_last rfl (by kernel_rfl) (Op.opens_string Try.underlying9))))))
    (fun l h => by unfold Fits; omega)
def xb : E := ⟨⟨#[98]⟩, ⟨#[49]⟩⟩
def xa : E := ⟨⟨#[97]⟩, ⟨#[50]⟩⟩
theorem alive_set : setR [xb] xa = ([xa, xb], 0) := by
  unfold setR
  rw [if_pos ⟨by decide, by decide⟩, if_pos (by decide)]; rfl
theorem alive_get : getR [xa, xb] xb.f0.data.toList = (⟨#[49]⟩, 0) := by
  unfold getR
  rw [if_pos (by decide)]; rfl
theorem alive_enc : (encR [xa, xb]).2 = 0 := encR_iff.2 ⟨by decide, by decide⟩
theorem alive_bytes : (encR [xa, xb]).1 = encP [xa, xb] ++ bytesN 4 (sumB (encP [xa, xb])).toNat := by
  have hi := encR_iff.1 alive_enc
  unfold encR; rw [if_pos hi.1, if_neg (by omega)]
theorem alive_first : rd (encR [xa, xb]).1 0 = 2 := by
  rw [alive_bytes]; rfl
theorem alive_ev : Ev (fun k => undercroftlaw13_alive.f k) true := by
  unfold undercroftlaw13_alive.f
  refine Ev.bind (set_ev [xb] xa (by decide)) ?_
  rw [alive_set]
  refine Ev.bind (get_ev [xa, xb] xb.f0 (by decide)) ?_
  rw [alive_get]
  refine Ev.bind (enc_ev [xa, xb] (by decide)) ?_
  have e2 : (encR [xa, xb]).1.length = 256 := encR_len alive_enc
  have e3 : rd_T26 [xa, xb] 0 = xa := rfl
  have e4 : xa.f0.toList = ([97] : List UInt8) := by rw [Lib.toList_data]; rfl
  have e5 : (⟨#[49]⟩ : ByteArray).toList = ([49] : List UInt8) := by rw [Lib.toList_data]
  simp only [alive_enc, e2, e3, e4, e5, alive_first, if_true, List.length_cons, List.length_nil, show ((256 : Nat) : Int) = 256 from rfl, if_pos (show (0 : Int) < 256 by decide), show ((0 + 1 + 1 : Nat) : Int) = 2 from rfl, if_pos (show (0 : Int) < 2 by decide), beq_self_eq_true]
  exact Ev.now _
end Go.Proofs.Ytffaggckhneakaa.At
end
section
namespace Go.Proofs.Ytffaggckhneakaa.Pr
open Go.RowKit Go.Proofs.YtffaggckhneakaaW.PrintWords Go.Proofs.YtffaggckhneakaaW.PrintLast Go.Proofs.YtffaggckhneakaaW.PrintMore
attribute [local go_sem] max2_int min2_int max_two min_two max_three min_three max_four min_four
attribute [local go_sem] Go.Proofs.Ytffaggckhneakaa.Hl.str_geq Go.Proofs.Ytffaggckhneakaa.Hl.str_gtr Go.Proofs.Ytffaggckhneakaa.Hl.str_leq
set_option linter.unusedVariables false
set_option linter.unusedSimpArgs false
def undercroftref13_without.l0 : Nat → List (S26) → ByteArray → List (S26) → Int → Option ((List (S26)) × Bool)
  | 0, _, _, _, _ => none
  | k + 1, x0, x1, x6, x7 => if x7 < (x0.length : Int) then (if 0 ≤ x7 then (if ((rd_T26 x0 x7).f0).toList = x1.toList then (undercroftref13_without.l0 k x0 x1 x6 (wrap64 (x7 + 1))) else (if x6.length < 4398046511104 then (undercroftref13_without.l0 k x0 x1 (x6 ++ [(⟨(rd_T26 x0 x7).f0, (rd_T26 x0 x7).f1⟩ : S26)]) (wrap64 (x7 + 1))) else (none))) else (none)) else (some (x6, decide ((x6.length : Int) < (x0.length : Int))))
def undercroftref13_without.f (k : Nat) (l0 : List (S26)) (a1 : ByteArray) : Option ((List (S26)) × Bool) := undercroftref13_without.l0 k l0 a1 ([] : List (S26)) 0
set_option maxHeartbeats 8000000 in
set_option maxRecDepth 100000 in
theorem undercroftref13_without.calls (k : Nat) (A0 : Option Addr) (c0 : Nat) (l0 : List (S26)) (a1 : ByteArray) (r1 : List (S26)) (r2 : Bool) (w : World) (hr0 : Kd.C k26 w A0 l0.length l0) (hc0 : l0.length ≤ c0) (h : undercroftref13_without.f k l0 a1 = some (r1, r2)) :
    Calls Try.prog 42 #[.slice A0 l0.length c0, .string a1] w fun e w' => ∃ v0_ : Value, e = .returned (.tuple #[v0_, .bool r2]) ∧ Kd.R k26 26 w' w.heap.size (fun _ => True) v0_ r1 ∧ Below w.heap.size w w' := by
  have hu26 := Try.underlying26
  have HR0 := Aside0.mk hr0
  have HC0 := Aside0.mk hc0
  clear hr0 hc0
  have HB := Aside0.mk (Below.refl w.heap.size w)
  have H : (undercroftref13_without.l0 k l0 a1 ([] : List (S26)) 0) = some (r1, r2) := h
  clear h
  have H' := Aside0.mk H
  clear H
  go_enter Try.func42, Try.ntmps42
  go_wp2
  go_loopg [6, 7] k (fun kq v6 v7 w' => ∃ (x6_1 : List (S26)) (x7_1 : Int), v7 = .int .i64 x7_1 ∧ Aside0 (undercroftref13_without.l0 kq l0 a1 x6_1 x7_1 = some (r1, r2)) ∧ Aside0 (kq ≤ k) ∧ Aside0 (Kd.R k26 26 w' w.heap.size (fun _ => True) v6 x6_1) ∧ Aside0 (Below w.heap.size w w'))
  case atStart => exact ⟨(([] : List (S26))), (0), (by first | rfl | (simp; done) | (simp [*]; done)), H', ⟨Nat.le_refl _⟩, ⟨by first | exact Kd.R_nil _ _ _ _ _ | exact Kd.N_nil _ _ _ _ _ | exact Kd.V_nil _ _ _ _ _ | exact Kd.Q_nil _ _ _ _ _ | exact Kd.S_nil _ _ _ _ _⟩, ⟨by repeat (first | (with_reducible first | exact HB.out | apply below_alloc | apply pw_below_drewN | apply below_drew1) | exact HB.out)⟩⟩
  case round =>
    clear H'
    try clear p2
    obtain ⟨x6_1, x7_1, rfl, HA, HK1, HO_6, HB⟩ := hrel
    cases gk with
    | zero => exact absurd HA.out (by intro h_; cases h_)
    | succ k1 =>
      have H := HA.out
      clear HA
      simp only [undercroftref13_without.l0] at H
      by_cases c3 : x7_1 < (l0.length : Int)
      · rw [if_pos c3] at H
        have c3b0 : decide (x7_1 < (l0.length : Int)) = true := decide_eq_true c3
        clear c3
        by_cases c4 : 0 ≤ x7_1
        · rw [if_pos c4] at H
          have c4b0 : decide (0 ≤ x7_1) = true := decide_eq_true c4
          clear c4
          by_cases c5 : ((rd_T26 l0 x7_1).f0).toList = a1.toList
          · rw [if_pos c5] at H
            have c5b0 : (((rd_T26 l0 x7_1).f0).toList == a1.toList) = true := beq_iff_eq.mpr c5
            have c5b1 : (((rd_T26 l0 x7_1).f0).toList != a1.toList) = false := bne_eq_false_iff_eq.mpr c5
            clear c5
            have H' := Aside0.mk H
            clear H
            have p389 : 0 ≤ (x7_1 : Int) := of_decide_eq_true (by first | (with_reducible assumption) | assumption)
            have q389 : x7_1 < (l0.length : Int) := of_decide_eq_true (by first | (with_reducible assumption) | assumption)
            obtain ⟨ad389, e389, hx389_0, hx389_1⟩ := at_T26 HR0.out x7_1 p389 q389
            cases e389
            replace hx389_0 := (HB.out.cell (World.block_lt_of_cell? w _ hx389_0)).trans hx389_0
            replace hx389_1 := (HB.out.cell (World.block_lt_of_cell? w _ hx389_1)).trans hx389_1
            replace p389 := eq_true p389
            replace q389 := eq_true q389
            go_wp2
            go_roundg k1
            case measure => have := HK1.out; omega
            case rel => exact ⟨(x6_1), (wrap64 (x7_1 + 1)), (by first | rfl | (simp; done) | (simp [*]; done)), H', ⟨by have := HK1.out; omega⟩, ⟨by (with_reducible repeat (first | apply Kd.R_alloc | apply Kd.R_drewN | apply Kd.R_drew)); exact HO_6.out⟩, ⟨by repeat (first | (with_reducible first | exact HB.out | apply below_alloc | apply pw_below_drewN | apply below_drew1) | exact HB.out)⟩⟩
          · rw [if_neg c5] at H
            have c5b0 : (((rd_T26 l0 x7_1).f0).toList == a1.toList) = false := beq_eq_false_iff_ne.mpr c5
            have c5b1 : (((rd_T26 l0 x7_1).f0).toList != a1.toList) = true := bne_iff_ne.mpr c5
            by_cases c6 : x6_1.length < 4398046511104
            · rw [if_pos c6] at H
              have LMc6 := Aside0.mk c6
              clear c6
              obtain ⟨y391, hy391⟩ : ∃ y_ : List (S26), y_ = (x6_1 ++ [(⟨(rd_T26 l0 x7_1).f0, (rd_T26 l0 x7_1).f1⟩ : S26)]) := ⟨_, rfl⟩
              replace H : (undercroftref13_without.l0 k1 l0 a1 y391 (wrap64 (x7_1 + 1))) = some (r1, r2) := by first | (rw [hy391]; with_reducible exact H) | (have H2_ := (Option.bind_some _ _).symm.trans H; rw [hy391]; with_reducible exact H2_) | (have H2_ := (Option.bind_some _ _).symm.trans H; with_reducible exact H2_) | with_reducible exact H | (rw [hy391]; exact H) | exact H
              have Ny391 := Aside0.mk hy391
              clear hy391
              have H' := Aside0.mk H
              clear H
              have p389 : 0 ≤ (x7_1 : Int) := of_decide_eq_true (by first | (with_reducible assumption) | assumption)
              have q389 : x7_1 < (l0.length : Int) := of_decide_eq_true (by first | (with_reducible assumption) | assumption)
              obtain ⟨ad389, e389, hx389_0, hx389_1⟩ := at_T26 HR0.out x7_1 p389 q389
              cases e389
              replace hx389_0 := (HB.out.cell (World.block_lt_of_cell? w _ hx389_0)).trans hx389_0
              replace hx389_1 := (HB.out.cell (World.block_lt_of_cell? w _ hx389_1)).trans hx389_1
              replace p389 := eq_true p389
              replace q389 := eq_true q389
              have p390 : 0 ≤ (x7_1 : Int) := of_decide_eq_true (by first | (with_reducible assumption) | assumption)
              have q390 : x7_1 < (l0.length : Int) := of_decide_eq_true (by first | (with_reducible assumption) | assumption)
              obtain ⟨ad390, e390, hx390_0, hx390_1⟩ := at_T26 HR0.out x7_1 p390 q390
              obtain rfl : ad389 = ad390 := (by injection e390)
              replace hx390_0 := (HB.out.cell (World.block_lt_of_cell? w _ hx390_0)).trans hx390_0
              replace hx390_1 := (HB.out.cell (World.block_lt_of_cell? w _ hx390_1)).trans hx390_1
              replace p390 := eq_true p390
              replace q390 := eq_true q390
              go_wp2_with (first | ((with_reducible refine gate_builtin (b := .append) (xs := #[.tmp 21, .tmp 26]) rfl ?_); at_builtin; refine Kd.R_append k26 (w0 := w) w.heap.size rfl (.tmp 21) (.tmp 26) 22 26 (.agg #[(.string ⟨#[]⟩), (.string ⟨#[]⟩)]) 32 rfl Try.underlying22 info26 rfl (by decide) (by omega) u6 x6_1 (⟨(rd_T26 l0 x7_1).f0, (rd_T26 l0 x7_1).f1⟩ : S26) [.string ((rd_T26 l0 x7_1).f0), .string ((rd_T26 l0 x7_1).f1)] (fun _ => True) (fun _ => False) rfl rfl ?aP (fun _ hk => hk.elim) ?aF ?aO ?aB ?aS ?aL ?_; (case aP => exact k26_mkM _ _ _ (⟨(rd_T26 l0 x7_1).f0, (rd_T26 l0 x7_1).f1⟩ : S26)); (case aB => exact (by repeat (first | (with_reducible first | exact HB.out | apply below_alloc | apply pw_below_drewN | apply below_drew1) | exact HB.out))); (case aF => exact (fun _ _ => trivial)); (case aO => exact (by (with_reducible repeat (first | apply Kd.R_alloc | apply Kd.R_drewN | apply Kd.R_drew)); exact HO_6.out)); (case aS => exact (below_size (by repeat (first | (with_reducible first | exact HB.out | apply below_alloc | apply pw_below_drewN | apply below_drew1) | exact HB.out)))); (case aL => have := LMc6.out; omega); intro v392 w7 ho hb hg hat; rw [← Ny391.out] at ho; have n0_ := Aside0.mk (hb); have n1_ := Aside0.mk (ho); clear HB; clear HO_6; have HB := n0_; have HO393 := n1_; clear n0_ n1_; clear ho hb hg hat))
              go_roundg k1
              case measure => have := HK1.out; omega
              case rel => exact ⟨(y391), (wrap64 (x7_1 + 1)), (by first | rfl | (simp; done) | (simp [*]; done)), H', ⟨by have := HK1.out; omega⟩, ⟨by (with_reducible repeat (first | apply Kd.R_alloc | apply Kd.R_drewN | apply Kd.R_drew)); exact HO393.out⟩, ⟨by repeat (first | (with_reducible first | exact HB.out | apply below_alloc | apply pw_below_drewN | apply below_drew1) | exact HB.out)⟩⟩
            · rw [if_neg c6] at H
              exact absurd H (by simp)
        · rw [if_neg c4] at H
          exact absurd H (by simp)
      · rw [if_neg c3] at H
        have c3b0 : decide (x7_1 < (l0.length : Int)) = false := decide_eq_false c3
        clear c3
        simp only [Option.some.injEq, Prod.mk.injEq] at H
        obtain ⟨rfl, rfl⟩ := H
        obtain ⟨Ao8, co8, eo8⟩ := Kd.R_slice HO_6.out
        subst eo8
        go_wp2
        go_ret2
        exact ⟨_, by first | rfl | (simp [errW_none, errW_some] <;> rfl) | (simp [*, errW_none, errW_some] <;> rfl), by (with_reducible repeat (first | apply Kd.R_alloc | apply Kd.R_drewN | apply Kd.R_drew)); exact HO_6.out, by repeat (first | (with_reducible first | exact HB.out | apply below_alloc | apply pw_below_drewN | apply below_drew1) | exact HB.out)⟩
end Go.Proofs.Ytffaggckhneakaa.Pr
end
