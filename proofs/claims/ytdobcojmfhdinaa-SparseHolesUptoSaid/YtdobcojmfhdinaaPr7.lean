/- The functions that this seat's laws reach, each as a function in Lean (NAME.f) with its contract (NAME.calls): printed by the kit's print.py; those that it does not take by hand. Conditions: those that each contract names. Lean checks it all. -/
import Derived.Test.YtdobcojmfhdinaaPr0
import Derived.Test.YtdobcojmfhdinaaPr3
import Derived.Test.YtdobcojmfhdinaaPr6
namespace Go.Proofs.Ytdobcojmfhdinaa.Pr
open Go.RowKit Go.Proofs.YtdobcojmfhdinaaW.PrintWords Go.Proofs.YtdobcojmfhdinaaW.PrintLast Go.Proofs.YtdobcojmfhdinaaW.PrintMore
attribute [local go_sem] max2_int min2_int max_two min_two max_three min_three max_four min_four   -- for this text's walks alone
set_option linter.unusedVariables false
set_option linter.unusedSimpArgs false

/-! ### sparse_joiner_part: function 29 (by hand) -/
def jPart (rs : List S33) (r0 : Int) (r1 : ByteArray) (a b : Int) : List S33 :=
  if mx a r0 < mn b (r0 + r1.size) then jAdd rs (mx a r0) (r1.extract (mx a r0 - r0).toNat (mn b (r0 + r1.size) - r0).toNat).data.toList else rs
set_option maxHeartbeats 8000000 in
set_option maxRecDepth 100000 in
theorem sparse_joiner_part.walk (g : Nat) (r0 : Int) (r1 : ByteArray) (a b : Int) (rs : List S33) (v : Value) (w0 w : World)
    (hb : w.heap[g]? = some (.cells #[v] 51 (0, 0))) (hg : w0.heap.size ≤ g) (hB : Below w0.heap.size w0 w) (ho : Kd.R k33 33 w w0.heap.size (fun _ => True) v rs)
    (h0 : 0 ≤ r0) (h1 : r0 + r1.size ≤ 65536) (ha : 0 ≤ a) (hl : rs.length + r1.size ≤ 4000000000000) (hgd : jGood rs) :
    Calls Try.prog 29 #[.pointer (some ⟨g, 0, none⟩), .agg #[.int .i64 r0, .string r1], .int .i64 a, .int .i64 b] w fun e w' => e = .returned (.tuple #[]) ∧ ∃ v', w'.heap[g]? = some (.cells #[v'] 51 (0, 0)) ∧ Below w0.heap.size w0 w' ∧ Kd.R k33 33 w' w0.heap.size (fun _ => True) v' (jPart rs r0 r1 a b) := by
  have hu33 := Try.underlying33
  have HB0 := Aside0.mk hb
  have HBB := Aside0.mk hB
  have HO := Aside0.mk ho
  have HG := Aside0.mk hgd
  have HL := Aside0.mk hl
  clear hb hB ho hgd hl
  obtain ⟨M, hM⟩ : ∃ M, (if a < r0 then r0 else a) = M := ⟨_, rfl⟩
  obtain ⟨N, hN⟩ : ∃ N, (if r0 + (r1.size : Int) < b then r0 + (r1.size : Int) else b) = N := ⟨_, rfl⟩
  have hM0 : r0 ≤ M := by rw [← hM]; split <;> omega
  have hM1 : 0 ≤ M := by omega
  have hN0 : N ≤ r0 + r1.size := by rw [← hN]; split <;> omega
  have EM := Aside0.mk (show mx a r0 = M from hM)
  have EN := Aside0.mk (show mn b (r0 + r1.size) = N from hN)
  have hwr : wrap64 (r0 + (r1.size : Int)) = r0 + r1.size := by unfold wrap64; omega
  have HWR := Aside0.mk (show sparse_end.f r0 r1 = some (r0 + r1.size) by unfold sparse_end.f; rw [hwr])
  clear hwr
  go_enter Try.func29, Try.ntmps29
  go_wp2_with (first | ((with_reducible refine gate_dst (N := 5) rfl ?_); refine box_event ?hg (N := 5) ?hd (cs := #[.int .i64 r0, .string r1]) (t := 33) ?hr ?_; (case hd => rfl); (case hg => rfl); (case hr => first | (go_simp; done) | (go_simp; rfl)); intro gb hgb w2 hbox hb2; have HX := Aside0.mk hbox; have HB2 := Aside0.mk hb2; clear hb2 hbox hgb; have hc0 : w2.cell? ⟨gb, 0, none⟩ = some (.int .i64 r0) := (blk_cell HX.out 0).trans rfl; have hc1 : w2.cell? ⟨gb, 1, none⟩ = some (.string r1) := (blk_cell HX.out 1).trans rfl))
  refine start_ (n := 10) (S := fun w' => w'.cell? ⟨gb, 0, none⟩ = some (.int .i64 r0) ∧ w'.cell? ⟨gb, 1, none⟩ = some (.string r1)) (ds := []) #[false, false, false, false, false, false, false, false, false, false] (by kernel_rfl) rfl rfl ⟨hc0, hc1⟩ (fun hHeld => ?_)
  refine pure_ (i := 0) (N := some 8) (v := ?_) (a' := ?_) #[true, false, false, false, false, false, false, false, false, false] rfl rfl (by kernel_rfl) (fun _ _ _ h => h) (Or.inl ⟨by rfl, ?_⟩) ?_ ?_
  rotate_left
  · intro w'
    go_simp
    with_reducible rfl
  rotate_left
  · simp only [Act.put, List.setIfInBounds_toArray, List.set_cons_zero, List.set_cons_succ, i64_w, i32_w]
    rfl
  refine pure_ (i := 1) (N := some 9) (v := ?_) (a' := ?_) #[true, true, false, false, false, false, false, false, false, false] rfl rfl (by kernel_rfl) (fun _ _ _ h => h) (Or.inl ⟨by rfl, ?_⟩) ?_ ?_
  rotate_left
  · intro w'
    go_simp
    with_reducible rfl
  rotate_left
  · simp only [Act.put, List.setIfInBounds_toArray, List.set_cons_zero, List.set_cons_succ, i64_w, i32_w]
    rfl
  refine pure_ (i := 4) (N := some 12) (v := ?_) (a' := ?_) #[true, true, false, false, true, false, false, false, false, false] rfl rfl (by kernel_rfl) (fun _ _ _ h => h) (Or.inl ⟨by rfl, ?_⟩) ?_ ?_
  rotate_left
  · intro w'
    go_simp
    with_reducible rfl
  rotate_left
  · simp only [Act.put, List.setIfInBounds_toArray, List.set_cons_zero, List.set_cons_succ, i64_w, i32_w]
    rfl
  refine take_ (i := 2) (N := some 10) (v := ?_) (a' := ?_) #[true, true, true, false, true, false, false, false, false, false] rfl rfl (by kernel_rfl) (fun _ _ _ h => h) (Or.inl ⟨by rfl, ?_⟩) hHeld ?_ ?_
  rotate_left
  · rintro w' ⟨s0, s1⟩
    go_simp
    with_reducible rfl
  rotate_left
  · simp only [Act.put, List.setIfInBounds_toArray, List.set_cons_zero, List.set_cons_succ, i64_w, i32_w]
    rfl
  refine pure_ (i := 3) (N := some 11) (v := ?_) (a' := ?_) #[true, true, true, true, true, false, false, false, false, false] rfl rfl (by kernel_rfl) (fun _ _ _ h => h) (Or.inl ⟨by rfl, ?_⟩) ?_ ?_
  rotate_left
  · intro w'
    go_simp
    with_reducible rfl
  rotate_left
  · simp only [Act.put, List.setIfInBounds_toArray, List.set_cons_zero, List.set_cons_succ, i64_w, i32_w]
    rfl
  refine take_ (i := 5) (N := some 13) (v := ?_) (a' := ?_) #[true, true, true, true, true, true, false, false, false, false] rfl rfl (by kernel_rfl) (fun _ _ _ h => h) (Or.inl ⟨by rfl, ?_⟩) hHeld ?_ ?_
  rotate_left
  · rintro w' ⟨s0, s1⟩
    go_simp
    with_reducible rfl
  rotate_left
  · simp only [Act.put, List.setIfInBounds_toArray, List.set_cons_zero, List.set_cons_succ, i64_w, i32_w]
    rfl
  refine one_ (i := 6) (N := some 14) #[true, true, true, true, true, true, true, false, false, false] rfl rfl (by kernel_rfl) (by decide) (fun K hK => ?_)
  refine goes_ Try.func28 (by kernel_rfl) rfl #[.agg #[.int .i64 r0, .string r1]] (by rfl) rfl rfl (by simp only [List.map_toArray, List.map_cons, List.map_nil]; rfl) ?_
  with_reducible refine (sparse_end.calls r0 r1 _ _ HWR.out).mono ?_
  rintro e w3 ⟨rfl, hb3⟩
  refine ⟨_, rfl, ?_⟩
  have k0 := (hb3.cell (World.block_lt_of_cell? _ _ hHeld.1)).trans hHeld.1
  have k1 := (hb3.cell (World.block_lt_of_cell? _ _ hHeld.2)).trans hHeld.2
  have HB3 := Aside0.mk hb3
  clear hb3
  refine hK.out _ _ ⟨k0, k1⟩ (fun hHeld => ?_)
  clear hK K
  refine norm_ (a' := ?_) ?_ ?_
  rotate_left
  · show Act.put _ (some 14) _ = _
    simp only [Act.put, List.setIfInBounds_toArray, List.set_cons_zero, List.set_cons_succ, i64_w, i32_w]
    rfl
  refine pure_ (i := 7) (N := some 15) (v := ?_) (a' := ?_) #[true, true, true, true, true, true, true, true, false, false] rfl rfl (by kernel_rfl) (fun _ _ _ h => h) (Or.inl ⟨by rfl, ?_⟩) ?_ ?_
  rotate_left
  · intro w'
    go_simp
    with_reducible rfl
  rotate_left
  · simp only [Act.put, List.setIfInBounds_toArray, List.set_cons_zero, List.set_cons_succ, i64_w, i32_w]
    rfl
  refine pure_ (i := 8) (N := some 2) (v := ?_) (a' := ?_) #[true, true, true, true, true, true, true, true, true, false] rfl rfl (by kernel_rfl) (fun _ _ _ h => h) (Or.inl ⟨by rfl, ?_⟩) ?_ ?_
  rotate_left
  · intro w'
    go_simp
    with_reducible rfl
  rotate_left
  · simp only [Act.put, List.setIfInBounds_toArray, List.set_cons_zero, List.set_cons_succ, i64_w, i32_w]
    rfl
  refine pure_ (i := 9) (N := some 3) (v := ?_) (a' := ?_) #[true, true, true, true, true, true, true, true, true, true] rfl rfl (by kernel_rfl) (fun _ _ _ h => h) (Or.inl ⟨by rfl, ?_⟩) ?_ ?_
  rotate_left
  · intro w'
    go_simp
    with_reducible rfl
  rotate_left
  · simp only [Act.put, List.setIfInBounds_toArray, List.set_cons_zero, List.set_cons_succ, i64_w, i32_w]
    rfl
  refine done_ (by kernel_rfl) ?_
  have hbk := blk_below (blk_drew (blk_below HB0.out HB2.out)) HB3.out
  have hBk := below_then (below_drew (below_then HBB.out HBB.out.size HB2.out)) (Nat.le_trans HBB.out.size HB2.out.size) HB3.out
  have hOk := Kd.R_below (Kd.R_drew (Kd.R_below HO.out HB2.out)) HB3.out
  have Hbk := Aside0.mk hbk
  have HBk := Aside0.mk hBk
  have HOk := Aside0.mk hOk
  clear hbk hBk hOk hHeld hM hN hc0 hc1
  by_cases hlt : M < N
  · have hlb : decide (M < N) = true := by simpa using hlt
    have hi0 : 0 ≤ M - r0 := by omega
    have hi1 : M - r0 ≤ N - r0 := by omega
    have hi2 : N - r0 ≤ r1.size := by omega
    have EP := Aside0.mk (show jPart rs r0 r1 a b = jAdd rs M (r1.extract (M - r0).toNat (N - r0).toNat).data.toList by unfold jPart; rw [EM.out, EN.out, if_pos hlt])
    go_wp2_with (go_at_call 30; refine (sparse_joiner_add.walk g M (r1.extract (M - r0).toNat (N - r0).toNat) rs v w0 _ Hbk.out hg HBk.out HOk.out (fun _ => ⟨by omega, by rw [ByteArray.size_extract]; omega⟩) (by have := HL.out; rw [ByteArray.size_extract]; omega) HG.out).mono ?_; rintro e w4 ⟨rfl, v4, hb4, hB4, hO4⟩)
    go_end0
    refine ⟨rfl, v4, hb4, hB4, ?_⟩
    rw [EP.out]
    exact hO4
  · have hlb : decide (M < N) = false := by simpa using hlt
    have EP := Aside0.mk (show jPart rs r0 r1 a b = rs by unfold jPart; rw [EM.out, EN.out, if_neg hlt])
    clear hlt
    go_wp2_with fail
    go_end0
    refine ⟨rfl, v, Hbk.out, HBk.out, ?_⟩
    rw [EP.out]
    exact HOk.out

end Go.Proofs.Ytdobcojmfhdinaa.Pr
