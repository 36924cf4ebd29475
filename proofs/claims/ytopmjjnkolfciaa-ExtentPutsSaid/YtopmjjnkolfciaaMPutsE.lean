/- MPuts: this session's texts for the one law, put together (part 5 of 7): what its program computes, function by function, and that this answers true; the row stands at the end of the last part. Conditions: those that each theorem names; the last theorem has none. -/
import Derived.WalkKit
import Derived.ProofKit
import Derived.OpenShut
import Derived.ShutString
import Derived.ChangeOld
import Derived.Below
import Derived.SizedLaws
import Derived.ChangeSlices
import Derived.Lib.SmallJoins
import Derived.Deep.Slices
import Derived.Test.YtopmjjnkolfciaaMPutsD
section
namespace Go.Proofs.Ytopmjjnkolfciaa.Pr
open Go.RowKit Go.Proofs.YtopmjjnkolfciaaW.PrintWords Go.Proofs.YtopmjjnkolfciaaW.PrintLast Go.Proofs.YtopmjjnkolfciaaW.PrintMore
attribute [local go_sem] max2_int min2_int max_two min_two max_three min_three max_four min_four
attribute [local go_sem] Go.Proofs.Ytopmjjnkolfciaa.Hl.str_geq Go.Proofs.Ytopmjjnkolfciaa.Hl.str_gtr Go.Proofs.Ytopmjjnkolfciaa.Hl.str_leq
set_option linter.unusedVariables false
set_option linter.unusedSimpArgs false
theorem goesR_f (a b : S24) : undercroftref10_goes.f a.f0 a.f1 a.f2 a.f3 b.f0 b.f1 b.f2 b.f3 = some (goesR a b) := by
 unfold undercroftref10_goes.f goesR
 by_cases h1 : wrap64 (a.f0 + a.f2) = b.f0
 ·rw [if_pos h1, beq_iff_eq.2 h1]
  by_cases h2 : wrap64 (a.f1 + a.f2) = b.f1
  ·rw [if_pos h2, beq_iff_eq.2 h2]; rfl
  ·rw [if_neg h2, beq_eq_false_iff_ne.2 h2]; rfl
 ·rw [if_neg h1, beq_eq_false_iff_ne.2 h1]; rfl
set_option maxHeartbeats 8000000 in
set_option maxRecDepth 100000 in
theorem gather_calls (B : Nat) (T : List Int) (U : List Bool) (w : World) (hT : T.length = 256) (hU : U.length = 256) (hm : w.heap[B]? = some (.cells (mapV T U) 70 (0, 0))) :
  Calls Try.prog 72 #[.pointer (some ⟨B, 0, none⟩)] w fun e w' => ∃ v : Value, e = .returned v ∧ Kd.R k24 24 w' w.heap.size (fun _ => True) v (gath T U 256) ∧ Below w.heap.size w w' := by
 have hu24 := Try.underlying24
 have HT := Aside0.mk hT
 have HU := Aside0.mk hU
 have HG := Aside0.mk hm
 clear hT hU hm
 go_enter Try.func72, Try.ntmps72
 go_wp2
 go_loopg [3, 4] 256 (fun kq v3 v4 w' => ∃ (i : Nat) (acc : List S24), v4 = .int .i64 (i : Int) ∧ Aside0 (i + kq = 256) ∧ Aside0 (acc = gath T U i) ∧ Aside0 (Kd.R k24 24 w' w.heap.size (fun _ => True) v3 acc) ∧ Aside0 (Below w.heap.size w w'))
 case atStart => exact ⟨0, [], rfl, ⟨rfl⟩, ⟨rfl⟩, ⟨Kd.R_nil _ _ _ _ _⟩, ⟨Below.refl _ _⟩⟩
 case round =>
  obtain ⟨i, acc, rfl, HK, HA, HO, HB⟩ := hrel
  obtain ⟨A, c, rfl⟩ := Kd.R_slice HO.out
  cases gk with
  | zero =>
   have ei : i = 256 := by have := HK.out; omega
   have hlt : decide (((i : Nat) : Int) < 256) = false := decide_eq_false (by omega)
   have hA := HA.out
   rw [ei] at hA
   have HAA := Aside0.mk hA
   clear ei hA HA;go_wp2;go_ret
   exact ⟨_, rfl, by rw [← HAA.out]; exact HO.out, HB.out⟩
  | succ g =>
   have hlt : decide (i < 256) = true := decide_eq_true (by have := HK.out; omega)
   have HG1 := Aside0.mk (blk_below HG.out HB.out)
   have hcT := (blk_cell HG1.out i).trans (mapV_T (U := U) (by rw [HT.out]; have := HK.out; omega))
   have hib : (0 : Int) ≤ (i : Int) ∧ (i : Int) < 256 := by have := HK.out; omega
   have hiw : wrap64 ((i : Int) + 1) = ((i + 1 : Nat) : Int) := by unfold wrap64; omega
   obtain ⟨t, ht⟩ : ∃ t : Int, T.getD i 0 = t := ⟨_, rfl⟩
   rw [ht] at hcT
   by_cases h0 : t = 0
   ·subst h0
    have HI := Aside0.mk (show gath T U (i + 1) = gath T U i by rw [gath, if_pos ht])
    clear ht;go_wp2
    go_roundg g
    case measure => omega
    case rel => exact ⟨i + 1, acc, by first | (rw [hiw]; done) | (simp; done), ⟨by have := HK.out; omega⟩, ⟨by rw [HI.out]; exact HA.out⟩, HO, HB⟩
   ·have h0b : decide (t = 0) = false := decide_eq_false h0
    have h0c : (t == 0) = false := beq_eq_false_iff_ne.2 h0
    have HI := Aside0.mk (show gath T U (i + 1) = addE acc ⟨(i : Int), t, 1, U.getD i false⟩ by
     rw [HA.out]
     rw [gath, ht, if_neg h0])
    have hcU := (blk_cell HG1.out (256 + i)).trans (mapV_U HT.out (by rw [HU.out]; have := HK.out; omega))
    obtain ⟨u, hu⟩ : ∃ u : Bool, U.getD i false = u := ⟨_, rfl⟩
    rw [hu] at hcU HI
    clear ht hu h0;go_wp2
    refine start_ (n := 16) (S := fun w' => w'.cell? ⟨B, i, none⟩ = some (.int .i64 t) ∧ w'.cell? ⟨B, 256 + i, none⟩ = some (.bool u)) (ds := [15]) #[false, false, false, false, false, false, false, false, false, false, false, false, false, false, false, false] (by kernel_rfl) rfl rfl ⟨hcT, hcU⟩ (fun hHeld => ?_)
    refine pure_ (i := 0) (N := some 17) (v := ?_) (a' := ?_) #[true, false, false, false, false, false, false, false, false, false, false, false, false, false, false, false] rfl rfl (by kernel_rfl) (fun _ _ _ h => h) (Or.inl ⟨by rfl, ?_⟩) ?_ ?_;rotate_left;(intro w';go_simp;with_reducible rfl);rotate_left;(simp only [Act.put, sIb, sC0, sCs, i64_w, i32_w];rfl);refine pure_ (i := 1) (N := some 18) (v := ?_) (a' := ?_) #[true, true, false, false, false, false, false, false, false, false, false, false, false, false, false, false] rfl rfl (by kernel_rfl) (fun _ _ _ h => h) (Or.inl ⟨by rfl, ?_⟩) ?_ ?_;rotate_left;(intro w';go_simp;with_reducible rfl);rotate_left;(simp only [Act.put, sIb, sC0, sCs, i64_w, i32_w];rfl);refine pure_ (i := 2) (N := some 19) (v := ?_) (a' := ?_) #[true, true, true, false, false, false, false, false, false, false, false, false, false, false, false, false] rfl rfl (by kernel_rfl) (fun _ _ _ h => h) (Or.inl ⟨by rfl, ?_⟩) ?_ ?_;rotate_left;(intro w';go_simp;with_reducible rfl);rotate_left;(simp only [Act.put, sIb, sC0, sCs, i64_w, i32_w];rfl);refine pure_ (i := 3) (N := some 20) (v := ?_) (a' := ?_) #[true, true, true, true, false, false, false, false, false, false, false, false, false, false, false, false] rfl rfl (by kernel_rfl) (fun _ _ _ h => h) (Or.inl ⟨by rfl, ?_⟩) ?_ ?_;rotate_left;(intro w';go_simp;with_reducible rfl);rotate_left;(simp only [Act.put, sIb, sC0, sCs, i64_w, i32_w];rfl);refine pure_ (i := 4) (N := some 21) (v := ?_) (a' := ?_) #[true, true, true, true, true, false, false, false, false, false, false, false, false, false, false, false] rfl rfl (by kernel_rfl) (fun _ _ _ h => h) (Or.inl ⟨by rfl, ?_⟩) ?_ ?_;rotate_left;(intro w';go_simp;with_reducible rfl);rotate_left;(simp only [Act.put, sIb, sC0, sCs, i64_w, i32_w];rfl);refine pure_ (i := 5) (N := some 22) (v := ?_) (a' := ?_) #[true, true, true, true, true, true, false, false, false, false, false, false, false, false, false, false] rfl rfl (by kernel_rfl) (fun _ _ _ h => h) (Or.inl ⟨by rfl, ?_⟩) ?_ ?_;rotate_left;(intro w';go_simp;with_reducible rfl);rotate_left;(simp only [Act.put, sIb, sC0, sCs, i64_w, i32_w];rfl);refine pure_ (i := 7) (N := some 24) (v := ?_) (a' := ?_) #[true, true, true, true, true, true, false, true, false, false, false, false, false, false, false, false] rfl rfl (by kernel_rfl) (fun _ _ _ h => h) (Or.inl ⟨by rfl, ?_⟩) ?_ ?_;rotate_left;(intro w';go_simp;with_reducible rfl);rotate_left;(simp only [Act.put, sIb, sC0, sCs, i64_w, i32_w];rfl);refine pure_ (i := 8) (N := some 25) (v := ?_) (a' := ?_) #[true, true, true, true, true, true, false, true, true, false, false, false, false, false, false, false] rfl rfl (by kernel_rfl) (fun _ _ _ h => h) (Or.inl ⟨by rfl, ?_⟩) ?_ ?_;rotate_left;(intro w';go_simp;with_reducible rfl);rotate_left;(simp only [Act.put, sIb, sC0, sCs, i64_w, i32_w];rfl);refine pure_ (i := 9) (N := some 26) (v := ?_) (a' := ?_) #[true, true, true, true, true, true, false, true, true, true, false, false, false, false, false, false] rfl rfl (by kernel_rfl) (fun _ _ _ h => h) (Or.inl ⟨by rfl, ?_⟩) ?_ ?_;rotate_left;(intro w';go_simp;with_reducible rfl);rotate_left;(simp only [Act.put, sIb, sC0, sCs, i64_w, i32_w];rfl);refine pure_ (i := 10) (N := some 27) (v := ?_) (a' := ?_) #[true, true, true, true, true, true, false, true, true, true, true, false, false, false, false, false] rfl rfl (by kernel_rfl) (fun _ _ _ h => h) (Or.inl ⟨by rfl, ?_⟩) ?_ ?_;rotate_left;(intro w';go_simp;with_reducible rfl);rotate_left;(simp only [Act.put, sIb, sC0, sCs, i64_w, i32_w];rfl);refine pure_ (i := 11) (N := some 28) (v := ?_) (a' := ?_) #[true, true, true, true, true, true, false, true, true, true, true, true, false, false, false, false] rfl rfl (by kernel_rfl) (fun _ _ _ h => h) (Or.inl ⟨by rfl, ?_⟩) ?_ ?_;rotate_left;(intro w';go_simp;with_reducible rfl);rotate_left;(simp only [Act.put, sIb, sC0, sCs, i64_w, i32_w];rfl);refine take_ (i := 6) (N := some 23) (v := ?_) (a' := ?_) #[true, true, true, true, true, true, true, true, true, true, true, true, false, false, false, false] rfl rfl (by kernel_rfl) (fun _ _ _ h => h) (Or.inl ⟨by rfl, ?_⟩) hHeld ?_ ?_;rotate_left
    ·rintro w' ⟨s0, s1⟩
     go_simp;with_reducible rfl
    rotate_left;(simp only [Act.put, sIb, sC0, sCs, i64_w, i32_w];rfl);refine take_ (i := 12) (N := some 29) (v := ?_) (a' := ?_) #[true, true, true, true, true, true, true, true, true, true, true, true, true, false, false, false] rfl rfl (by kernel_rfl) (fun _ _ _ h => h) (Or.inl ⟨by rfl, ?_⟩) hHeld ?_ ?_;rotate_left
    ·rintro w' ⟨s0, s1⟩
     go_simp;with_reducible rfl
    rotate_left;(simp only [Act.put, sIb, sC0, sCs, i64_w, i32_w];rfl);refine pure_ (i := 13) (N := some 30) (v := ?_) (a' := ?_) #[true, true, true, true, true, true, true, true, true, true, true, true, true, true, false, false] rfl rfl (by kernel_rfl) (fun _ _ _ h => h) (Or.inl ⟨by rfl, ?_⟩) ?_ ?_;rotate_left;(intro w';go_simp;with_reducible rfl);rotate_left;(simp only [Act.put, sIb, sC0, sCs, i64_w, i32_w];rfl)
    refine one_ (i := 14) (N := some 5) #[true, true, true, true, true, true, true, true, true, true, true, true, true, true, true, false] rfl rfl (by kernel_rfl) (by decide) (fun K hK => ?_)
    refine value_ (w1 := ?_) (v := ?_) (by rfl) rfl ?_ ?_
    rotate_left 2
    ·go_simp
     constructor;(rfl);(rfl)
    refine hK.out _ _ ⟨(World.cell?_alloc_lt _ _ _ (World.block_lt_of_cell? _ _ hHeld.1)).trans hHeld.1, (World.cell?_alloc_lt _ _ _ (World.block_lt_of_cell? _ _ hHeld.2)).trans hHeld.2⟩ (fun hHeld => ?_)
    clear hK K;refine norm_ (a' := ?_) ?_ ?_;rotate_left
    ·show Act.put _ (some 5) _ = _
     simp only [Act.put, sIb, sC0, sCs, i64_w, i32_w];rfl
    refine last_ (i := 15) (N := none) #[true, true, true, true, true, true, true, true, true, true, true, true, true, true, true, true] rfl rfl (by kernel_rfl) (by decide) (fun K hK => ?_)
    refine skip_ (w1 := ?_) (by rfl) rfl ?_ ?_
    rotate_left;(go_simp;rfl);refine hK.out _ _ ?_;clear hK K
    refine done_ (by kernel_rfl) ?_
    have HAL := Aside0.mk (show acc.length ≤ 256 by have := gath_len T U i; rw [← HA.out] at this; have := HK.out; omega)
    have he5 := blk_drew (blk_new wr (.cells #[.int .i64 (i : Int), .int .i64 t, .int .i64 1, .bool u] 24))
    have ho5 := Kd.R_drew (Kd.R_alloc HO.out (.cells #[.int .i64 (i : Int), .int .i64 t, .int .i64 1, .bool u] 24))
    have hb5 := below_drew1 (HB.out.alloc HB.out.size (.cells #[.int .i64 (i : Int), .int .i64 t, .int .i64 1, .bool u] 24))
    generalize (wr.alloc (.cells #[.int .i64 (i : Int), .int .i64 t, .int .i64 1, .bool u] 24)).drew = w5 at he5 ho5 hb5 ⊢
    generalize wr.heap.size = eb at he5 ⊢
    have HE5 := Aside0.mk he5
    have HB5 := Aside0.mk hb5
    have hc0 := (blk_cell he5 0).trans rfl
    have hc1 := (blk_cell he5 1).trans rfl
    have hc2 := (blk_cell he5 2).trans rfl
    have hc3 := (blk_cell he5 3).trans rfl
    clear he5 hb5 hcT hcU HO
    by_cases hz : acc.length = 0
    ·have HI2 := Aside0.mk (show gath T U (i + 1) = acc ++ [⟨(i : Int), t, 1, u⟩] by rw [HI.out]; unfold addE; rw [if_pos hz])
     rw [hz] at ho5 ⊢
     have HO5 := Aside0.mk ho5
     clear ho5 hz;go_wp2
     refine start_ (n := 13) (S := fun w' => True) (ds := []) #[false, false, false, false, false, false, false, false, false, false, false, false, false] (by kernel_rfl) rfl rfl trivial (fun hHeld => ?_)
     refine pure_ (i := 0) (N := some 31) (v := ?_) (a' := ?_) #[true, false, false, false, false, false, false, false, false, false, false, false, false] rfl rfl (by kernel_rfl) (fun _ _ _ h => h) (Or.inl ⟨by rfl, ?_⟩) ?_ ?_;rotate_left;(intro w';go_simp;with_reducible rfl);rotate_left;(simp only [Act.put, sIb, sC0, sCs, i64_w, i32_w];rfl);refine pure_ (i := 1) (N := some 32) (v := ?_) (a' := ?_) #[true, true, false, false, false, false, false, false, false, false, false, false, false] rfl rfl (by kernel_rfl) (fun _ _ _ h => h) (Or.inl ⟨by rfl, ?_⟩) ?_ ?_;rotate_left;(intro w';go_simp;with_reducible rfl);rotate_left;(simp only [Act.put, sIb, sC0, sCs, i64_w, i32_w];rfl);refine pure_ (i := 2) (N := some 33) (v := ?_) (a' := ?_) #[true, true, true, false, false, false, false, false, false, false, false, false, false] rfl rfl (by kernel_rfl) (fun _ _ _ h => h) (Or.inl ⟨by rfl, ?_⟩) ?_ ?_;rotate_left;(intro w';go_simp;with_reducible rfl);rotate_left;(simp only [Act.put, sIb, sC0, sCs, i64_w, i32_w];rfl);refine pure_ (i := 3) (N := some 34) (v := ?_) (a' := ?_) #[true, true, true, true, false, false, false, false, false, false, false, false, false] rfl rfl (by kernel_rfl) (fun _ _ _ h => h) (Or.inl ⟨by rfl, ?_⟩) ?_ ?_;rotate_left;(intro w';go_simp;with_reducible rfl);rotate_left;(simp only [Act.put, sIb, sC0, sCs, i64_w, i32_w];rfl);refine pure_ (i := 4) (N := some 35) (v := undef) (a' := ?_) #[true, true, true, true, true, false, false, false, false, false, false, false, false] rfl rfl (by kernel_rfl) (fun _ _ _ h => h) (Or.inr ⟨by rfl, rfl⟩) ?_ ?_;rotate_left;(simp only [Act.put, sIb, sC0, sCs, i64_w, i32_w];rfl);refine pure_ (i := 5) (N := some 36) (v := undef) (a' := ?_) #[true, true, true, true, true, true, false, false, false, false, false, false, false] rfl rfl (by kernel_rfl) (fun _ _ _ h => h) (Or.inr ⟨by rfl, rfl⟩) ?_ ?_;rotate_left;(simp only [Act.put, sIb, sC0, sCs, i64_w, i32_w];rfl);refine pure_ (i := 6) (N := some 37) (v := undef) (a' := ?_) #[true, true, true, true, true, true, true, false, false, false, false, false, false] rfl rfl (by kernel_rfl) (fun _ _ _ h => h) (Or.inr ⟨by rfl, rfl⟩) ?_ ?_;rotate_left;(simp only [Act.put, sIb, sC0, sCs, i64_w, i32_w];rfl);refine pure_ (i := 7) (N := some 38) (v := undef) (a' := ?_) #[true, true, true, true, true, true, true, true, false, false, false, false, false] rfl rfl (by kernel_rfl) (fun _ _ _ h => h) (Or.inr ⟨by rfl, rfl⟩) ?_ ?_;rotate_left;(simp only [Act.put, sIb, sC0, sCs, i64_w, i32_w];rfl);refine pure_ (i := 8) (N := some 39) (v := undef) (a' := ?_) #[true, true, true, true, true, true, true, true, true, false, false, false, false] rfl rfl (by kernel_rfl) (fun _ _ _ h => h) (Or.inr ⟨by rfl, rfl⟩) ?_ ?_;rotate_left;(simp only [Act.put, sIb, sC0, sCs, i64_w, i32_w];rfl);refine pure_ (i := 9) (N := some 40) (v := undef) (a' := ?_) #[true, true, true, true, true, true, true, true, true, true, false, false, false] rfl rfl (by kernel_rfl) (fun _ _ _ h => h) (Or.inr ⟨by rfl, rfl⟩) ?_ ?_;rotate_left;(simp only [Act.put, sIb, sC0, sCs, i64_w, i32_w];rfl);refine pure_ (i := 10) (N := some 41) (v := undef) (a' := ?_) #[true, true, true, true, true, true, true, true, true, true, true, false, false] rfl rfl (by kernel_rfl) (fun _ _ _ h => h) (Or.inr ⟨by rfl, rfl⟩) ?_ ?_;rotate_left;(simp only [Act.put, sIb, sC0, sCs, i64_w, i32_w];rfl);refine pure_ (i := 11) (N := some 42) (v := undef) (a' := ?_) #[true, true, true, true, true, true, true, true, true, true, true, true, false] rfl rfl (by kernel_rfl) (fun _ _ _ h => h) (Or.inr ⟨by rfl, rfl⟩) ?_ ?_;rotate_left;(simp only [Act.put, sIb, sC0, sCs, i64_w, i32_w];rfl);refine pure_ (i := 12) (N := some 43) (v := ?_) (a' := ?_) #[true, true, true, true, true, true, true, true, true, true, true, true, true] rfl rfl (by kernel_rfl) (fun _ _ _ h => h) (Or.inl ⟨by rfl, ?_⟩) ?_ ?_;rotate_left;(intro w';go_simp;with_reducible rfl);rotate_left;(simp only [Act.put, sIb, sC0, sCs, i64_w, i32_w];rfl)
     refine done_ (by kernel_rfl) ?_
     have ho6 := Kd.R_drew HO5.out
     have he6 := blk_drew HE5.out
     have hb6 := below_drew1 HB5.out
     clear hc0 hc1 hc2 hc3
     generalize w5.drew = w6 at ho6 he6 hb6 ⊢
     have hc0 := (blk_cell he6 0).trans rfl
     have hc1 := (blk_cell he6 1).trans rfl
     have hc2 := (blk_cell he6 2).trans rfl
     have hc3 := (blk_cell he6 3).trans rfl
     have HO6 := Aside0.mk ho6
     have HB6 := Aside0.mk hb6
     clear ho6 he6 hb6
     go_wp2_with ((with_reducible refine gate_builtin (b := .append) (xs := #[.tmp 54, .tmp 56]) rfl ?_); at_builtin; refine Kd.R_append k24 (w0 := w) w.heap.size rfl (.tmp 54) (.tmp 56) 22 24 (.agg #[(.int .i64 0), (.int .i64 0), (.int .i64 0), (.bool false)]) 32 rfl Try.underlying22 info24 rfl (by decide) (by omega) _ acc (⟨(i : Int), t, 1, u⟩ : S24) [.int .i64 (i : Int), .int .i64 t, .int .i64 1, .bool u] (fun _ => True) (fun _ => False) rfl rfl (k24_mkM _ _ _ (⟨(i : Int), t, 1, u⟩ : S24)) (fun _ hk => hk.elim) (fun _ _ => trivial) HO6.out HB6.out HB6.out.size (by have := HAL.out; omega) ?_; intro v8 w8 ho8 hb8 hg8 hat8; have HO8 := Aside0.mk ho8; have HB8 := Aside0.mk hb8; clear ho8 hb8 hg8 hat8)
     go_roundg g
     case measure => omega
     case rel => exact ⟨i + 1, acc ++ [⟨(i : Int), t, 1, u⟩], by first | (rw [hiw]; done) | (simp; done), ⟨by have := HK.out; omega⟩, ⟨HI2.out.symm⟩, HO8, HB8⟩
    ·obtain ⟨n, hn⟩ : ∃ n : Nat, acc.length = n := ⟨_, rfl⟩
     obtain ⟨m, hm⟩ : ∃ m : Nat, n - 1 = m := ⟨_, rfl⟩
     have hmi : ((n : Int) - 1) = (m : Int) := by omega
     have hmw : wrap64 ((n : Int) - 1) = (m : Int) := by have := HAL.out; unfold wrap64; omega
     have hmw2 : wrap64 (m : Int) = (m : Int) := by have := HAL.out; unfold wrap64; omega
     have hmn : (m : Int) < (n : Int) := by omega
     have hm0 : (0 : Int) ≤ (m : Int) := by omega
     have hn0 : decide (0 < n) = true := decide_eq_true (by omega)
     rw [hn] at ho5 ⊢
     obtain ⟨go, co, eo, gb, gl, cl, hgo⟩ := Kd.R_form ho5 (by omega)
     rw [hn] at eo
     injection eo with ea en ec
     subst ea
     subst ec
     have HGO := Aside0.mk hgo
     have HGB := Aside0.mk gb
     obtain ⟨ce, hcl, hM, hcc, hfr⟩ := Kd.R_elem ho5 z24 (m : Int) hm0 hmn
     obtain rfl := k24_openM hM
     rw [Int.toNat_natCast] at hcc hfr hM
     obtain ⟨a, ha⟩ : ∃ a, acc.getD m z24 = a := ⟨_, rfl⟩
     rw [ha] at hcc hM
     have d0 : World.cell? _ ⟨go, m * 4, none⟩ = some (.int .i64 a.f0) := hcc 0 _ rfl
     have d1 : World.cell? _ ⟨go, m * 4 + 1, none⟩ = some (.int .i64 a.f1) := hcc 1 _ rfl
     have d2 : World.cell? _ ⟨go, m * 4 + 2, none⟩ = some (.int .i64 a.f2) := hcc 2 _ rfl
     have d3 : World.cell? _ ⟨go, m * 4 + 3, none⟩ = some (.bool a.f3) := hcc 3 _ rfl
     have HO5 := Aside0.mk ho5
     have HNN := Aside0.mk hn
     have HMM := Aside0.mk hm
     have HAA := Aside0.mk ha
     have HZ := Aside0.mk hz
     clear hcl hM hcc hfr ho5 hn hm ha hz gb gl hgo en
     obtain ⟨q, hq⟩ : ∃ q : Bool, goesR a ⟨(i : Int), t, 1, u⟩ = q := ⟨_, rfl⟩
     have HQ := Aside0.mk ((goesR_f a ⟨(i : Int), t, 1, u⟩).trans (congrArg some hq))
     go_wp2
     refine start_ (n := 13) (S := fun w' => w'.cell? ⟨eb, 0, none⟩ = some (.int .i64 (i : Int)) ∧ w'.cell? ⟨eb, 1, none⟩ = some (.int .i64 t) ∧ w'.cell? ⟨eb, 2, none⟩ = some (.int .i64 1) ∧ w'.cell? ⟨eb, 3, none⟩ = some (.bool u) ∧ w'.cell? ⟨go, m * 4, none⟩ = some (.int .i64 a.f0) ∧ w'.cell? ⟨go, m * 4 + 1, none⟩ = some (.int .i64 a.f1) ∧ w'.cell? ⟨go, m * 4 + 2, none⟩ = some (.int .i64 a.f2) ∧ w'.cell? ⟨go, m * 4 + 3, none⟩ = some (.bool a.f3)) (ds := []) #[false, false, false, false, false, false, false, false, false, false, false, false, false] (by kernel_rfl) rfl rfl ⟨hc0, hc1, hc2, hc3, d0, d1, d2, d3⟩ (fun hHeld => ?_)
     refine pure_ (i := 0) (N := some 31) (v := ?_) (a' := ?_) #[true, false, false, false, false, false, false, false, false, false, false, false, false] rfl rfl (by kernel_rfl) (fun _ _ _ h => h) (Or.inl ⟨by rfl, ?_⟩) ?_ ?_;rotate_left;(intro w';go_simp;with_reducible rfl);rotate_left;(simp only [Act.put, sIb, sC0, sCs, i64_w, i32_w];rfl);refine pure_ (i := 1) (N := some 32) (v := ?_) (a' := ?_) #[true, true, false, false, false, false, false, false, false, false, false, false, false] rfl rfl (by kernel_rfl) (fun _ _ _ h => h) (Or.inl ⟨by rfl, ?_⟩) ?_ ?_;rotate_left;(intro w';go_simp;with_reducible rfl);rotate_left;(simp only [Act.put, sIb, sC0, sCs, i64_w, i32_w];rfl);refine pure_ (i := 2) (N := some 33) (v := ?_) (a' := ?_) #[true, true, true, false, false, false, false, false, false, false, false, false, false] rfl rfl (by kernel_rfl) (fun _ _ _ h => h) (Or.inl ⟨by rfl, ?_⟩) ?_ ?_;rotate_left;(intro w';go_simp;with_reducible rfl);rotate_left;(simp only [Act.put, sIb, sC0, sCs, i64_w, i32_w];rfl);refine pure_ (i := 3) (N := some 34) (v := ?_) (a' := ?_) #[true, true, true, true, false, false, false, false, false, false, false, false, false] rfl rfl (by kernel_rfl) (fun _ _ _ h => h) (Or.inl ⟨by rfl, ?_⟩) ?_ ?_;rotate_left;(intro w';go_simp;with_reducible rfl);rotate_left;(simp only [Act.put, sIb, sC0, sCs, i64_w, i32_w];rfl);refine pure_ (i := 4) (N := some 35) (v := ?_) (a' := ?_) #[true, true, true, true, true, false, false, false, false, false, false, false, false] rfl rfl (by kernel_rfl) (fun _ _ _ h => h) (Or.inl ⟨by rfl, ?_⟩) ?_ ?_;rotate_left;(intro w';go_simp;with_reducible rfl);rotate_left;(simp only [Act.put, sIb, sC0, sCs, i64_w, i32_w];rfl);refine pure_ (i := 5) (N := some 36) (v := ?_) (a' := ?_) #[true, true, true, true, true, true, false, false, false, false, false, false, false] rfl rfl (by kernel_rfl) (fun _ _ _ h => h) (Or.inl ⟨by rfl, ?_⟩) ?_ ?_;rotate_left;(intro w';go_simp;with_reducible rfl);rotate_left;(simp only [Act.put, sIb, sC0, sCs, i64_w, i32_w];rfl);refine pure_ (i := 6) (N := some 37) (v := ?_) (a' := ?_) #[true, true, true, true, true, true, true, false, false, false, false, false, false] rfl rfl (by kernel_rfl) (fun _ _ _ h => h) (Or.inl ⟨by rfl, ?_⟩) ?_ ?_;rotate_left;(intro w';go_simp;with_reducible rfl);rotate_left;(simp only [Act.put, sIb, sC0, sCs, i64_w, i32_w];rfl);refine pure_ (i := 7) (N := some 38) (v := ?_) (a' := ?_) #[true, true, true, true, true, true, true, true, false, false, false, false, false] rfl rfl (by kernel_rfl) (fun _ _ _ h => h) (Or.inl ⟨by rfl, ?_⟩) ?_ ?_;rotate_left;(intro w';go_simp;with_reducible rfl);rotate_left;(simp only [Act.put, sIb, sC0, sCs, i64_w, i32_w];rfl);refine pure_ (i := 8) (N := some 39) (v := ?_) (a' := ?_) #[true, true, true, true, true, true, true, true, true, false, false, false, false] rfl rfl (by kernel_rfl) (fun _ _ _ h => h) (Or.inl ⟨by rfl, ?_⟩) ?_ ?_;rotate_left;(intro w';go_simp;with_reducible rfl);rotate_left;(simp only [Act.put, sIb, sC0, sCs, i64_w, i32_w];rfl);refine take_ (i := 9) (N := some 40) (v := ?_) (a' := ?_) #[true, true, true, true, true, true, true, true, true, true, false, false, false] rfl rfl (by kernel_rfl) (fun _ _ _ h => h) (Or.inl ⟨by rfl, ?_⟩) hHeld ?_ ?_;rotate_left
     ·rintro w' ⟨s0, s1, s2, s3, s4, s5, s6, s7⟩
      go_simp;with_reducible rfl
     rotate_left;(simp only [Act.put, sIb, sC0, sCs, i64_w, i32_w];rfl);refine take_ (i := 10) (N := some 41) (v := ?_) (a' := ?_) #[true, true, true, true, true, true, true, true, true, true, true, false, false] rfl rfl (by kernel_rfl) (fun _ _ _ h => h) (Or.inl ⟨by rfl, ?_⟩) hHeld ?_ ?_;rotate_left
     ·rintro w' ⟨s0, s1, s2, s3, s4, s5, s6, s7⟩
      go_simp;with_reducible rfl
     rotate_left;(simp only [Act.put, sIb, sC0, sCs, i64_w, i32_w];rfl)
     refine one_ (i := 11) (N := some 42) #[true, true, true, true, true, true, true, true, true, true, true, true, false] rfl rfl (by kernel_rfl) (by decide) (fun K hK => ?_)
     refine goes_ Try.func47 (by kernel_rfl) rfl #[.agg #[.int .i64 a.f0, .int .i64 a.f1, .int .i64 a.f2, .bool a.f3], .agg #[.int .i64 (i : Int), .int .i64 t, .int .i64 1, .bool u]] (by rfl) rfl rfl (by simp only [List.map_toArray, List.map_cons, List.map_nil]; rfl) ?_
     with_reducible refine (undercroftref10_goes.calls a.f0 a.f1 a.f2 a.f3 (i : Int) t 1 u q _ HQ.out).mono ?_
     rintro e w7 ⟨rfl, hb7⟩
     refine ⟨_, rfl, ?_⟩
     have HB7 := Aside0.mk hb7
     refine hK.out _ _ ⟨(hb7.cell (World.block_lt_of_cell? _ _ hHeld.1)).trans hHeld.1, (hb7.cell (World.block_lt_of_cell? _ _ hHeld.2.1)).trans hHeld.2.1, (hb7.cell (World.block_lt_of_cell? _ _ hHeld.2.2.1)).trans hHeld.2.2.1, (hb7.cell (World.block_lt_of_cell? _ _ hHeld.2.2.2.1)).trans hHeld.2.2.2.1, (hb7.cell (World.block_lt_of_cell? _ _ hHeld.2.2.2.2.1)).trans hHeld.2.2.2.2.1, (hb7.cell (World.block_lt_of_cell? _ _ hHeld.2.2.2.2.2.1)).trans hHeld.2.2.2.2.2.1, (hb7.cell (World.block_lt_of_cell? _ _ hHeld.2.2.2.2.2.2.1)).trans hHeld.2.2.2.2.2.2.1, (hb7.cell (World.block_lt_of_cell? _ _ hHeld.2.2.2.2.2.2.2)).trans hHeld.2.2.2.2.2.2.2⟩ (fun hHeld => ?_)
     clear hK K;refine norm_ (a' := ?_) ?_ ?_;rotate_left
     ·show Act.put _ (some 42) _ = _
      simp only [Act.put, sIb, sC0, sCs, i64_w, i32_w];rfl
     refine pure_ (i := 12) (N := some 43) (v := ?_) (a' := ?_) #[true, true, true, true, true, true, true, true, true, true, true, true, true] rfl rfl (by kernel_rfl) (fun _ _ _ h => h) (Or.inl ⟨by rfl, ?_⟩) ?_ ?_;rotate_left;(intro w';go_simp;with_reducible rfl);rotate_left;(simp only [Act.put, sIb, sC0, sCs, i64_w, i32_w];rfl)
     refine done_ (by kernel_rfl) ?_
     have ho7 := Kd.R_below (Kd.R_drew HO5.out) HB7.out
     have he7 := blk_below (blk_drew HE5.out) HB7.out
     have hb7' := (below_drew1 HB5.out).trans (HB7.out.mono HB5.out.size)
     clear hc0 hc1 hc2 hc3 d0 d1 d2 d3 hHeld
     cases q with
     | true =>
      have HI2 := Aside0.mk (show gath T U (i + 1) = acc.set m ⟨a.f0, a.f1, wrap64 (a.f2 + 1), a.f3⟩ by
       rw [HI.out]; unfold addE; rw [if_neg HZ.out, HNN.out, HMM.out, HAA.out, if_pos hq])
      obtain ⟨ce, hcl, hM, hcc, hfr⟩ := Kd.R_elem ho7 z24 (m : Int) hm0 hmn
      obtain rfl := k24_openM hM
      have hsg := (Kd.R_seg ho7 (m : Int) hm0 hmn (seg := [.int .i64 (wrap64 (a.f2 + 1))]) (j := 2) hcl hcc (show 3 ≤ 4 from by decide) (x' := (⟨a.f0, a.f1, wrap64 (a.f2 + 1), a.f3⟩ : S24)) (by rw [Int.toNat_natCast, HAA.out]; exact k24_mkM _ _ _ (⟨a.f0, a.f1, wrap64 (a.f2 + 1), a.f3⟩ : S24)) (fun _ hk => hk)).1
      rw [Int.toNat_natCast] at hcc hfr hM hsg
      rw [HAA.out] at hcc hM
      have d2 : World.cell? _ ⟨go, m * 4 + 2, none⟩ = some (.int .i64 a.f2) := hcc 2 _ rfl
      have f2 : World.frozen? _ ⟨go, m * 4 + 2, none⟩ = false := hfr 2
      have HSG := Aside0.mk hsg
      have HBS := Aside0.mk hb7'
      clear hcl hM hcc hfr hsg ho7 he7 hb7' hq
      go_wp2
      go_roundg g
      case measure => omega
      case rel => exact ⟨i + 1, acc.set m ⟨a.f0, a.f1, wrap64 (a.f2 + 1), a.f3⟩, by first | (rw [hiw]; done) | (simp; done), ⟨by have := HK.out; omega⟩, ⟨HI2.out.symm⟩, HSG, ⟨Hl.below_set_ HBS.out HGB.out⟩⟩
     | false =>
      have HI2 := Aside0.mk (show gath T U (i + 1) = acc ++ [⟨(i : Int), t, 1, u⟩] by
       rw [HI.out]; unfold addE; rw [if_neg HZ.out, HNN.out, HMM.out, HAA.out, hq, if_neg (by decide)])
      have hc0 := (blk_cell he7 0).trans rfl
      have hc1 := (blk_cell he7 1).trans rfl
      have hc2 := (blk_cell he7 2).trans rfl
      have hc3 := (blk_cell he7 3).trans rfl
      have HO7 := Aside0.mk ho7
      have HB7' := Aside0.mk hb7'
      clear ho7 he7 hb7' hq
      go_wp2_with ((with_reducible refine gate_builtin (b := .append) (xs := #[.tmp 54, .tmp 56]) rfl ?_); at_builtin; refine Kd.R_append k24 (w0 := w) w.heap.size rfl (.tmp 54) (.tmp 56) 22 24 (.agg #[(.int .i64 0), (.int .i64 0), (.int .i64 0), (.bool false)]) 32 rfl Try.underlying22 info24 rfl (by decide) (by omega) _ acc (⟨(i : Int), t, 1, u⟩ : S24) [.int .i64 (i : Int), .int .i64 t, .int .i64 1, .bool u] (fun _ => True) (fun _ => False) rfl rfl (k24_mkM _ _ _ (⟨(i : Int), t, 1, u⟩ : S24)) (fun _ hk => hk.elim) (fun _ _ => trivial) HO7.out HB7'.out HB7'.out.size (by have := HAL.out; omega) ?_; intro v8 w8 ho8 hb8 hg8 hat8; have HO8 := Aside0.mk ho8; have HB8 := Aside0.mk hb8; clear ho8 hb8 hg8 hat8)
      go_roundg g
      case measure => omega
      case rel => exact ⟨i + 1, acc ++ [⟨(i : Int), t, 1, u⟩], by first | (rw [hiw]; done) | (simp; done), ⟨by have := HK.out; omega⟩, ⟨HI2.out.symm⟩, HO8, HB8⟩
end Go.Proofs.Ytopmjjnkolfciaa.Pr
end
section
namespace Go.Proofs.Ytopmjjnkolfciaa.Pr
open Go.RowKit Go.Proofs.YtopmjjnkolfciaaW.PrintWords Go.Proofs.YtopmjjnkolfciaaW.PrintLast Go.Proofs.YtopmjjnkolfciaaW.PrintMore
attribute [local go_sem] max2_int min2_int max_two min_two max_three min_three max_four min_four
attribute [local go_sem] Go.Proofs.Ytopmjjnkolfciaa.Hl.str_geq Go.Proofs.Ytopmjjnkolfciaa.Hl.str_gtr Go.Proofs.Ytopmjjnkolfciaa.Hl.str_leq
set_option linter.unusedVariables false
set_option linter.unusedSimpArgs false
set_option maxHeartbeats 8000000 in
set_option maxRecDepth 100000 in
theorem fit_calls (B : Nat) (T : List Int) (U : List Bool) (L : List S24) (w : World) (hs : Says T U (AtB L)) (hall : ∀ e ∈ L, mayE e = true) (hr : riseL L) (hm : w.heap[B]? = some (.cells (mapV T U) 70 (0, 0))) :
  Calls Try.prog 46 #[.pointer (some ⟨B, 0, none⟩)] w fun e w' => ∃ v : Value, e = .returned (.tuple #[v, .int .i64 (fitL (mergeL L)).2]) ∧ Kd.R k24 24 w' w.heap.size (fun _ => True) v (fitL (mergeL L)).1 ∧ Below w.heap.size w w' := by
 have hg := gather_calls B T U w hs.lenT hs.lenU hm
 rw [gath_merge hs hall hr] at hg
 obtain ⟨M, hM⟩ : ∃ M, mergeL L = M := ⟨_, rfl⟩
 rw [hM] at hg ⊢
 have HGC := Aside0.mk hg
 clear hg hs hall hr hm hM
 by_cases hl : M.length > 60
 ·have hlb : decide (60 < (M.length : Int)) = true := decide_eq_true (by omega)
  have hf : fitL M = ([], 9) := by unfold fitL; rw [if_pos hl]
  rw [hf]
  clear hl hf
  go_enter Try.func46, Try.ntmps46
  go_wp2_with (go_at_call 72; refine HGC.out.mono ?_; rintro e2 w2 ⟨v2, rfl, ho2, hb2⟩; obtain ⟨A2, c2, rfl⟩ := Kd.R_slice ho2; have HO2 := Aside0.mk ho2; have HB2 := Aside0.mk hb2; clear ho2 hb2)
  go_ret2
  exact ⟨_, rfl, Kd.R_nil _ _ _ _ _, HB2.out⟩
 ·have hlb : decide (60 < (M.length : Int)) = false := decide_eq_false (by omega)
  have hf : fitL M = (M, 0) := by unfold fitL; rw [if_neg hl]
  rw [hf]
  clear hl hf
  go_enter Try.func46, Try.ntmps46
  go_wp2_with (go_at_call 72; refine HGC.out.mono ?_; rintro e2 w2 ⟨v2, rfl, ho2, hb2⟩; obtain ⟨A2, c2, rfl⟩ := Kd.R_slice ho2; have HO2 := Aside0.mk ho2; have HB2 := Aside0.mk hb2; clear ho2 hb2)
  go_ret2
  exact ⟨_, rfl, HO2.out, HB2.out⟩
end Go.Proofs.Ytopmjjnkolfciaa.Pr
end
section
namespace Go.Proofs.Ytopmjjnkolfciaa.Pr
open Go.RowKit Go.Proofs.YtopmjjnkolfciaaW.PrintWords Go.Proofs.YtopmjjnkolfciaaW.PrintLast Go.Proofs.YtopmjjnkolfciaaW.PrintMore
attribute [local go_sem] max2_int min2_int max_two min_two max_three min_three max_four min_four
attribute [local go_sem] Go.Proofs.Ytopmjjnkolfciaa.Hl.str_geq Go.Proofs.Ytopmjjnkolfciaa.Hl.str_gtr Go.Proofs.Ytopmjjnkolfciaa.Hl.str_leq
set_option linter.unusedVariables false
set_option linter.unusedSimpArgs false
def undercroftref10_Put.f (k : Nat) (l0 : List S24) (a1_0 a1_1 a1_2 : Int) (a1_3 : Bool) : Option (List S24 × Int) := (undercroftref10_Check.f k l0).bind fun t => (if t = 0 then ((undercroftref10_May.f a1_0 a1_1 a1_2 a1_3).bind fun q => (if q = true then (if okB l0 = true ∧ mayE ⟨a1_0, a1_1, a1_2, a1_3⟩ = true then some (putR l0 ⟨a1_0, a1_1, a1_2, a1_3⟩) else none) else some ([], 1))) else some ([], 1))
theorem clash_dev {l : List S24} {e : S24} {x : Nat} {d : Int} {u : Bool} (h : AtB l x d u) (h1 : e.f1 ≤ d) (h2 : d < e.f1 + e.f2) : clash l e = true := by
 obtain ⟨y, hy, a1, a2, a3, _⟩ := h
 unfold clash
 refine List.any_eq_true.2 ⟨y, hy, ?_⟩
 have : disjD y e = false := decide_eq_false (by omega)
 rw [this]; rfl
theorem clash_file {l : List S24} {e : S24} {x : Nat} {d : Int} {u : Bool} (h : AtB l x d u) (h1 : e.f0 ≤ (x : Int)) (h2 : (x : Int) < e.f0 + e.f2) : clash l e = true := by
 obtain ⟨y, hy, a1, a2, _, _⟩ := h
 unfold clash
 refine List.any_eq_true.2 ⟨y, hy, ?_⟩
 have : disjF y e = false := decide_eq_false (by omega)
 rw [this, Bool.and_false]; rfl
theorem clash_none {l : List S24} {e : S24} (hall : ∀ x ∈ l, mayE x = true) (he : mayE e = true)
  (h1 : ∀ x : Nat, x < 256 → ∀ d u, AtB l x d u → ¬ (e.f1 ≤ d ∧ d < e.f1 + e.f2)) (h2 : ∀ x : Nat, e.f0 ≤ (x : Int) → (x : Int) < e.f0 + e.f2 → ∀ d u, ¬ AtB l x d u) : clash l e = false ∧ ∀ y ∈ l, disjF y e = true := by
 have hm := mayE_facts he
 have hF : ∀ y ∈ l, disjF y e = true := fun y hy => by
  have hmy := mayE_facts (hall y hy)
  refine decide_eq_true ?_
  by_cases c : y.f0 + y.f2 ≤ e.f0 ∨ e.f0 + e.f2 ≤ y.f0
  ·exact c
  ·exfalso
   by_cases c2 : y.f0 ≤ e.f0
   ·obtain ⟨x, hx⟩ : ∃ x : Nat, e.f0 = (x : Int) := ⟨e.f0.toNat, by omega⟩
    exact h2 x (by omega) (by omega) _ _ ⟨y, hy, by omega, by omega, rfl, rfl⟩
   ·obtain ⟨x, hx⟩ : ∃ x : Nat, y.f0 = (x : Int) := ⟨y.f0.toNat, by omega⟩
    exact h2 x (by omega) (by omega) _ _ ⟨y, hy, by omega, by omega, rfl, rfl⟩
 have hD : ∀ y ∈ l, disjD y e = true := fun y hy => by
  have hmy := mayE_facts (hall y hy)
  refine decide_eq_true ?_
  by_cases c : y.f1 + y.f2 ≤ e.f1 ∨ e.f1 + e.f2 ≤ y.f1
  ·exact c
  ·exfalso
   obtain ⟨x, hx⟩ : ∃ x : Nat, y.f0 + (max e.f1 y.f1 - y.f1) = (x : Int) := ⟨(y.f0 + (max e.f1 y.f1 - y.f1)).toNat, by omega⟩
   exact h1 x (by omega) (max e.f1 y.f1) y.f3 ⟨y, hy, by omega, by omega, by omega, rfl⟩ (by omega)
 refine ⟨?_, hF⟩
 unfold clash
 refine Bool.eq_false_iff.2 fun h => ?_
 obtain ⟨y, hy, h⟩ := List.any_eq_true.1 h
 rw [hF y hy, hD y hy] at h
 cases h
set_option maxHeartbeats 8000000 in
set_option maxRecDepth 100000 in
theorem undercroftref10_Put.calls (k : Nat) (A0 : Option Addr) (c0 : Nat) (l0 : List (S24)) (a1_0 : Int) (a1_1 : Int) (a1_2 : Int) (a1_3 : Bool) (r1 : List (S24)) (r2 : Int) (w : World) (hr0 : Kd.C k24 w A0 l0.length l0) (hc0 : l0.length ≤ c0) (h : undercroftref10_Put.f k l0 a1_0 a1_1 a1_2 a1_3 = some (r1, r2)) :
  Calls Try.prog 17 #[.slice A0 l0.length c0, .agg #[.int .i64 a1_0, .int .i64 a1_1, .int .i64 a1_2, .bool a1_3]] w fun e w' => ∃ v0_ : Value, e = .returned (.tuple #[v0_, .int .i64 r2]) ∧ Kd.R k24 24 w' w.heap.size (fun _ => True) v0_ r1 ∧ Below w.heap.size w w' := by
 unfold undercroftref10_Put.f at h
 obtain ⟨t, ht, h⟩ := Option.bind_eq_some_iff.1 h
 have hu24 := Try.underlying24
 have HR0 := Aside0.mk hr0
 have HC0 := Aside0.mk hc0
 have HT := Aside0.mk ht
 have HBA := Aside0.mk ((Below.refl w.heap.size w).alloc (Nat.le_refl _) (.cells #[.int .i64 a1_0, .int .i64 a1_1, .int .i64 a1_2, .bool a1_3] 24))
 clear hr0 hc0 ht
 by_cases h0 : t = 0
 ·subst h0
  rw [if_pos rfl] at h
  obtain ⟨q, hq, h⟩ := Option.bind_eq_some_iff.1 h
  have HQ := Aside0.mk hq
  clear hq
  by_cases hqt : q = true
  ·subst hqt
   rw [if_pos rfl] at h
   by_cases hok : okB l0 = true ∧ mayE ⟨a1_0, a1_1, a1_2, a1_3⟩ = true
   ·rw [if_pos hok] at h
    have HOK := Aside0.mk (okB_facts hok.1)
    obtain ⟨e, he⟩ : ∃ e : S24, (⟨a1_0, a1_1, a1_2, a1_3⟩ : S24) = e := ⟨_, rfl⟩
    rw [he] at h hok
    have HME := Aside0.mk hok.2
    have hm := mayE_facts hok.2
    have HM := Aside0.mk (show putR l0 e = (r1, r2) from Option.some.inj h)
    have e0 : a1_0 = e.f0 := by rw [← he]
    have e1 : a1_1 = e.f1 := by rw [← he]
    have e2 : a1_2 = e.f2 := by rw [← he]
    have e3 : a1_3 = e.f3 := by rw [← he]
    rw [e0, e1, e2, e3] at HBA ⊢
    rw [e0, e1, e2, e3] at HQ
    clear h hok he e0 e1 e2 e3
    obtain ⟨at0, ha0⟩ : ∃ at0 : Nat, e.f0 = (at0 : Int) := ⟨e.f0.toNat, by omega⟩
    obtain ⟨n, hn⟩ : ∃ n : Nat, e.f2 = (n : Int) := ⟨e.f2.toNat, by omega⟩
    have HA0 := Aside0.mk ha0
    have HN := Aside0.mk hn
    have HMM := Aside0.mk hm
    clear ha0 hn hm
    go_enter Try.func17, Try.ntmps17
    go_wp2_with (first | (go_at_call 45; refine (spread_calls A0 c0 l0 _ (Kd.C_below HR0.out HB2.out) HC0.out (by have := HOK.out.1; omega) HOK.out.2.1 HOK.out.2.2).mono ?_; rintro e3 w3 ⟨B, T, U, rfl, hB3, hg3, hs3, hb3⟩; have HBK3 := Aside0.mk (blk_below HBK2.out hb3); have HG3 := Aside0.mk hg3; have HS3 := Aside0.mk hs3; have HGE := Aside0.mk (Nat.le_trans HB2.out.size hB3); have HNE := Aside0.mk (show w.heap.size ≠ B from fun h => by have := blk_lt HBK2.out; omega); have HB3 := Aside0.mk (HB2.out.trans (hb3.mono HB2.out.size)); clear hg3 hs3 hb3 hB3) | (go_at_call 44; refine (undercroftref10_May.calls e.f0 e.f1 e.f2 e.f3 true _ HQ.out).mono ?_; rintro e2 w2 ⟨rfl, hb2⟩; have HBK2 := Aside0.mk (blk_below HBK1.out hb2); have HB2 := Aside0.mk (HB1.out.trans (hb2.mono HB1.out.size)); clear hb2) | (go_at_call 18; refine (undercroftref10_Check.calls k A0 c0 l0 0 _ (Kd.C_alloc HR0.out _) HC0.out HT.out).mono ?_; rintro e1 w1 ⟨rfl, hb1⟩; have HBK1 := Aside0.mk (blk_below (blk_new w _) hb1); have hc10 := (blk_cell HBK1.out 0).trans rfl; have hc11 := (blk_cell HBK1.out 1).trans rfl; have hc12 := (blk_cell HBK1.out 2).trans rfl; have hc13 := (blk_cell HBK1.out 3).trans rfl; have HB1 := Aside0.mk (HBA.out.trans (hb1.mono HBA.out.size)); clear hb1))
    obtain ⟨sum, hsum⟩ : ∃ sum : Int, e.f1 + e.f2 = sum := ⟨_, rfl⟩
    have hsw : wrap64 (e.f1 + e.f2) = sum := by have := HMM.out; unfold wrap64; omega
    have HSUM := Aside0.mk hsum
    clear hsum
    go_loopg [7] 256 (fun kq v7 w' => ∃ (i : Nat), v7 = .int .i64 (i : Int) ∧ Aside0 (i + kq = 256) ∧ Aside0 (∀ y : Nat, y < i → ¬ (e.f1 ≤ T.getD y 0 ∧ T.getD y 0 < e.f1 + e.f2)) ∧ Aside0 (w'.heap[B]? = some (.cells (mapV T U) 70 (0, 0))) ∧ Aside0 (w'.heap[w.heap.size]? = some (.cells #[.int .i64 e.f0, .int .i64 e.f1, .int .i64 e.f2, .bool e.f3] 24 (0, 0))) ∧ Aside0 (Below w.heap.size w w'))
    case atStart => exact ⟨0, rfl, ⟨rfl⟩, ⟨fun y hy => absurd hy (Nat.not_lt_zero _)⟩, HG3, HBK3, HB3⟩
    case round =>
     obtain ⟨i, rfl, HK, HNO, HG, HE, HB⟩ := hrel
     clear hsw
     have hsw : wrap64 (e.f1 + e.f2) = sum := by have := HMM.out; have := HSUM.out; unfold wrap64; omega
     have hc0 := (blk_cell HE.out 0).trans rfl
     have hc1 := (blk_cell HE.out 1).trans rfl
     have hc2 := (blk_cell HE.out 2).trans rfl
     have hc3 := (blk_cell HE.out 3).trans rfl
     cases gk with
     | succ g =>
      have hi6 : decide ((i : Int) < 256) = true := decide_eq_true (by have := HK.out; omega)
      have hib : (0 : Int) ≤ (i : Int) ∧ (i : Int) < 256 := by have := HK.out; omega
      have hiw : wrap64 ((i : Int) + 1) = ((i + 1 : Nat) : Int) := by unfold wrap64; omega
      have hcT := (blk_cell HG.out i).trans (mapV_T (U := U) (by rw [HS3.out.lenT]; have := HK.out; omega))
      obtain ⟨tt, htt⟩ : ∃ tt : Int, T.getD i 0 = tt := ⟨_, rfl⟩
      rw [htt] at hcT
      have HTT := Aside0.mk htt
      clear htt
      by_cases c1 : e.f1 ≤ tt
      ·have c1b : decide (e.f1 ≤ tt) = true := decide_eq_true c1
       by_cases c2 : tt < sum
       ·have c2b : decide (tt < sum) = true := decide_eq_true c2
        have HR1 := Aside0.mk (show r1 = [] ∧ r2 = 4 by
         have h6 : i < 256 := by have := HK.out; omega
         have hat := (HS3.out.says i h6 tt _).1 ⟨HTT.out, by have := HMM.out; omega, rfl⟩
         have hcl := clash_dev hat c1 (by have := HSUM.out; omega)
         have h9 := HM.out
         unfold putR at h9
         rw [if_pos hcl] at h9
         obtain ⟨a, b⟩ := Prod.mk.inj h9
         exact ⟨a.symm, b.symm⟩)
        clear c1 c2;go_wp2
        refine start_ (n := 23) (S := fun w' => w'.cell? ⟨B, i, none⟩ = some (.int .i64 tt) ∧ w'.cell? ⟨w.heap.size, 1, none⟩ = some (.int .i64 e.f1) ∧ w'.cell? ⟨w.heap.size, 2, none⟩ = some (.int .i64 e.f2)) (ds := []) #[false, false, false, false, false, false, false, false, false, false, false, false, false, false, false, false, false, false, false, false, false, false, false] (by kernel_rfl) rfl rfl ⟨hcT, hc1, hc2⟩ (fun hHeld => ?_)
        refine pure_ (i := 0) (N := some 23) (v := ?_) (a' := ?_) #[true, false, false, false, false, false, false, false, false, false, false, false, false, false, false, false, false, false, false, false, false, false, false] rfl rfl (by kernel_rfl) (fun _ _ _ h => h) (Or.inl ⟨by rfl, ?_⟩) ?_ ?_;rotate_left;(intro w';go_simp;with_reducible rfl);rotate_left;(simp only [Act.put, sIb, sC0, sCs, i64_w, i32_w];rfl);refine pure_ (i := 1) (N := some 24) (v := ?_) (a' := ?_) #[true, true, false, false, false, false, false, false, false, false, false, false, false, false, false, false, false, false, false, false, false, false, false] rfl rfl (by kernel_rfl) (fun _ _ _ h => h) (Or.inl ⟨by rfl, ?_⟩) ?_ ?_;rotate_left;(intro w';go_simp;with_reducible rfl);rotate_left;(simp only [Act.put, sIb, sC0, sCs, i64_w, i32_w];rfl);refine pure_ (i := 2) (N := some 25) (v := ?_) (a' := ?_) #[true, true, true, false, false, false, false, false, false, false, false, false, false, false, false, false, false, false, false, false, false, false, false] rfl rfl (by kernel_rfl) (fun _ _ _ h => h) (Or.inl ⟨by rfl, ?_⟩) ?_ ?_;rotate_left;(intro w';go_simp;with_reducible rfl);rotate_left;(simp only [Act.put, sIb, sC0, sCs, i64_w, i32_w];rfl);refine pure_ (i := 3) (N := some 26) (v := ?_) (a' := ?_) #[true, true, true, true, false, false, false, false, false, false, false, false, false, false, false, false, false, false, false, false, false, false, false] rfl rfl (by kernel_rfl) (fun _ _ _ h => h) (Or.inl ⟨by rfl, ?_⟩) ?_ ?_;rotate_left;(intro w';go_simp;with_reducible rfl);rotate_left;(simp only [Act.put, sIb, sC0, sCs, i64_w, i32_w];rfl);refine pure_ (i := 4) (N := some 27) (v := ?_) (a' := ?_) #[true, true, true, true, true, false, false, false, false, false, false, false, false, false, false, false, false, false, false, false, false, false, false] rfl rfl (by kernel_rfl) (fun _ _ _ h => h) (Or.inl ⟨by rfl, ?_⟩) ?_ ?_;rotate_left;(intro w';go_simp;with_reducible rfl);rotate_left;(simp only [Act.put, sIb, sC0, sCs, i64_w, i32_w];rfl);refine pure_ (i := 6) (N := some 29) (v := ?_) (a' := ?_) #[true, true, true, true, true, false, true, false, false, false, false, false, false, false, false, false, false, false, false, false, false, false, false] rfl rfl (by kernel_rfl) (fun _ _ _ h => h) (Or.inl ⟨by rfl, ?_⟩) ?_ ?_;rotate_left;(intro w';go_simp;with_reducible rfl);rotate_left;(simp only [Act.put, sIb, sC0, sCs, i64_w, i32_w];rfl);refine take_ (i := 5) (N := some 28) (v := ?_) (a' := ?_) #[true, true, true, true, true, true, true, false, false, false, false, false, false, false, false, false, false, false, false, false, false, false, false] rfl rfl (by kernel_rfl) (fun _ _ _ h => h) (Or.inl ⟨by rfl, ?_⟩) hHeld ?_ ?_;rotate_left
        ·rintro w' ⟨s0, s1, s2⟩
         go_simp;with_reducible rfl
        rotate_left;(simp only [Act.put, sIb, sC0, sCs, i64_w, i32_w];rfl);refine take_ (i := 7) (N := some 30) (v := ?_) (a' := ?_) #[true, true, true, true, true, true, true, true, false, false, false, false, false, false, false, false, false, false, false, false, false, false, false] rfl rfl (by kernel_rfl) (fun _ _ _ h => h) (Or.inl ⟨by rfl, ?_⟩) hHeld ?_ ?_;rotate_left
        ·rintro w' ⟨s0, s1, s2⟩
         go_simp;with_reducible rfl
        rotate_left;(simp only [Act.put, sIb, sC0, sCs, i64_w, i32_w];rfl);refine pure_ (i := 8) (N := some 31) (v := ?_) (a' := ?_) #[true, true, true, true, true, true, true, true, true, false, false, false, false, false, false, false, false, false, false, false, false, false, false] rfl rfl (by kernel_rfl) (fun _ _ _ h => h) (Or.inl ⟨by rfl, ?_⟩) ?_ ?_;rotate_left;(intro w';go_simp;with_reducible rfl);rotate_left;(simp only [Act.put, sIb, sC0, sCs, i64_w, i32_w];rfl);refine pure_ (i := 9) (N := some 32) (v := ?_) (a' := ?_) #[true, true, true, true, true, true, true, true, true, true, false, false, false, false, false, false, false, false, false, false, false, false, false] rfl rfl (by kernel_rfl) (fun _ _ _ h => h) (Or.inl ⟨by rfl, ?_⟩) ?_ ?_;rotate_left;(intro w';go_simp;with_reducible rfl);rotate_left;(simp only [Act.put, sIb, sC0, sCs, i64_w, i32_w];rfl);refine pure_ (i := 10) (N := some 33) (v := ?_) (a' := ?_) #[true, true, true, true, true, true, true, true, true, true, true, false, false, false, false, false, false, false, false, false, false, false, false] rfl rfl (by kernel_rfl) (fun _ _ _ h => h) (Or.inl ⟨by rfl, ?_⟩) ?_ ?_;rotate_left;(intro w';go_simp;with_reducible rfl);rotate_left;(simp only [Act.put, sIb, sC0, sCs, i64_w, i32_w];rfl);refine pure_ (i := 11) (N := some 34) (v := ?_) (a' := ?_) #[true, true, true, true, true, true, true, true, true, true, true, true, false, false, false, false, false, false, false, false, false, false, false] rfl rfl (by kernel_rfl) (fun _ _ _ h => h) (Or.inl ⟨by rfl, ?_⟩) ?_ ?_;rotate_left;(intro w';go_simp;with_reducible rfl);rotate_left;(simp only [Act.put, sIb, sC0, sCs, i64_w, i32_w];rfl);refine pure_ (i := 12) (N := some 35) (v := ?_) (a' := ?_) #[true, true, true, true, true, true, true, true, true, true, true, true, true, false, false, false, false, false, false, false, false, false, false] rfl rfl (by kernel_rfl) (fun _ _ _ h => h) (Or.inl ⟨by rfl, ?_⟩) ?_ ?_;rotate_left;(intro w';go_simp;with_reducible rfl);rotate_left;(simp only [Act.put, sIb, sC0, sCs, i64_w, i32_w];rfl);refine pure_ (i := 13) (N := some 36) (v := ?_) (a' := ?_) #[true, true, true, true, true, true, true, true, true, true, true, true, true, true, false, false, false, false, false, false, false, false, false] rfl rfl (by kernel_rfl) (fun _ _ _ h => h) (Or.inl ⟨by rfl, ?_⟩) ?_ ?_;rotate_left;(intro w';go_simp;with_reducible rfl);rotate_left;(simp only [Act.put, sIb, sC0, sCs, i64_w, i32_w];rfl);refine pure_ (i := 14) (N := some 37) (v := ?_) (a' := ?_) #[true, true, true, true, true, true, true, true, true, true, true, true, true, true, true, false, false, false, false, false, false, false, false] rfl rfl (by kernel_rfl) (fun _ _ _ h => h) (Or.inl ⟨by rfl, ?_⟩) ?_ ?_;rotate_left;(intro w';go_simp;with_reducible rfl);rotate_left;(simp only [Act.put, sIb, sC0, sCs, i64_w, i32_w];rfl);refine pure_ (i := 16) (N := some 39) (v := ?_) (a' := ?_) #[true, true, true, true, true, true, true, true, true, true, true, true, true, true, true, false, true, false, false, false, false, false, false] rfl rfl (by kernel_rfl) (fun _ _ _ h => h) (Or.inl ⟨by rfl, ?_⟩) ?_ ?_;rotate_left;(intro w';go_simp;with_reducible rfl);rotate_left;(simp only [Act.put, sIb, sC0, sCs, i64_w, i32_w];rfl);refine pure_ (i := 18) (N := some 41) (v := ?_) (a' := ?_) #[true, true, true, true, true, true, true, true, true, true, true, true, true, true, true, false, true, false, true, false, false, false, false] rfl rfl (by kernel_rfl) (fun _ _ _ h => h) (Or.inl ⟨by rfl, ?_⟩) ?_ ?_;rotate_left;(intro w';go_simp;with_reducible rfl);rotate_left;(simp only [Act.put, sIb, sC0, sCs, i64_w, i32_w];rfl);refine take_ (i := 15) (N := some 38) (v := ?_) (a' := ?_) #[true, true, true, true, true, true, true, true, true, true, true, true, true, true, true, true, true, false, true, false, false, false, false] rfl rfl (by kernel_rfl) (fun _ _ _ h => h) (Or.inl ⟨by rfl, ?_⟩) hHeld ?_ ?_;rotate_left
        ·rintro w' ⟨s0, s1, s2⟩
         go_simp;with_reducible rfl
        rotate_left;(simp only [Act.put, sIb, sC0, sCs, i64_w, i32_w];rfl);refine take_ (i := 17) (N := some 40) (v := ?_) (a' := ?_) #[true, true, true, true, true, true, true, true, true, true, true, true, true, true, true, true, true, true, true, false, false, false, false] rfl rfl (by kernel_rfl) (fun _ _ _ h => h) (Or.inl ⟨by rfl, ?_⟩) hHeld ?_ ?_;rotate_left
        ·rintro w' ⟨s0, s1, s2⟩
         go_simp;with_reducible rfl
        rotate_left;(simp only [Act.put, sIb, sC0, sCs, i64_w, i32_w];rfl);refine take_ (i := 19) (N := some 42) (v := ?_) (a' := ?_) #[true, true, true, true, true, true, true, true, true, true, true, true, true, true, true, true, true, true, true, true, false, false, false] rfl rfl (by kernel_rfl) (fun _ _ _ h => h) (Or.inl ⟨by rfl, ?_⟩) hHeld ?_ ?_;rotate_left
        ·rintro w' ⟨s0, s1, s2⟩
         go_simp;with_reducible rfl
        rotate_left;(simp only [Act.put, sIb, sC0, sCs, i64_w, i32_w];rfl);refine pure_ (i := 20) (N := some 43) (v := ?_) (a' := ?_) #[true, true, true, true, true, true, true, true, true, true, true, true, true, true, true, true, true, true, true, true, true, false, false] rfl rfl (by kernel_rfl) (fun _ _ _ h => h) (Or.inl ⟨by rfl, ?_⟩) ?_ ?_;rotate_left;(intro w';go_simp;with_reducible rfl);rotate_left;(simp only [Act.put, sIb, sC0, sCs, i64_w, i32_w];rfl);refine pure_ (i := 21) (N := some 44) (v := ?_) (a' := ?_) #[true, true, true, true, true, true, true, true, true, true, true, true, true, true, true, true, true, true, true, true, true, true, false] rfl rfl (by kernel_rfl) (fun _ _ _ h => h) (Or.inl ⟨by rfl, ?_⟩) ?_ ?_;rotate_left;(intro w';go_simp;with_reducible rfl);rotate_left;(simp only [Act.put, sIb, sC0, sCs, i64_w, i32_w];rfl);refine pure_ (i := 22) (N := some 45) (v := ?_) (a' := ?_) #[true, true, true, true, true, true, true, true, true, true, true, true, true, true, true, true, true, true, true, true, true, true, true] rfl rfl (by kernel_rfl) (fun _ _ _ h => h) (Or.inl ⟨by rfl, ?_⟩) ?_ ?_;rotate_left;(intro w';go_simp;with_reducible rfl);rotate_left;(simp only [Act.put, sIb, sC0, sCs, i64_w, i32_w];rfl)
        refine done_ (by kernel_rfl) ?_
        go_wp2
        go_ret2
        obtain ⟨rfl, rfl⟩ := HR1.out
        exact ⟨_, rfl, Kd.R_nil _ _ _ _ _, below_drew1 HB.out⟩
       ·have c2b : decide (tt < sum) = false := decide_eq_false c2
        have HC := Aside0.mk c2
        clear c1 c2;go_wp2
        refine start_ (n := 23) (S := fun w' => w'.cell? ⟨B, i, none⟩ = some (.int .i64 tt) ∧ w'.cell? ⟨w.heap.size, 1, none⟩ = some (.int .i64 e.f1) ∧ w'.cell? ⟨w.heap.size, 2, none⟩ = some (.int .i64 e.f2)) (ds := []) #[false, false, false, false, false, false, false, false, false, false, false, false, false, false, false, false, false, false, false, false, false, false, false] (by kernel_rfl) rfl rfl ⟨hcT, hc1, hc2⟩ (fun hHeld => ?_)
        refine pure_ (i := 0) (N := some 23) (v := ?_) (a' := ?_) #[true, false, false, false, false, false, false, false, false, false, false, false, false, false, false, false, false, false, false, false, false, false, false] rfl rfl (by kernel_rfl) (fun _ _ _ h => h) (Or.inl ⟨by rfl, ?_⟩) ?_ ?_;rotate_left;(intro w';go_simp;with_reducible rfl);rotate_left;(simp only [Act.put, sIb, sC0, sCs, i64_w, i32_w];rfl);refine pure_ (i := 1) (N := some 24) (v := ?_) (a' := ?_) #[true, true, false, false, false, false, false, false, false, false, false, false, false, false, false, false, false, false, false, false, false, false, false] rfl rfl (by kernel_rfl) (fun _ _ _ h => h) (Or.inl ⟨by rfl, ?_⟩) ?_ ?_;rotate_left;(intro w';go_simp;with_reducible rfl);rotate_left;(simp only [Act.put, sIb, sC0, sCs, i64_w, i32_w];rfl);refine pure_ (i := 2) (N := some 25) (v := ?_) (a' := ?_) #[true, true, true, false, false, false, false, false, false, false, false, false, false, false, false, false, false, false, false, false, false, false, false] rfl rfl (by kernel_rfl) (fun _ _ _ h => h) (Or.inl ⟨by rfl, ?_⟩) ?_ ?_;rotate_left;(intro w';go_simp;with_reducible rfl);rotate_left;(simp only [Act.put, sIb, sC0, sCs, i64_w, i32_w];rfl);refine pure_ (i := 3) (N := some 26) (v := ?_) (a' := ?_) #[true, true, true, true, false, false, false, false, false, false, false, false, false, false, false, false, false, false, false, false, false, false, false] rfl rfl (by kernel_rfl) (fun _ _ _ h => h) (Or.inl ⟨by rfl, ?_⟩) ?_ ?_;rotate_left;(intro w';go_simp;with_reducible rfl);rotate_left;(simp only [Act.put, sIb, sC0, sCs, i64_w, i32_w];rfl);refine pure_ (i := 4) (N := some 27) (v := ?_) (a' := ?_) #[true, true, true, true, true, false, false, false, false, false, false, false, false, false, false, false, false, false, false, false, false, false, false] rfl rfl (by kernel_rfl) (fun _ _ _ h => h) (Or.inl ⟨by rfl, ?_⟩) ?_ ?_;rotate_left;(intro w';go_simp;with_reducible rfl);rotate_left;(simp only [Act.put, sIb, sC0, sCs, i64_w, i32_w];rfl);refine pure_ (i := 6) (N := some 29) (v := ?_) (a' := ?_) #[true, true, true, true, true, false, true, false, false, false, false, false, false, false, false, false, false, false, false, false, false, false, false] rfl rfl (by kernel_rfl) (fun _ _ _ h => h) (Or.inl ⟨by rfl, ?_⟩) ?_ ?_;rotate_left;(intro w';go_simp;with_reducible rfl);rotate_left;(simp only [Act.put, sIb, sC0, sCs, i64_w, i32_w];rfl);refine take_ (i := 5) (N := some 28) (v := ?_) (a' := ?_) #[true, true, true, true, true, true, true, false, false, false, false, false, false, false, false, false, false, false, false, false, false, false, false] rfl rfl (by kernel_rfl) (fun _ _ _ h => h) (Or.inl ⟨by rfl, ?_⟩) hHeld ?_ ?_;rotate_left
        ·rintro w' ⟨s0, s1, s2⟩
         go_simp;with_reducible rfl
        rotate_left;(simp only [Act.put, sIb, sC0, sCs, i64_w, i32_w];rfl);refine take_ (i := 7) (N := some 30) (v := ?_) (a' := ?_) #[true, true, true, true, true, true, true, true, false, false, false, false, false, false, false, false, false, false, false, false, false, false, false] rfl rfl (by kernel_rfl) (fun _ _ _ h => h) (Or.inl ⟨by rfl, ?_⟩) hHeld ?_ ?_;rotate_left
        ·rintro w' ⟨s0, s1, s2⟩
         go_simp;with_reducible rfl
        rotate_left;(simp only [Act.put, sIb, sC0, sCs, i64_w, i32_w];rfl);refine pure_ (i := 8) (N := some 31) (v := ?_) (a' := ?_) #[true, true, true, true, true, true, true, true, true, false, false, false, false, false, false, false, false, false, false, false, false, false, false] rfl rfl (by kernel_rfl) (fun _ _ _ h => h) (Or.inl ⟨by rfl, ?_⟩) ?_ ?_;rotate_left;(intro w';go_simp;with_reducible rfl);rotate_left;(simp only [Act.put, sIb, sC0, sCs, i64_w, i32_w];rfl);refine pure_ (i := 9) (N := some 32) (v := ?_) (a' := ?_) #[true, true, true, true, true, true, true, true, true, true, false, false, false, false, false, false, false, false, false, false, false, false, false] rfl rfl (by kernel_rfl) (fun _ _ _ h => h) (Or.inl ⟨by rfl, ?_⟩) ?_ ?_;rotate_left;(intro w';go_simp;with_reducible rfl);rotate_left;(simp only [Act.put, sIb, sC0, sCs, i64_w, i32_w];rfl);refine pure_ (i := 10) (N := some 33) (v := ?_) (a' := ?_) #[true, true, true, true, true, true, true, true, true, true, true, false, false, false, false, false, false, false, false, false, false, false, false] rfl rfl (by kernel_rfl) (fun _ _ _ h => h) (Or.inl ⟨by rfl, ?_⟩) ?_ ?_;rotate_left;(intro w';go_simp;with_reducible rfl);rotate_left;(simp only [Act.put, sIb, sC0, sCs, i64_w, i32_w];rfl);refine pure_ (i := 11) (N := some 34) (v := ?_) (a' := ?_) #[true, true, true, true, true, true, true, true, true, true, true, true, false, false, false, false, false, false, false, false, false, false, false] rfl rfl (by kernel_rfl) (fun _ _ _ h => h) (Or.inl ⟨by rfl, ?_⟩) ?_ ?_;rotate_left;(intro w';go_simp;with_reducible rfl);rotate_left;(simp only [Act.put, sIb, sC0, sCs, i64_w, i32_w];rfl);refine pure_ (i := 12) (N := some 35) (v := ?_) (a' := ?_) #[true, true, true, true, true, true, true, true, true, true, true, true, true, false, false, false, false, false, false, false, false, false, false] rfl rfl (by kernel_rfl) (fun _ _ _ h => h) (Or.inl ⟨by rfl, ?_⟩) ?_ ?_;rotate_left;(intro w';go_simp;with_reducible rfl);rotate_left;(simp only [Act.put, sIb, sC0, sCs, i64_w, i32_w];rfl);refine pure_ (i := 13) (N := some 36) (v := ?_) (a' := ?_) #[true, true, true, true, true, true, true, true, true, true, true, true, true, true, false, false, false, false, false, false, false, false, false] rfl rfl (by kernel_rfl) (fun _ _ _ h => h) (Or.inl ⟨by rfl, ?_⟩) ?_ ?_;rotate_left;(intro w';go_simp;with_reducible rfl);rotate_left;(simp only [Act.put, sIb, sC0, sCs, i64_w, i32_w];rfl);refine pure_ (i := 14) (N := some 37) (v := ?_) (a' := ?_) #[true, true, true, true, true, true, true, true, true, true, true, true, true, true, true, false, false, false, false, false, false, false, false] rfl rfl (by kernel_rfl) (fun _ _ _ h => h) (Or.inl ⟨by rfl, ?_⟩) ?_ ?_;rotate_left;(intro w';go_simp;with_reducible rfl);rotate_left;(simp only [Act.put, sIb, sC0, sCs, i64_w, i32_w];rfl);refine pure_ (i := 16) (N := some 39) (v := ?_) (a' := ?_) #[true, true, true, true, true, true, true, true, true, true, true, true, true, true, true, false, true, false, false, false, false, false, false] rfl rfl (by kernel_rfl) (fun _ _ _ h => h) (Or.inl ⟨by rfl, ?_⟩) ?_ ?_;rotate_left;(intro w';go_simp;with_reducible rfl);rotate_left;(simp only [Act.put, sIb, sC0, sCs, i64_w, i32_w];rfl);refine pure_ (i := 18) (N := some 41) (v := ?_) (a' := ?_) #[true, true, true, true, true, true, true, true, true, true, true, true, true, true, true, false, true, false, true, false, false, false, false] rfl rfl (by kernel_rfl) (fun _ _ _ h => h) (Or.inl ⟨by rfl, ?_⟩) ?_ ?_;rotate_left;(intro w';go_simp;with_reducible rfl);rotate_left;(simp only [Act.put, sIb, sC0, sCs, i64_w, i32_w];rfl);refine take_ (i := 15) (N := some 38) (v := ?_) (a' := ?_) #[true, true, true, true, true, true, true, true, true, true, true, true, true, true, true, true, true, false, true, false, false, false, false] rfl rfl (by kernel_rfl) (fun _ _ _ h => h) (Or.inl ⟨by rfl, ?_⟩) hHeld ?_ ?_;rotate_left
        ·rintro w' ⟨s0, s1, s2⟩
         go_simp;with_reducible rfl
        rotate_left;(simp only [Act.put, sIb, sC0, sCs, i64_w, i32_w];rfl);refine take_ (i := 17) (N := some 40) (v := ?_) (a' := ?_) #[true, true, true, true, true, true, true, true, true, true, true, true, true, true, true, true, true, true, true, false, false, false, false] rfl rfl (by kernel_rfl) (fun _ _ _ h => h) (Or.inl ⟨by rfl, ?_⟩) hHeld ?_ ?_;rotate_left
        ·rintro w' ⟨s0, s1, s2⟩
         go_simp;with_reducible rfl
        rotate_left;(simp only [Act.put, sIb, sC0, sCs, i64_w, i32_w];rfl);refine take_ (i := 19) (N := some 42) (v := ?_) (a' := ?_) #[true, true, true, true, true, true, true, true, true, true, true, true, true, true, true, true, true, true, true, true, false, false, false] rfl rfl (by kernel_rfl) (fun _ _ _ h => h) (Or.inl ⟨by rfl, ?_⟩) hHeld ?_ ?_;rotate_left
        ·rintro w' ⟨s0, s1, s2⟩
         go_simp;with_reducible rfl
        rotate_left;(simp only [Act.put, sIb, sC0, sCs, i64_w, i32_w];rfl);refine pure_ (i := 20) (N := some 43) (v := ?_) (a' := ?_) #[true, true, true, true, true, true, true, true, true, true, true, true, true, true, true, true, true, true, true, true, true, false, false] rfl rfl (by kernel_rfl) (fun _ _ _ h => h) (Or.inl ⟨by rfl, ?_⟩) ?_ ?_;rotate_left;(intro w';go_simp;with_reducible rfl);rotate_left;(simp only [Act.put, sIb, sC0, sCs, i64_w, i32_w];rfl);refine pure_ (i := 21) (N := some 44) (v := ?_) (a' := ?_) #[true, true, true, true, true, true, true, true, true, true, true, true, true, true, true, true, true, true, true, true, true, true, false] rfl rfl (by kernel_rfl) (fun _ _ _ h => h) (Or.inl ⟨by rfl, ?_⟩) ?_ ?_;rotate_left;(intro w';go_simp;with_reducible rfl);rotate_left;(simp only [Act.put, sIb, sC0, sCs, i64_w, i32_w];rfl);refine pure_ (i := 22) (N := some 45) (v := ?_) (a' := ?_) #[true, true, true, true, true, true, true, true, true, true, true, true, true, true, true, true, true, true, true, true, true, true, true] rfl rfl (by kernel_rfl) (fun _ _ _ h => h) (Or.inl ⟨by rfl, ?_⟩) ?_ ?_;rotate_left;(intro w';go_simp;with_reducible rfl);rotate_left;(simp only [Act.put, sIb, sC0, sCs, i64_w, i32_w];rfl)
        refine done_ (by kernel_rfl) ?_
        go_wp2
        go_roundg g
        case measure => omega
        case rel => exact ⟨i + 1, by first | (rw [hiw]; done) | (simp; done), ⟨by have := HK.out; omega⟩, ⟨fun y hy => by
         by_cases hyi : y = i
         ·subst hyi; rw [HTT.out]; have := HC.out; have := HSUM.out; omega
         ·exact HNO.out y (by omega)⟩, ⟨blk_drew HG.out⟩, ⟨blk_drew HE.out⟩, ⟨below_drew1 HB.out⟩⟩
      ·have c1b : decide (e.f1 ≤ tt) = false := decide_eq_false c1
       have HC := Aside0.mk c1
       clear c1;go_wp2
       refine start_ (n := 23) (S := fun w' => w'.cell? ⟨B, i, none⟩ = some (.int .i64 tt) ∧ w'.cell? ⟨w.heap.size, 1, none⟩ = some (.int .i64 e.f1)) (ds := []) #[false, false, false, false, false, false, false, false, false, false, false, false, false, false, false, false, false, false, false, false, false, false, false] (by kernel_rfl) rfl rfl ⟨hcT, hc1⟩ (fun hHeld => ?_)
       refine pure_ (i := 0) (N := some 23) (v := ?_) (a' := ?_) #[true, false, false, false, false, false, false, false, false, false, false, false, false, false, false, false, false, false, false, false, false, false, false] rfl rfl (by kernel_rfl) (fun _ _ _ h => h) (Or.inl ⟨by rfl, ?_⟩) ?_ ?_;rotate_left;(intro w';go_simp;with_reducible rfl);rotate_left;(simp only [Act.put, sIb, sC0, sCs, i64_w, i32_w];rfl);refine pure_ (i := 1) (N := some 24) (v := ?_) (a' := ?_) #[true, true, false, false, false, false, false, false, false, false, false, false, false, false, false, false, false, false, false, false, false, false, false] rfl rfl (by kernel_rfl) (fun _ _ _ h => h) (Or.inl ⟨by rfl, ?_⟩) ?_ ?_;rotate_left;(intro w';go_simp;with_reducible rfl);rotate_left;(simp only [Act.put, sIb, sC0, sCs, i64_w, i32_w];rfl);refine pure_ (i := 2) (N := some 25) (v := ?_) (a' := ?_) #[true, true, true, false, false, false, false, false, false, false, false, false, false, false, false, false, false, false, false, false, false, false, false] rfl rfl (by kernel_rfl) (fun _ _ _ h => h) (Or.inl ⟨by rfl, ?_⟩) ?_ ?_;rotate_left;(intro w';go_simp;with_reducible rfl);rotate_left;(simp only [Act.put, sIb, sC0, sCs, i64_w, i32_w];rfl);refine pure_ (i := 3) (N := some 26) (v := ?_) (a' := ?_) #[true, true, true, true, false, false, false, false, false, false, false, false, false, false, false, false, false, false, false, false, false, false, false] rfl rfl (by kernel_rfl) (fun _ _ _ h => h) (Or.inl ⟨by rfl, ?_⟩) ?_ ?_;rotate_left;(intro w';go_simp;with_reducible rfl);rotate_left;(simp only [Act.put, sIb, sC0, sCs, i64_w, i32_w];rfl);refine pure_ (i := 4) (N := some 27) (v := ?_) (a' := ?_) #[true, true, true, true, true, false, false, false, false, false, false, false, false, false, false, false, false, false, false, false, false, false, false] rfl rfl (by kernel_rfl) (fun _ _ _ h => h) (Or.inl ⟨by rfl, ?_⟩) ?_ ?_;rotate_left;(intro w';go_simp;with_reducible rfl);rotate_left;(simp only [Act.put, sIb, sC0, sCs, i64_w, i32_w];rfl);refine pure_ (i := 6) (N := some 29) (v := ?_) (a' := ?_) #[true, true, true, true, true, false, true, false, false, false, false, false, false, false, false, false, false, false, false, false, false, false, false] rfl rfl (by kernel_rfl) (fun _ _ _ h => h) (Or.inl ⟨by rfl, ?_⟩) ?_ ?_;rotate_left;(intro w';go_simp;with_reducible rfl);rotate_left;(simp only [Act.put, sIb, sC0, sCs, i64_w, i32_w];rfl);refine take_ (i := 5) (N := some 28) (v := ?_) (a' := ?_) #[true, true, true, true, true, true, true, false, false, false, false, false, false, false, false, false, false, false, false, false, false, false, false] rfl rfl (by kernel_rfl) (fun _ _ _ h => h) (Or.inl ⟨by rfl, ?_⟩) hHeld ?_ ?_;rotate_left
       ·rintro w' ⟨s0, s1⟩
        go_simp;with_reducible rfl
       rotate_left;(simp only [Act.put, sIb, sC0, sCs, i64_w, i32_w];rfl);refine take_ (i := 7) (N := some 30) (v := ?_) (a' := ?_) #[true, true, true, true, true, true, true, true, false, false, false, false, false, false, false, false, false, false, false, false, false, false, false] rfl rfl (by kernel_rfl) (fun _ _ _ h => h) (Or.inl ⟨by rfl, ?_⟩) hHeld ?_ ?_;rotate_left
       ·rintro w' ⟨s0, s1⟩
        go_simp;with_reducible rfl
       rotate_left;(simp only [Act.put, sIb, sC0, sCs, i64_w, i32_w];rfl);refine pure_ (i := 8) (N := some 31) (v := ?_) (a' := ?_) #[true, true, true, true, true, true, true, true, true, false, false, false, false, false, false, false, false, false, false, false, false, false, false] rfl rfl (by kernel_rfl) (fun _ _ _ h => h) (Or.inl ⟨by rfl, ?_⟩) ?_ ?_;rotate_left;(intro w';go_simp;with_reducible rfl);rotate_left;(simp only [Act.put, sIb, sC0, sCs, i64_w, i32_w];rfl);refine pure_ (i := 9) (N := some 32) (v := ?_) (a' := ?_) #[true, true, true, true, true, true, true, true, true, true, false, false, false, false, false, false, false, false, false, false, false, false, false] rfl rfl (by kernel_rfl) (fun _ _ _ h => h) (Or.inl ⟨by rfl, ?_⟩) ?_ ?_;rotate_left;(intro w';go_simp;with_reducible rfl);rotate_left;(simp only [Act.put, sIb, sC0, sCs, i64_w, i32_w];rfl);refine pure_ (i := 10) (N := some 33) (v := undef) (a' := ?_) #[true, true, true, true, true, true, true, true, true, true, true, false, false, false, false, false, false, false, false, false, false, false, false] rfl rfl (by kernel_rfl) (fun _ _ _ h => h) (Or.inr ⟨by rfl, rfl⟩) ?_ ?_;rotate_left;(simp only [Act.put, sIb, sC0, sCs, i64_w, i32_w];rfl);refine pure_ (i := 11) (N := some 34) (v := undef) (a' := ?_) #[true, true, true, true, true, true, true, true, true, true, true, true, false, false, false, false, false, false, false, false, false, false, false] rfl rfl (by kernel_rfl) (fun _ _ _ h => h) (Or.inr ⟨by rfl, rfl⟩) ?_ ?_;rotate_left;(simp only [Act.put, sIb, sC0, sCs, i64_w, i32_w];rfl);refine pure_ (i := 12) (N := some 35) (v := undef) (a' := ?_) #[true, true, true, true, true, true, true, true, true, true, true, true, true, false, false, false, false, false, false, false, false, false, false] rfl rfl (by kernel_rfl) (fun _ _ _ h => h) (Or.inr ⟨by rfl, rfl⟩) ?_ ?_;rotate_left;(simp only [Act.put, sIb, sC0, sCs, i64_w, i32_w];rfl);refine pure_ (i := 13) (N := some 36) (v := undef) (a' := ?_) #[true, true, true, true, true, true, true, true, true, true, true, true, true, true, false, false, false, false, false, false, false, false, false] rfl rfl (by kernel_rfl) (fun _ _ _ h => h) (Or.inr ⟨by rfl, rfl⟩) ?_ ?_;rotate_left;(simp only [Act.put, sIb, sC0, sCs, i64_w, i32_w];rfl);refine pure_ (i := 14) (N := some 37) (v := undef) (a' := ?_) #[true, true, true, true, true, true, true, true, true, true, true, true, true, true, true, false, false, false, false, false, false, false, false] rfl rfl (by kernel_rfl) (fun _ _ _ h => h) (Or.inr ⟨by rfl, rfl⟩) ?_ ?_;rotate_left;(simp only [Act.put, sIb, sC0, sCs, i64_w, i32_w];rfl);refine pure_ (i := 15) (N := some 38) (v := undef) (a' := ?_) #[true, true, true, true, true, true, true, true, true, true, true, true, true, true, true, true, false, false, false, false, false, false, false] rfl rfl (by kernel_rfl) (fun _ _ _ h => h) (Or.inr ⟨by rfl, rfl⟩) ?_ ?_;rotate_left;(simp only [Act.put, sIb, sC0, sCs, i64_w, i32_w];rfl);refine pure_ (i := 16) (N := some 39) (v := undef) (a' := ?_) #[true, true, true, true, true, true, true, true, true, true, true, true, true, true, true, true, true, false, false, false, false, false, false] rfl rfl (by kernel_rfl) (fun _ _ _ h => h) (Or.inr ⟨by rfl, rfl⟩) ?_ ?_;rotate_left;(simp only [Act.put, sIb, sC0, sCs, i64_w, i32_w];rfl);refine pure_ (i := 17) (N := some 40) (v := undef) (a' := ?_) #[true, true, true, true, true, true, true, true, true, true, true, true, true, true, true, true, true, true, false, false, false, false, false] rfl rfl (by kernel_rfl) (fun _ _ _ h => h) (Or.inr ⟨by rfl, rfl⟩) ?_ ?_;rotate_left;(simp only [Act.put, sIb, sC0, sCs, i64_w, i32_w];rfl);refine pure_ (i := 18) (N := some 41) (v := undef) (a' := ?_) #[true, true, true, true, true, true, true, true, true, true, true, true, true, true, true, true, true, true, true, false, false, false, false] rfl rfl (by kernel_rfl) (fun _ _ _ h => h) (Or.inr ⟨by rfl, rfl⟩) ?_ ?_;rotate_left;(simp only [Act.put, sIb, sC0, sCs, i64_w, i32_w];rfl);refine pure_ (i := 19) (N := some 42) (v := undef) (a' := ?_) #[true, true, true, true, true, true, true, true, true, true, true, true, true, true, true, true, true, true, true, true, false, false, false] rfl rfl (by kernel_rfl) (fun _ _ _ h => h) (Or.inr ⟨by rfl, rfl⟩) ?_ ?_;rotate_left;(simp only [Act.put, sIb, sC0, sCs, i64_w, i32_w];rfl);refine pure_ (i := 20) (N := some 43) (v := undef) (a' := ?_) #[true, true, true, true, true, true, true, true, true, true, true, true, true, true, true, true, true, true, true, true, true, false, false] rfl rfl (by kernel_rfl) (fun _ _ _ h => h) (Or.inr ⟨by rfl, rfl⟩) ?_ ?_;rotate_left;(simp only [Act.put, sIb, sC0, sCs, i64_w, i32_w];rfl);refine pure_ (i := 21) (N := some 44) (v := undef) (a' := ?_) #[true, true, true, true, true, true, true, true, true, true, true, true, true, true, true, true, true, true, true, true, true, true, false] rfl rfl (by kernel_rfl) (fun _ _ _ h => h) (Or.inr ⟨by rfl, rfl⟩) ?_ ?_;rotate_left;(simp only [Act.put, sIb, sC0, sCs, i64_w, i32_w];rfl);refine pure_ (i := 22) (N := some 45) (v := ?_) (a' := ?_) #[true, true, true, true, true, true, true, true, true, true, true, true, true, true, true, true, true, true, true, true, true, true, true] rfl rfl (by kernel_rfl) (fun _ _ _ h => h) (Or.inl ⟨by rfl, ?_⟩) ?_ ?_;rotate_left;(intro w';go_simp;with_reducible rfl);rotate_left;(simp only [Act.put, sIb, sC0, sCs, i64_w, i32_w];rfl)
       refine done_ (by kernel_rfl) ?_
       go_wp2
       go_roundg g
       case measure => omega
       case rel => exact ⟨i + 1, by first | (rw [hiw]; done) | (simp; done), ⟨by have := HK.out; omega⟩, ⟨fun y hy => by
        by_cases hyi : y = i
        ·subst hyi; rw [HTT.out]; have := HC.out; omega
        ·exact HNO.out y (by omega)⟩, ⟨blk_drew HG.out⟩, ⟨blk_drew HE.out⟩, ⟨below_drew1 HB.out⟩⟩
     | zero =>
      have hi6 : decide ((i : Int) < 256) = false := decide_eq_false (by have := HK.out; omega)
      have HNO2 := Aside0.mk (show ∀ x : Nat, x < 256 → ∀ d u, AtB l0 x d u → ¬ (e.f1 ≤ d ∧ d < e.f1 + e.f2) from fun x hx d u hat => by
       have h1 := (HS3.out.says x hx d u).2 hat
       have h2 := HNO.out x (by have := HK.out; omega)
       rw [h1.1] at h2
       exact h2)
      clear hsw hc0 hc1 hc2 hc3;go_wp2
      go_loopg [8] n (fun kq v8 w' => ∃ (j : Nat) (T : List Int) (U : List Bool), v8 = .int .i64 (j : Int) ∧ Aside0 (j + kq = n) ∧ Aside0 (∀ y : Nat, at0 ≤ y → y < at0 + j → ∀ d u, ¬ AtB l0 y d u) ∧ Aside0 (Says T U (fun x d u => AtB l0 x d u ∨ (at0 ≤ x ∧ x < at0 + j ∧ d = e.f1 + ((x : Int) - e.f0) ∧ u = e.f3))) ∧ Aside0 (w'.heap[B]? = some (.cells (mapV T U) 70 (0, 0))) ∧ Aside0 (w'.heap[w.heap.size]? = some (.cells #[.int .i64 e.f0, .int .i64 e.f1, .int .i64 e.f2, .bool e.f3] 24 (0, 0))) ∧ Aside0 (Below w.heap.size w w'))
      case atStart => exact ⟨0, T, U, rfl, ⟨by omega⟩, ⟨fun y h1 h2 => absurd h2 (by omega)⟩, ⟨HS3.out.same fun x hx d u => ⟨Or.inl, fun h => h.elim id (fun h => absurd h.2.1 (by omega))⟩⟩, HG, HE, HB⟩
      case round =>
       obtain ⟨j, T, U, rfl, HK2, HNB, HS, HG2, HE2, HB2⟩ := hrel
       have hc0 := (blk_cell HE2.out 0).trans rfl
       have hc1 := (blk_cell HE2.out 1).trans rfl
       have hc2 := (blk_cell HE2.out 2).trans rfl
       have hc3 := (blk_cell HE2.out 3).trans rfl
       have hn2 := congrArg (fun z => some (Value.int .i64 z)) HN.out
       have hn0 := congrArg (fun z => some (Value.int .i64 z)) HA0.out
       replace hc2 := hc2.trans hn2
       replace hc0 := hc0.trans hn0
       clear hn2 hn0
       cases gk with
       | zero =>
        have hjn : decide (j < n) = false := decide_eq_false (by have := HK2.out; omega)
        have hno := clash_none (List.all_eq_true.1 HOK.out.2.1) HME.out HNO2.out (fun x h1 h2 => HNB.out x (by have := HA0.out; omega) (by have := HA0.out; have := HN.out; have := HK2.out; omega))
        have hS := HS.out.same (Q := AtB (insE l0 e)) (fun x hx d u => by
         rw [AtB_ins]
         have h1 := HA0.out; have h2 := HN.out; have h3 := HK2.out
         constructor
         ·rintro (h | ⟨a, b, c⟩)
          ·exact Or.inl h
          ·exact Or.inr ⟨by omega, by omega, c⟩
         ·rintro (h | ⟨a, b, c⟩)
          ·exact Or.inl h
          ·exact Or.inr ⟨by omega, by omega, c⟩)
        have hall : ∀ y ∈ insE l0 e, mayE y = true := fun y hy => by
         rcases insE_mem.1 hy with rfl | hy
         ·exact HME.out
         ·exact List.all_eq_true.1 HOK.out.2.1 y hy
        have HF := Aside0.mk (fit_calls B T U (insE l0 e) wr hS hall (insE_rise (List.all_eq_true.1 HOK.out.2.1) HOK.out.2.2 hno.2) HG2.out)
        have HM2 := Aside0.mk (show fitL (mergeL (insE l0 e)) = (r1, r2) by
         have h9 := HM.out
         unfold putR at h9
         rw [hno.1, if_neg (by decide)] at h9
         exact h9)
        clear hno hS hall
        go_wp2_with (go_at_call 46; refine HF.out.mono ?_; rintro e4 w4 ⟨v4, rfl, ho4, hb4⟩; rw [HM2.out] at ho4; have HO4 := Aside0.mk ho4; have HB4 := Aside0.mk (HB2.out.trans (hb4.mono HB2.out.size)); have HL4 := Aside0.mk (Kd.R_lower ho4 HB2.out.size); clear ho4 hb4)
        go_ret2
        exact ⟨_, by first | rfl | (rw [HM2.out]; rfl), HL4.out, HB4.out⟩
       | succ g2 =>
        have hjn : decide (j < n) = true := decide_eq_true (by have := HK2.out; omega)
        obtain ⟨x, hx⟩ : ∃ x : Nat, at0 + j = x := ⟨_, rfl⟩
        have hx256 : x < 256 := by have := HK2.out; have := HMM.out; have := HA0.out; have := HN.out; omega
        have hxw : wrap64 ((at0 : Int) + (j : Int)) = (x : Int) := by unfold wrap64; omega
        have hxb : (0 : Int) ≤ (x : Int) ∧ (x : Int) < 256 := by omega
        have hcm := (blk_cell HG2.out x).trans (mapV_T (U := U) (by rw [HS.out.lenT]; exact hx256))
        obtain ⟨tt, htt⟩ : ∃ tt : Int, T.getD x 0 = tt := ⟨_, rfl⟩
        rw [htt] at hcm
        have HTT := Aside0.mk htt
        have HX := Aside0.mk hx
        have HX256 := Aside0.mk hx256
        clear hx hx256 htt
        by_cases h0 : tt = 0
        ·subst h0
         obtain ⟨v, hv⟩ : ∃ v : Int, e.f1 + (j : Int) = v := ⟨_, rfl⟩
         have hvw : wrap64 (e.f1 + (j : Int)) = v := by have := HK2.out; have := HMM.out; have := HN.out; unfold wrap64; omega
         have hv0 : v ≠ 0 := by have := HMM.out; omega
         have hjw : wrap64 ((j : Int) + 1) = ((j + 1 : Nat) : Int) := by have := HK2.out; have := HMM.out; have := HN.out; unfold wrap64; omega
         have HV := Aside0.mk hv
         have HV0 := Aside0.mk hv0
         have hno : ∀ d u, ¬ AtB l0 x d u := fun d u hat => by
          have h1 := (HS.out.says x HX256.out d u).2 (Or.inl hat)
          exact h1.2.1 (h1.1.symm.trans HTT.out)
         have HNX := Aside0.mk hno
         clear hv hv0 hno;go_wp2
         refine start_ (n := 10) (S := fun w' => w'.cell? ⟨w.heap.size, 0, none⟩ = some (.int .i64 (at0 : Int)) ∧ w'.cell? ⟨B, x, none⟩ = some (.int .i64 0)) (ds := []) #[false, false, false, false, false, false, false, false, false, false] (by kernel_rfl) rfl rfl ⟨hc0, hcm⟩ (fun hHeld => ?_)
         refine pure_ (i := 0) (N := some 52) (v := ?_) (a' := ?_) #[true, false, false, false, false, false, false, false, false, false] rfl rfl (by kernel_rfl) (fun _ _ _ h => h) (Or.inl ⟨by rfl, ?_⟩) ?_ ?_;rotate_left;(intro w';go_simp;with_reducible rfl);rotate_left;(simp only [Act.put, sIb, sC0, sCs, i64_w, i32_w];rfl);refine pure_ (i := 1) (N := some 53) (v := ?_) (a' := ?_) #[true, true, false, false, false, false, false, false, false, false] rfl rfl (by kernel_rfl) (fun _ _ _ h => h) (Or.inl ⟨by rfl, ?_⟩) ?_ ?_;rotate_left;(intro w';go_simp;with_reducible rfl);rotate_left;(simp only [Act.put, sIb, sC0, sCs, i64_w, i32_w];rfl);refine pure_ (i := 3) (N := some 55) (v := ?_) (a' := ?_) #[true, true, false, true, false, false, false, false, false, false] rfl rfl (by kernel_rfl) (fun _ _ _ h => h) (Or.inl ⟨by rfl, ?_⟩) ?_ ?_;rotate_left;(intro w';go_simp;with_reducible rfl);rotate_left;(simp only [Act.put, sIb, sC0, sCs, i64_w, i32_w];rfl);refine pure_ (i := 5) (N := some 57) (v := ?_) (a' := ?_) #[true, true, false, true, false, true, false, false, false, false] rfl rfl (by kernel_rfl) (fun _ _ _ h => h) (Or.inl ⟨by rfl, ?_⟩) ?_ ?_;rotate_left;(intro w';go_simp;with_reducible rfl);rotate_left;(simp only [Act.put, sIb, sC0, sCs, i64_w, i32_w];rfl);refine pure_ (i := 6) (N := some 58) (v := ?_) (a' := ?_) #[true, true, false, true, false, true, true, false, false, false] rfl rfl (by kernel_rfl) (fun _ _ _ h => h) (Or.inl ⟨by rfl, ?_⟩) ?_ ?_;rotate_left;(intro w';go_simp;with_reducible rfl);rotate_left;(simp only [Act.put, sIb, sC0, sCs, i64_w, i32_w];rfl);refine take_ (i := 2) (N := some 54) (v := ?_) (a' := ?_) #[true, true, true, true, false, true, true, false, false, false] rfl rfl (by kernel_rfl) (fun _ _ _ h => h) (Or.inl ⟨by rfl, ?_⟩) hHeld ?_ ?_;rotate_left
         ·rintro w' ⟨s0, s1⟩
          go_simp;with_reducible rfl
         rotate_left;(simp only [Act.put, sIb, sC0, sCs, i64_w, i32_w];rfl);refine pure_ (i := 4) (N := some 56) (v := ?_) (a' := ?_) #[true, true, true, true, true, true, true, false, false, false] rfl rfl (by kernel_rfl) (fun _ _ _ h => h) (Or.inl ⟨by rfl, ?_⟩) ?_ ?_;rotate_left;(intro w';go_simp;with_reducible rfl);rotate_left;(simp only [Act.put, sIb, sC0, sCs, i64_w, i32_w];rfl);refine pure_ (i := 7) (N := some 59) (v := ?_) (a' := ?_) #[true, true, true, true, true, true, true, true, false, false] rfl rfl (by kernel_rfl) (fun _ _ _ h => h) (Or.inl ⟨by rfl, ?_⟩) ?_ ?_;rotate_left;(intro w';go_simp;with_reducible rfl);rotate_left;(simp only [Act.put, sIb, sC0, sCs, i64_w, i32_w];rfl);refine take_ (i := 8) (N := some 60) (v := ?_) (a' := ?_) #[true, true, true, true, true, true, true, true, true, false] rfl rfl (by kernel_rfl) (fun _ _ _ h => h) (Or.inl ⟨by rfl, ?_⟩) hHeld ?_ ?_;rotate_left
         ·rintro w' ⟨s0, s1⟩
          go_simp;with_reducible rfl
         rotate_left;(simp only [Act.put, sIb, sC0, sCs, i64_w, i32_w];rfl);refine pure_ (i := 9) (N := some 61) (v := ?_) (a' := ?_) #[true, true, true, true, true, true, true, true, true, true] rfl rfl (by kernel_rfl) (fun _ _ _ h => h) (Or.inl ⟨by rfl, ?_⟩) ?_ ?_;rotate_left;(intro w';go_simp;with_reducible rfl);rotate_left;(simp only [Act.put, sIb, sC0, sCs, i64_w, i32_w];rfl)
         refine done_ (by kernel_rfl) ?_
         clear hcm hc0 hc1 hc2 hc3
         have hg3 := blk_drew HG2.out
         have he3 := blk_drew HE2.out
         have hb3 := below_drew1 HB2.out
         generalize wr.drew = w3' at hg3 he3 hb3 ⊢
         have hcm := (blk_cell hg3 x).trans ((mapV_T (U := U) (by rw [HS.out.lenT]; exact HX256.out)).trans (congrArg (fun z => some (Value.int .i64 z)) HTT.out))
         have hfm := blk_frozen hg3 x
         have hc0 := (blk_cell he3 0).trans (congrArg (fun z => some (Value.int .i64 z)) HA0.out)
         have hc1 := (blk_cell he3 1).trans rfl
         have HG3' := Aside0.mk hg3
         have HE3' := Aside0.mk he3
         have HB3' := Aside0.mk hb3
         clear hg3 he3 hb3;go_wp2
         refine start_ (n := 13) (S := fun w' => w'.cell? ⟨w.heap.size, 0, none⟩ = some (.int .i64 (at0 : Int)) ∧ w'.cell? ⟨w.heap.size, 1, none⟩ = some (.int .i64 e.f1) ∧ w'.cell? ⟨B, x, none⟩ = some (.int .i64 0)) (ds := [12]) #[false, false, false, false, false, false, false, false, false, false, false, false, false] (by kernel_rfl) rfl rfl ⟨hc0, hc1, hcm⟩ (fun hHeld => ?_)
         refine pure_ (i := 0) (N := some 62) (v := ?_) (a' := ?_) #[true, false, false, false, false, false, false, false, false, false, false, false, false] rfl rfl (by kernel_rfl) (fun _ _ _ h => h) (Or.inl ⟨by rfl, ?_⟩) ?_ ?_;rotate_left;(intro w';go_simp;with_reducible rfl);rotate_left;(simp only [Act.put, sIb, sC0, sCs, i64_w, i32_w];rfl);refine pure_ (i := 1) (N := some 63) (v := ?_) (a' := ?_) #[true, true, false, false, false, false, false, false, false, false, false, false, false] rfl rfl (by kernel_rfl) (fun _ _ _ h => h) (Or.inl ⟨by rfl, ?_⟩) ?_ ?_;rotate_left;(intro w';go_simp;with_reducible rfl);rotate_left;(simp only [Act.put, sIb, sC0, sCs, i64_w, i32_w];rfl);refine pure_ (i := 3) (N := some 65) (v := ?_) (a' := ?_) #[true, true, false, true, false, false, false, false, false, false, false, false, false] rfl rfl (by kernel_rfl) (fun _ _ _ h => h) (Or.inl ⟨by rfl, ?_⟩) ?_ ?_;rotate_left;(intro w';go_simp;with_reducible rfl);rotate_left;(simp only [Act.put, sIb, sC0, sCs, i64_w, i32_w];rfl);refine pure_ (i := 5) (N := some 67) (v := ?_) (a' := ?_) #[true, true, false, true, false, true, false, false, false, false, false, false, false] rfl rfl (by kernel_rfl) (fun _ _ _ h => h) (Or.inl ⟨by rfl, ?_⟩) ?_ ?_;rotate_left;(intro w';go_simp;with_reducible rfl);rotate_left;(simp only [Act.put, sIb, sC0, sCs, i64_w, i32_w];rfl);refine pure_ (i := 7) (N := some 69) (v := ?_) (a' := ?_) #[true, true, false, true, false, true, false, true, false, false, false, false, false] rfl rfl (by kernel_rfl) (fun _ _ _ h => h) (Or.inl ⟨by rfl, ?_⟩) ?_ ?_;rotate_left;(intro w';go_simp;with_reducible rfl);rotate_left;(simp only [Act.put, sIb, sC0, sCs, i64_w, i32_w];rfl);refine pure_ (i := 9) (N := some 71) (v := ?_) (a' := ?_) #[true, true, false, true, false, true, false, true, false, true, false, false, false] rfl rfl (by kernel_rfl) (fun _ _ _ h => h) (Or.inl ⟨by rfl, ?_⟩) ?_ ?_;rotate_left;(intro w';go_simp;with_reducible rfl);rotate_left;(simp only [Act.put, sIb, sC0, sCs, i64_w, i32_w];rfl);refine pure_ (i := 10) (N := some 72) (v := ?_) (a' := ?_) #[true, true, false, true, false, true, false, true, false, true, true, false, false] rfl rfl (by kernel_rfl) (fun _ _ _ h => h) (Or.inl ⟨by rfl, ?_⟩) ?_ ?_;rotate_left;(intro w';go_simp;with_reducible rfl);rotate_left;(simp only [Act.put, sIb, sC0, sCs, i64_w, i32_w];rfl);refine take_ (i := 2) (N := some 64) (v := ?_) (a' := ?_) #[true, true, true, true, false, true, false, true, false, true, true, false, false] rfl rfl (by kernel_rfl) (fun _ _ _ h => h) (Or.inl ⟨by rfl, ?_⟩) hHeld ?_ ?_;rotate_left
         ·rintro w' ⟨s0, s1, s2⟩
          go_simp;with_reducible rfl
         rotate_left;(simp only [Act.put, sIb, sC0, sCs, i64_w, i32_w];rfl);refine pure_ (i := 4) (N := some 66) (v := ?_) (a' := ?_) #[true, true, true, true, true, true, false, true, false, true, true, false, false] rfl rfl (by kernel_rfl) (fun _ _ _ h => h) (Or.inl ⟨by rfl, ?_⟩) ?_ ?_;rotate_left;(intro w';go_simp;with_reducible rfl);rotate_left;(simp only [Act.put, sIb, sC0, sCs, i64_w, i32_w];rfl);refine take_ (i := 6) (N := some 68) (v := ?_) (a' := ?_) #[true, true, true, true, true, true, true, true, false, true, true, false, false] rfl rfl (by kernel_rfl) (fun _ _ _ h => h) (Or.inl ⟨by rfl, ?_⟩) hHeld ?_ ?_;rotate_left
         ·rintro w' ⟨s0, s1, s2⟩
          go_simp;with_reducible rfl
         rotate_left;(simp only [Act.put, sIb, sC0, sCs, i64_w, i32_w];rfl);refine pure_ (i := 8) (N := some 70) (v := ?_) (a' := ?_) #[true, true, true, true, true, true, true, true, true, true, true, false, false] rfl rfl (by kernel_rfl) (fun _ _ _ h => h) (Or.inl ⟨by rfl, ?_⟩) ?_ ?_;rotate_left;(intro w';go_simp;with_reducible rfl);rotate_left;(simp only [Act.put, sIb, sC0, sCs, i64_w, i32_w];rfl);refine pure_ (i := 11) (N := some 73) (v := ?_) (a' := ?_) #[true, true, true, true, true, true, true, true, true, true, true, true, false] rfl rfl (by kernel_rfl) (fun _ _ _ h => h) (Or.inl ⟨by rfl, ?_⟩) ?_ ?_;rotate_left;(intro w';go_simp;with_reducible rfl);rotate_left;(simp only [Act.put, sIb, sC0, sCs, i64_w, i32_w];rfl)
         refine last_ (i := 12) (N := none) #[true, true, true, true, true, true, true, true, true, true, true, true, true] rfl rfl (by kernel_rfl) (by decide) (fun K hK => ?_)
         refine skip_ (w1 := ?_) (by rfl) rfl ?_ ?_
         rotate_left;(go_simp;rfl);refine hK.out _ _ ?_;clear hK K
         refine done_ (by kernel_rfl) ?_
         have hg4 := blk_drew (blk_put HG3'.out x (.int .i64 v) (mapV_setT U (by rw [HS.out.lenT]; exact HX256.out) v))
         have he4 := blk_drew (blk_far HE3'.out (p := ⟨B, x, none⟩) HNE.out (.int .i64 v))
         have hb4 := below_drew1 (Hl.below_set_ (j := x) (u := .int .i64 v) HB3'.out HGE.out)
         clear hcm hfm hc0 hc1 hvw
         generalize (w3'.setCell ⟨B, x, none⟩ (.int .i64 v)).drew = w4 at hg4 he4 hb4 ⊢
         have hcm := (blk_cell hg4 (256 + x)).trans (mapV_U (by rw [List.length_set]; exact HS.out.lenT) (by rw [HS.out.lenU]; exact HX256.out))
         have hfm := blk_frozen hg4 (256 + x)
         have hc0 := (blk_cell he4 0).trans (congrArg (fun z => some (Value.int .i64 z)) HA0.out)
         have hc3 := (blk_cell he4 3).trans rfl
         have HG4 := Aside0.mk hg4
         have HE4 := Aside0.mk he4
         have HB4 := Aside0.mk hb4
         clear hg4 he4 hb4;go_wp2
         refine start_ (n := 11) (S := fun w' => w'.cell? ⟨w.heap.size, 0, none⟩ = some (.int .i64 (at0 : Int)) ∧ w'.cell? ⟨w.heap.size, 3, none⟩ = some (.bool e.f3) ∧ w'.cell? ⟨B, 256 + x, none⟩ = some (.bool (U.getD x false))) (ds := [10]) #[false, false, false, false, false, false, false, false, false, false, false] (by kernel_rfl) rfl rfl ⟨hc0, hc3, hcm⟩ (fun hHeld => ?_)
         refine pure_ (i := 0) (N := some 74) (v := ?_) (a' := ?_) #[true, false, false, false, false, false, false, false, false, false, false] rfl rfl (by kernel_rfl) (fun _ _ _ h => h) (Or.inl ⟨by rfl, ?_⟩) ?_ ?_;rotate_left;(intro w';go_simp;with_reducible rfl);rotate_left;(simp only [Act.put, sIb, sC0, sCs, i64_w, i32_w];rfl);refine pure_ (i := 1) (N := some 75) (v := ?_) (a' := ?_) #[true, true, false, false, false, false, false, false, false, false, false] rfl rfl (by kernel_rfl) (fun _ _ _ h => h) (Or.inl ⟨by rfl, ?_⟩) ?_ ?_;rotate_left;(intro w';go_simp;with_reducible rfl);rotate_left;(simp only [Act.put, sIb, sC0, sCs, i64_w, i32_w];rfl);refine pure_ (i := 3) (N := some 77) (v := ?_) (a' := ?_) #[true, true, false, true, false, false, false, false, false, false, false] rfl rfl (by kernel_rfl) (fun _ _ _ h => h) (Or.inl ⟨by rfl, ?_⟩) ?_ ?_;rotate_left;(intro w';go_simp;with_reducible rfl);rotate_left;(simp only [Act.put, sIb, sC0, sCs, i64_w, i32_w];rfl);refine pure_ (i := 5) (N := some 79) (v := ?_) (a' := ?_) #[true, true, false, true, false, true, false, false, false, false, false] rfl rfl (by kernel_rfl) (fun _ _ _ h => h) (Or.inl ⟨by rfl, ?_⟩) ?_ ?_;rotate_left;(intro w';go_simp;with_reducible rfl);rotate_left;(simp only [Act.put, sIb, sC0, sCs, i64_w, i32_w];rfl);refine pure_ (i := 7) (N := some 81) (v := ?_) (a' := ?_) #[true, true, false, true, false, true, false, true, false, false, false] rfl rfl (by kernel_rfl) (fun _ _ _ h => h) (Or.inl ⟨by rfl, ?_⟩) ?_ ?_;rotate_left;(intro w';go_simp;with_reducible rfl);rotate_left;(simp only [Act.put, sIb, sC0, sCs, i64_w, i32_w];rfl);refine pure_ (i := 8) (N := some 82) (v := ?_) (a' := ?_) #[true, true, false, true, false, true, false, true, true, false, false] rfl rfl (by kernel_rfl) (fun _ _ _ h => h) (Or.inl ⟨by rfl, ?_⟩) ?_ ?_;rotate_left;(intro w';go_simp;with_reducible rfl);rotate_left;(simp only [Act.put, sIb, sC0, sCs, i64_w, i32_w];rfl);refine take_ (i := 2) (N := some 76) (v := ?_) (a' := ?_) #[true, true, true, true, false, true, false, true, true, false, false] rfl rfl (by kernel_rfl) (fun _ _ _ h => h) (Or.inl ⟨by rfl, ?_⟩) hHeld ?_ ?_;rotate_left
         ·rintro w' ⟨s0, s1, s2⟩
          go_simp;with_reducible rfl
         rotate_left;(simp only [Act.put, sIb, sC0, sCs, i64_w, i32_w];rfl);refine pure_ (i := 4) (N := some 78) (v := ?_) (a' := ?_) #[true, true, true, true, true, true, false, true, true, false, false] rfl rfl (by kernel_rfl) (fun _ _ _ h => h) (Or.inl ⟨by rfl, ?_⟩) ?_ ?_;rotate_left;(intro w';go_simp;with_reducible rfl);rotate_left;(simp only [Act.put, sIb, sC0, sCs, i64_w, i32_w];rfl);refine take_ (i := 6) (N := some 80) (v := ?_) (a' := ?_) #[true, true, true, true, true, true, true, true, true, false, false] rfl rfl (by kernel_rfl) (fun _ _ _ h => h) (Or.inl ⟨by rfl, ?_⟩) hHeld ?_ ?_;rotate_left
         ·rintro w' ⟨s0, s1, s2⟩
          go_simp;with_reducible rfl
         rotate_left;(simp only [Act.put, sIb, sC0, sCs, i64_w, i32_w];rfl);refine pure_ (i := 9) (N := some 83) (v := ?_) (a' := ?_) #[true, true, true, true, true, true, true, true, true, true, false] rfl rfl (by kernel_rfl) (fun _ _ _ h => h) (Or.inl ⟨by rfl, ?_⟩) ?_ ?_;rotate_left;(intro w';go_simp;with_reducible rfl);rotate_left;(simp only [Act.put, sIb, sC0, sCs, i64_w, i32_w];rfl)
         refine last_ (i := 10) (N := none) #[true, true, true, true, true, true, true, true, true, true, true] rfl rfl (by kernel_rfl) (by decide) (fun K hK => ?_)
         refine skip_ (w1 := ?_) (by rfl) rfl ?_ ?_
         rotate_left;(go_simp;rfl);refine hK.out _ _ ?_;clear hK K
         refine done_ (by kernel_rfl) ?_
         have hg5 := blk_drew (blk_put HG4.out (256 + x) (.bool e.f3) (mapV_setU U x (by rw [List.length_set]; exact HS.out.lenT) e.f3))
         have he5 := blk_drew (blk_far HE4.out (p := ⟨B, 256 + x, none⟩) HNE.out (.bool e.f3))
         have hb5 := below_drew1 (Hl.below_set_ (j := 256 + x) (u := .bool e.f3) HB4.out HGE.out)
         clear hcm hfm hc0 hc3 hxw hxb
         generalize (w4.setCell ⟨B, 256 + x, none⟩ (.bool e.f3)).drew = w5 at hg5 he5 hb5 ⊢
         have HG5 := Aside0.mk hg5
         have HE5 := Aside0.mk he5
         have HB5 := Aside0.mk hb5
         clear hg5 he5 hb5;go_wp2
         go_roundg g2
         case measure => omega
         case rel =>
          refine ⟨j + 1, T.set x v, U.set x e.f3, by first | (rw [hjw]; done) | (simp; done), ⟨by have := HK2.out; omega⟩, ⟨fun y h1 h2 d u => ?_⟩, ⟨?_⟩, HG5, HE5, HB5⟩
          ·by_cases hyx : y = x
           ·rw [hyx]; exact HNX.out d u
           ·exact HNB.out y h1 (by have := HX.out; omega) d u
          ·refine (HS.out.put HX256.out v HV0.out e.f3).same fun y hy d u => ⟨fun h => ?_, fun h => ?_⟩
           ·rcases h with ⟨h1, h2 | h2⟩ | ⟨rfl, rfl, rfl⟩
            ·exact Or.inl h2
            ·exact Or.inr ⟨h2.1, by omega, h2.2.2⟩
            ·exact Or.inr ⟨by have := HX.out; omega, by have := HX.out; omega, by have := HX.out; have := HV.out; have := HA0.out; omega, rfl⟩
           ·rcases h with h | ⟨h1, h2, h3, h4⟩
            ·by_cases hyx : y = x
             ·exact absurd (hyx ▸ h) (HNX.out d u)
             ·exact Or.inl ⟨hyx, Or.inl h⟩
            ·by_cases hyx : y = x
             ·subst hyx
              exact Or.inr ⟨rfl, by have := HX.out; have := HV.out; have := HA0.out; omega, h4⟩
             ·exact Or.inl ⟨hyx, Or.inr ⟨h1, by have := HX.out; omega, h3, h4⟩⟩
        ·have h0b : decide (tt = 0) = false := decide_eq_false h0
         have h0c : (tt == 0) = false := beq_eq_false_iff_ne.2 h0
         have h0d : (tt != 0) = true := by simpa using h0
         have HR1 := Aside0.mk (show r1 = [] ∧ r2 = 4 by
          have hat := (HS.out.says x HX256.out tt _).1 ⟨HTT.out, h0, rfl⟩
          have hcl : clash l0 e = true := by
           rcases hat with hat | hat
           ·exact clash_file hat (by have := HX.out; have := HA0.out; omega) (by have := HX.out; have := HA0.out; have := HN.out; have := HK2.out; omega)
           ·exact absurd hat.2.1 (by have := HX.out; omega)
          have h9 := HM.out
          unfold putR at h9
          rw [if_pos hcl] at h9
          obtain ⟨a, b⟩ := Prod.mk.inj h9
          exact ⟨a.symm, b.symm⟩)
         clear h0;go_wp2
         refine start_ (n := 10) (S := fun w' => w'.cell? ⟨w.heap.size, 0, none⟩ = some (.int .i64 (at0 : Int)) ∧ w'.cell? ⟨B, x, none⟩ = some (.int .i64 tt)) (ds := []) #[false, false, false, false, false, false, false, false, false, false] (by kernel_rfl) rfl rfl ⟨hc0, hcm⟩ (fun hHeld => ?_)
         refine pure_ (i := 0) (N := some 52) (v := ?_) (a' := ?_) #[true, false, false, false, false, false, false, false, false, false] rfl rfl (by kernel_rfl) (fun _ _ _ h => h) (Or.inl ⟨by rfl, ?_⟩) ?_ ?_;rotate_left;(intro w';go_simp;with_reducible rfl);rotate_left;(simp only [Act.put, sIb, sC0, sCs, i64_w, i32_w];rfl);refine pure_ (i := 1) (N := some 53) (v := ?_) (a' := ?_) #[true, true, false, false, false, false, false, false, false, false] rfl rfl (by kernel_rfl) (fun _ _ _ h => h) (Or.inl ⟨by rfl, ?_⟩) ?_ ?_;rotate_left;(intro w';go_simp;with_reducible rfl);rotate_left;(simp only [Act.put, sIb, sC0, sCs, i64_w, i32_w];rfl);refine pure_ (i := 3) (N := some 55) (v := ?_) (a' := ?_) #[true, true, false, true, false, false, false, false, false, false] rfl rfl (by kernel_rfl) (fun _ _ _ h => h) (Or.inl ⟨by rfl, ?_⟩) ?_ ?_;rotate_left;(intro w';go_simp;with_reducible rfl);rotate_left;(simp only [Act.put, sIb, sC0, sCs, i64_w, i32_w];rfl);refine pure_ (i := 5) (N := some 57) (v := ?_) (a' := ?_) #[true, true, false, true, false, true, false, false, false, false] rfl rfl (by kernel_rfl) (fun _ _ _ h => h) (Or.inl ⟨by rfl, ?_⟩) ?_ ?_;rotate_left;(intro w';go_simp;with_reducible rfl);rotate_left;(simp only [Act.put, sIb, sC0, sCs, i64_w, i32_w];rfl);refine pure_ (i := 6) (N := some 58) (v := ?_) (a' := ?_) #[true, true, false, true, false, true, true, false, false, false] rfl rfl (by kernel_rfl) (fun _ _ _ h => h) (Or.inl ⟨by rfl, ?_⟩) ?_ ?_;rotate_left;(intro w';go_simp;with_reducible rfl);rotate_left;(simp only [Act.put, sIb, sC0, sCs, i64_w, i32_w];rfl);refine take_ (i := 2) (N := some 54) (v := ?_) (a' := ?_) #[true, true, true, true, false, true, true, false, false, false] rfl rfl (by kernel_rfl) (fun _ _ _ h => h) (Or.inl ⟨by rfl, ?_⟩) hHeld ?_ ?_;rotate_left
         ·rintro w' ⟨s0, s1⟩
          go_simp;with_reducible rfl
         rotate_left;(simp only [Act.put, sIb, sC0, sCs, i64_w, i32_w];rfl);refine pure_ (i := 4) (N := some 56) (v := ?_) (a' := ?_) #[true, true, true, true, true, true, true, false, false, false] rfl rfl (by kernel_rfl) (fun _ _ _ h => h) (Or.inl ⟨by rfl, ?_⟩) ?_ ?_;rotate_left;(intro w';go_simp;with_reducible rfl);rotate_left;(simp only [Act.put, sIb, sC0, sCs, i64_w, i32_w];rfl);refine pure_ (i := 7) (N := some 59) (v := ?_) (a' := ?_) #[true, true, true, true, true, true, true, true, false, false] rfl rfl (by kernel_rfl) (fun _ _ _ h => h) (Or.inl ⟨by rfl, ?_⟩) ?_ ?_;rotate_left;(intro w';go_simp;with_reducible rfl);rotate_left;(simp only [Act.put, sIb, sC0, sCs, i64_w, i32_w];rfl);refine take_ (i := 8) (N := some 60) (v := ?_) (a' := ?_) #[true, true, true, true, true, true, true, true, true, false] rfl rfl (by kernel_rfl) (fun _ _ _ h => h) (Or.inl ⟨by rfl, ?_⟩) hHeld ?_ ?_;rotate_left
         ·rintro w' ⟨s0, s1⟩
          go_simp;with_reducible rfl
         rotate_left;(simp only [Act.put, sIb, sC0, sCs, i64_w, i32_w];rfl);refine pure_ (i := 9) (N := some 61) (v := ?_) (a' := ?_) #[true, true, true, true, true, true, true, true, true, true] rfl rfl (by kernel_rfl) (fun _ _ _ h => h) (Or.inl ⟨by rfl, ?_⟩) ?_ ?_;rotate_left;(intro w';go_simp;with_reducible rfl);rotate_left;(simp only [Act.put, sIb, sC0, sCs, i64_w, i32_w];rfl)
         refine done_ (by kernel_rfl) ?_
         go_wp2
         go_ret2
         obtain ⟨rfl, rfl⟩ := HR1.out
         exact ⟨_, rfl, Kd.R_nil _ _ _ _ _, below_drew1 HB2.out⟩
   ·rw [if_neg hok] at h
    cases h
  ·obtain rfl : q = false := by simpa using hqt
   rw [if_neg (by decide)] at h
   obtain ⟨rfl, rfl⟩ := Prod.mk.inj (Option.some.inj h)
   clear h hqt
   go_enter Try.func17, Try.ntmps17
   go_wp2_with (first | (go_at_call 44; refine (undercroftref10_May.calls a1_0 a1_1 a1_2 a1_3 false _ HQ.out).mono ?_; rintro e2 w2 ⟨rfl, hb2⟩; have HB2 := Aside0.mk (HB1.out.trans (hb2.mono HB1.out.size)); clear hb2) | (go_at_call 18; refine (undercroftref10_Check.calls k A0 c0 l0 0 _ (Kd.C_alloc HR0.out _) HC0.out HT.out).mono ?_; rintro e1 w1 ⟨rfl, hb1⟩; have HBK1 := Aside0.mk (blk_below (blk_new w _) hb1); have hc10 := (blk_cell HBK1.out 0).trans rfl; have hc11 := (blk_cell HBK1.out 1).trans rfl; have hc12 := (blk_cell HBK1.out 2).trans rfl; have hc13 := (blk_cell HBK1.out 3).trans rfl; have HB1 := Aside0.mk (HBA.out.trans (hb1.mono HBA.out.size)); clear hb1))
   go_ret2
   exact ⟨_, rfl, Kd.R_nil _ _ _ _ _, HB2.out⟩
 ·rw [if_neg h0] at h
  obtain ⟨rfl, rfl⟩ := Prod.mk.inj (Option.some.inj h)
  have h0b : decide (t = 0) = false := decide_eq_false h0
  have h0c : (t != 0) = true := by simpa using h0
  clear h h0
  go_enter Try.func17, Try.ntmps17
  go_wp2_with (go_at_call 18; refine (undercroftref10_Check.calls k A0 c0 l0 t _ (Kd.C_alloc HR0.out _) HC0.out HT.out).mono ?_; rintro e1 w1 ⟨rfl, hb1⟩; have HB1 := Aside0.mk (HBA.out.trans (hb1.mono HBA.out.size)); clear hb1)
  go_ret2
  exact ⟨_, rfl, Kd.R_nil _ _ _ _ _, HB1.out⟩
end Go.Proofs.Ytopmjjnkolfciaa.Pr
end
section
namespace Go.Proofs.Ytopmjjnkolfciaa.Pr
open Go.RowKit Go.Proofs.YtopmjjnkolfciaaW.PrintWords Go.Proofs.YtopmjjnkolfciaaW.PrintLast Go.Proofs.YtopmjjnkolfciaaW.PrintMore
attribute [local go_sem] max2_int min2_int max_two min_two max_three min_three max_four min_four
attribute [local go_sem] Go.Proofs.Ytopmjjnkolfciaa.Hl.str_geq Go.Proofs.Ytopmjjnkolfciaa.Hl.str_gtr Go.Proofs.Ytopmjjnkolfciaa.Hl.str_leq
set_option linter.unusedVariables false
set_option linter.unusedSimpArgs false
def undercroftref10_Need.f (k : Nat) (l0 : List (S24)) : Option (Int) := (undercroftref10_Check.f k l0).bind fun t207 => (if t207 = 0 then (if (l0.length : Int) ≤ 4 then (some 0) else (some (wrap64 (Int.tdiv (wrap64 ((wrap64 ((l0.length : Int) + 20)) - 1)) 20)))) else (some (-1)))
set_option maxHeartbeats 8000000 in
set_option maxRecDepth 100000 in
theorem undercroftref10_Need.calls (k : Nat) (A0 : Option Addr) (c0 : Nat) (l0 : List (S24)) (r : Int) (w : World) (hr0 : Kd.C k24 w A0 l0.length l0) (hc0 : l0.length ≤ c0) (h : undercroftref10_Need.f k l0 = some r) :
  Calls Try.prog 20 #[.slice A0 l0.length c0] w fun e w' => e = .returned (.int .i64 r) ∧ Below w.heap.size w w' := by
 have HR0 := Aside0.mk hr0
 have HC0 := Aside0.mk hc0
 clear hr0 hc0
 have HB := Aside0.mk (Below.refl w.heap.size w)
 have H : ((undercroftref10_Check.f k l0).bind fun t207 => (if t207 = 0 then (if (l0.length : Int) ≤ 4 then (some 0) else (some (wrap64 (Int.tdiv (wrap64 ((wrap64 ((l0.length : Int) + 20)) - 1)) 20)))) else (some (-1)))) = some r := h
 clear h
 replace H := Option.bind_eq_some_iff.mp H
 obtain ⟨t207, A20, H⟩ := H
 replace H : (if t207 = 0 then (if (l0.length : Int) ≤ 4 then (some 0) else (some (wrap64 (Int.tdiv (wrap64 ((wrap64 ((l0.length : Int) + 20)) - 1)) 20)))) else (some (-1))) = some r := H
 have A2 := Aside0.mk A20
 clear A20
 by_cases c3 : t207 = 0
 ·rw [if_pos c3] at H
  have c3b0 : (t207 == 0) = true := beq_iff_eq.mpr c3
  have c3b1 : (t207 != 0) = false := bne_eq_false_iff_eq.mpr c3
  clear c3
  by_cases c4 : (l0.length : Int) ≤ 4
  ·rw [if_pos c4] at H
   have c4b0 : decide ((l0.length : Int) ≤ 4) = true := decide_eq_true c4
   have c4b1 : decide (l0.length ≤ 4) = true := decide_eq_true (by omega)
   clear c4;obtain rfl := Option.some.inj H
   go_enter Try.func20, Try.ntmps20
   go_wp2_with (first | ((with_reducible refine gate_callee (f := 18) rfl ?_); refine goesL_ (some 5) rfl rfl Try.func18 (by kernel_rfl) rfl #[.slice A0 l0.length c0] rfl (by (try simp only [List.map_toArray, List.map_cons, List.map_nil]); first | done | rfl | (simp only [List.length_drop, List.length_take]; rfl)) ?_; (with_reducible refine (undercroftref10_Check.calls k _ _ l0 t207 _ ?side1 ?side2 A2.out).mono ?_); (case side1 => repeat (first | exact HR0.out | (with_reducible refine Kd.C_alloc ?_ _) | (with_reducible refine Kd.C_drewN ?_ _) | (with_reducible refine Kd.C_drew ?_))); (case side2 => exact HC0.out); rintro e w5 ⟨rfl, hb⟩; refine ⟨_, rfl, ?_⟩; have n0_ := Aside0.mk (below_step (by repeat (first | (with_reducible first | exact HB.out | apply below_alloc | apply pw_below_drewN | apply below_drew1) | exact HB.out)) hb); clear HB; have HB := n0_; clear n0_; (try clear hb); (try clear hb2); (try clear hk); (try clear hi)))
   go_ret
   exact ⟨by first | rfl | (simp [errW_none, errW_some] <;> rfl) | (simp [*, errW_none, errW_some] <;> rfl), by repeat (first | (with_reducible first | exact HB.out | apply below_alloc | apply pw_below_drewN | apply below_drew1) | exact HB.out)⟩
  ·rw [if_neg c4] at H
   have c4b0 : decide ((l0.length : Int) ≤ 4) = false := decide_eq_false c4
   have c4b1 : decide (l0.length ≤ 4) = false := decide_eq_false (by omega)
   clear c4;obtain rfl := Option.some.inj H
   go_enter Try.func20, Try.ntmps20
   go_wp2_with (first | ((with_reducible refine gate_callee (f := 18) rfl ?_); refine goesL_ (some 5) rfl rfl Try.func18 (by kernel_rfl) rfl #[.slice A0 l0.length c0] rfl (by (try simp only [List.map_toArray, List.map_cons, List.map_nil]); first | done | rfl | (simp only [List.length_drop, List.length_take]; rfl)) ?_; (with_reducible refine (undercroftref10_Check.calls k _ _ l0 t207 _ ?side1 ?side2 A2.out).mono ?_); (case side1 => repeat (first | exact HR0.out | (with_reducible refine Kd.C_alloc ?_ _) | (with_reducible refine Kd.C_drewN ?_ _) | (with_reducible refine Kd.C_drew ?_))); (case side2 => exact HC0.out); rintro e w6 ⟨rfl, hb⟩; refine ⟨_, rfl, ?_⟩; have n0_ := Aside0.mk (below_step (by repeat (first | (with_reducible first | exact HB.out | apply below_alloc | apply pw_below_drewN | apply below_drew1) | exact HB.out)) hb); clear HB; have HB := n0_; clear n0_; (try clear hb); (try clear hb2); (try clear hk); (try clear hi)))
   go_ret
   exact ⟨by first | rfl | (simp [errW_none, errW_some] <;> rfl) | (simp [*, errW_none, errW_some] <;> rfl), by repeat (first | (with_reducible first | exact HB.out | apply below_alloc | apply pw_below_drewN | apply below_drew1) | exact HB.out)⟩
 ·rw [if_neg c3] at H
  have c3b0 : (t207 == 0) = false := beq_eq_false_iff_ne.mpr c3
  have c3b1 : (t207 != 0) = true := bne_iff_ne.mpr c3
  obtain rfl := Option.some.inj H
  go_enter Try.func20, Try.ntmps20
  go_wp2_with (first | ((with_reducible refine gate_callee (f := 18) rfl ?_); refine goesL_ (some 5) rfl rfl Try.func18 (by kernel_rfl) rfl #[.slice A0 l0.length c0] rfl (by (try simp only [List.map_toArray, List.map_cons, List.map_nil]); first | done | rfl | (simp only [List.length_drop, List.length_take]; rfl)) ?_; (with_reducible refine (undercroftref10_Check.calls k _ _ l0 t207 _ ?side1 ?side2 A2.out).mono ?_); (case side1 => repeat (first | exact HR0.out | (with_reducible refine Kd.C_alloc ?_ _) | (with_reducible refine Kd.C_drewN ?_ _) | (with_reducible refine Kd.C_drew ?_))); (case side2 => exact HC0.out); rintro e w7 ⟨rfl, hb⟩; refine ⟨_, rfl, ?_⟩; have n0_ := Aside0.mk (below_step (by repeat (first | (with_reducible first | exact HB.out | apply below_alloc | apply pw_below_drewN | apply below_drew1) | exact HB.out)) hb); clear HB; have HB := n0_; clear n0_; (try clear hb); (try clear hb2); (try clear hk); (try clear hi)))
  go_ret
  exact ⟨by first | rfl | (simp [errW_none, errW_some] <;> rfl) | (simp [*, errW_none, errW_some] <;> rfl), by repeat (first | (with_reducible first | exact HB.out | apply below_alloc | apply pw_below_drewN | apply below_drew1) | exact HB.out)⟩
end Go.Proofs.Ytopmjjnkolfciaa.Pr
end
section
namespace Go.Proofs.Ytopmjjnkolfciaa.Pr
open Go.RowKit Go.Proofs.YtopmjjnkolfciaaW.PrintWords Go.Proofs.YtopmjjnkolfciaaW.PrintLast Go.Proofs.YtopmjjnkolfciaaW.PrintMore
attribute [local go_sem] max2_int min2_int max_two min_two max_three min_three max_four min_four
attribute [local go_sem] Go.Proofs.Ytopmjjnkolfciaa.Hl.str_geq Go.Proofs.Ytopmjjnkolfciaa.Hl.str_gtr Go.Proofs.Ytopmjjnkolfciaa.Hl.str_leq
set_option linter.unusedVariables false
set_option linter.unusedSimpArgs false
theorem eqA24 (d : Nat) (w : World) (x0 y0 : Int) (x1 y1 : Int) (x2 y2 : Int) (x3 y3 : Bool) :
  (Op.equalIn (d + 2) 24 (.agg #[.int .i64 x0, .int .i64 x1, .int .i64 x2, .bool x3]) (.agg #[.int .i64 y0, .int .i64 y1, .int .i64 y2, .bool y3])).run Try.prog w = .ok (x0 == y0 && (x1 == y1 && (x2 == y2 && (x3 == y3)))) w := by
 refine eqA_of Try.underlying24 (by kernel_rfl) ?_
 refine eqf_cons (by rfl) (by go_simp; rfl) (by go_simp; rfl) (by go_simp) ?_
 refine eqf_cons (by rfl) (by go_simp; rfl) (by go_simp; rfl) (by go_simp) ?_
 refine eqf_cons (by rfl) (by go_simp; rfl) (by go_simp; rfl) (by go_simp) ?_
 exact eqf_last (by rfl) (by go_simp; rfl) (by go_simp; rfl) (by go_simp)
end Go.Proofs.Ytopmjjnkolfciaa.Pr
end
section
namespace Go.Proofs.Ytopmjjnkolfciaa.Pr
open Go.RowKit Go.Proofs.YtopmjjnkolfciaaW.PrintWords Go.Proofs.YtopmjjnkolfciaaW.PrintLast Go.Proofs.YtopmjjnkolfciaaW.PrintMore
attribute [local go_sem] max2_int min2_int max_two min_two max_three min_three max_four min_four
attribute [local go_sem] Go.Proofs.Ytopmjjnkolfciaa.Hl.str_geq Go.Proofs.Ytopmjjnkolfciaa.Hl.str_gtr Go.Proofs.Ytopmjjnkolfciaa.Hl.str_leq
set_option linter.unusedVariables false
set_option linter.unusedSimpArgs false
attribute [local go_sem high] eqA24
def undercroftref10_Same.l0 : Nat → List (S24) → List (S24) → Int → Option (Bool)
 | 0, _, _, _ => none
 | k + 1, x0, x1, x5 => if x5 < (x0.length : Int) then (if 0 ≤ x5 then (if x5 < (x1.length : Int) then (if (!(((rd_T24 x0 x5).f0) == ((rd_T24 x1 x5).f0)) || (!(((rd_T24 x0 x5).f1) == ((rd_T24 x1 x5).f1)) || (!(((rd_T24 x0 x5).f2) == ((rd_T24 x1 x5).f2)) || (!(((rd_T24 x0 x5).f3) == ((rd_T24 x1 x5).f3)))))) = true then (some false) else (undercroftref10_Same.l0 k x0 x1 (wrap64 (x5 + 1)))) else (none)) else (none)) else (some true)
def undercroftref10_Same.f (k : Nat) (l0 : List (S24)) (l1 : List (S24)) : Option (Bool) := if (l0.length : Int) = (l1.length : Int) then (undercroftref10_Same.l0 k l0 l1 0) else (some false)
set_option maxHeartbeats 8000000 in
set_option maxRecDepth 100000 in
theorem undercroftref10_Same.calls (k : Nat) (A0 : Option Addr) (c0 : Nat) (l0 : List (S24)) (A1 : Option Addr) (c1 : Nat) (l1 : List (S24)) (r : Bool) (w : World) (hr0 : Kd.C k24 w A0 l0.length l0) (hc0 : l0.length ≤ c0) (hr1 : Kd.C k24 w A1 l1.length l1) (hc1 : l1.length ≤ c1) (h : undercroftref10_Same.f k l0 l1 = some r) :
  Calls Try.prog 15 #[.slice A0 l0.length c0, .slice A1 l1.length c1] w fun e w' => e = .returned (.bool r) ∧ Drawn0 w w' := by
 have hu24 := Try.underlying24
 have HR0 := Aside0.mk hr0
 have HC0 := Aside0.mk hc0
 clear hr0 hc0
 have HR1 := Aside0.mk hr1
 have HC1 := Aside0.mk hc1
 clear hr1 hc1
 have H : (if (l0.length : Int) = (l1.length : Int) then (undercroftref10_Same.l0 k l0 l1 0) else (some false)) = some r := h
 clear h
 by_cases c3 : (l0.length : Int) = (l1.length : Int)
 ·rw [if_pos c3] at H
  have c3b0 : ((l0.length : Int) == (l1.length : Int)) = true := beq_iff_eq.mpr c3
  have c3b1 : ((l0.length : Int) != (l1.length : Int)) = false := bne_eq_false_iff_eq.mpr c3
  have c3b2 : (l0.length == l1.length) = true := by first | simpa using c3 | (simp at c3 ⊢; omega)
  clear c3
  have H' := Aside0.mk H
  clear H
  go_enter Try.func15, Try.ntmps15
  go_wp2
  repeat (go_quiet (fail); try go_wp2)
  go_loopg [5] k (fun kq v5 w' => ∃ (x5_1 : Int), v5 = .int .i64 x5_1 ∧ Aside0 (undercroftref10_Same.l0 kq l0 l1 x5_1 = some r) ∧ Aside0 (kq ≤ k) ∧ Drawn0 w w')
  case atStart => exact ⟨(0), (by first | rfl | (simp; done) | (simp [*]; done)), H', ⟨Nat.le_refl _⟩, by repeat (first | exact Drawn0.refl _ | apply Drawn0.step)⟩
  case round =>
   clear H'
   try clear c1
   try clear p2
   try clear c3
   try clear c3b0
   try clear c3b1
   try clear c3b2
   obtain ⟨x5_1, rfl, HA, HK1, ⟨m1, rfl⟩⟩ := hrel
   cases gk with
   | zero => exact absurd HA.out (by intro h_; cases h_)
   | succ k1 =>
    have H := HA.out
    clear HA
    simp only [undercroftref10_Same.l0] at H
    by_cases c4 : x5_1 < (l0.length : Int)
    ·rw [if_pos c4] at H
     have c4b0 : decide (x5_1 < (l0.length : Int)) = true := decide_eq_true c4
     clear c4
     by_cases c5 : 0 ≤ x5_1
     ·rw [if_pos c5] at H
      have c5b0 : decide (0 ≤ x5_1) = true := decide_eq_true c5
      clear c5
      by_cases c6 : x5_1 < (l1.length : Int)
      ·rw [if_pos c6] at H
       have c6b0 : decide (x5_1 < (l1.length : Int)) = true := decide_eq_true c6
       clear c6
       by_cases c7 : (!(((rd_T24 l0 x5_1).f0) == ((rd_T24 l1 x5_1).f0)) || (!(((rd_T24 l0 x5_1).f1) == ((rd_T24 l1 x5_1).f1)) || (!(((rd_T24 l0 x5_1).f2) == ((rd_T24 l1 x5_1).f2)) || (!(((rd_T24 l0 x5_1).f3) == ((rd_T24 l1 x5_1).f3)))))) = true
       ·rw [if_pos c7] at H
        have c7b0 : (!(((rd_T24 l0 x5_1).f0) == ((rd_T24 l1 x5_1).f0)) || (!(((rd_T24 l0 x5_1).f1) == ((rd_T24 l1 x5_1).f1)) || (!(((rd_T24 l0 x5_1).f2) == ((rd_T24 l1 x5_1).f2)) || (!(((rd_T24 l0 x5_1).f3) == ((rd_T24 l1 x5_1).f3)))))) = true := c7
        clear c7;obtain rfl := Option.some.inj H
        have p156 : 0 ≤ (x5_1 : Int) := of_decide_eq_true (by first | (with_reducible assumption) | assumption)
        have q156 : x5_1 < (l0.length : Int) := of_decide_eq_true (by first | (with_reducible assumption) | assumption)
        obtain ⟨ad156, e156, hx156_0, hx156_1, hx156_2, hx156_3⟩ := at_T24 HR0.out x5_1 p156 q156
        cases e156
        replace p156 := eq_true p156;replace q156 := eq_true q156
        have p157 : 0 ≤ (x5_1 : Int) := of_decide_eq_true (by first | (with_reducible assumption) | assumption)
        have q157 : x5_1 < (l1.length : Int) := of_decide_eq_true (by first | (with_reducible assumption) | assumption)
        obtain ⟨ad157, e157, hx157_0, hx157_1, hx157_2, hx157_3⟩ := at_T24 HR1.out x5_1 p157 q157
        cases e157
        replace p157 := eq_true p157;replace q157 := eq_true q157;go_wp2
        repeat (go_quiet (fail); try go_wp2)
        go_ret
        exact ⟨by first | rfl | (simp; done) | (simp [*]; done), by repeat (first | exact Drawn0.refl _ | apply Drawn0.step)⟩
       ·rw [if_neg c7] at H
        have c7b0 : (!(((rd_T24 l0 x5_1).f0) == ((rd_T24 l1 x5_1).f0)) || (!(((rd_T24 l0 x5_1).f1) == ((rd_T24 l1 x5_1).f1)) || (!(((rd_T24 l0 x5_1).f2) == ((rd_T24 l1 x5_1).f2)) || (!(((rd_T24 l0 x5_1).f3) == ((rd_T24 l1 x5_1).f3)))))) = false := by simpa using c7
        clear c7
        have H' := Aside0.mk H
        clear H
        have p156 : 0 ≤ (x5_1 : Int) := of_decide_eq_true (by first | (with_reducible assumption) | assumption)
        have q156 : x5_1 < (l0.length : Int) := of_decide_eq_true (by first | (with_reducible assumption) | assumption)
        obtain ⟨ad156, e156, hx156_0, hx156_1, hx156_2, hx156_3⟩ := at_T24 HR0.out x5_1 p156 q156
        cases e156
        replace p156 := eq_true p156;replace q156 := eq_true q156
        have p157 : 0 ≤ (x5_1 : Int) := of_decide_eq_true (by first | (with_reducible assumption) | assumption)
        have q157 : x5_1 < (l1.length : Int) := of_decide_eq_true (by first | (with_reducible assumption) | assumption)
        obtain ⟨ad157, e157, hx157_0, hx157_1, hx157_2, hx157_3⟩ := at_T24 HR1.out x5_1 p157 q157
        cases e157
        replace p157 := eq_true p157;replace q157 := eq_true q157;go_wp2
        repeat (go_quiet (fail); try go_wp2)
        go_roundg k1
        case measure => have := HK1.out; omega
        case rel => exact ⟨(wrap64 (x5_1 + 1)), (by first | rfl | (simp; done) | (simp [*]; done)), H', ⟨by have := HK1.out; omega⟩, by repeat (first | exact Drawn0.refl _ | apply Drawn0.step)⟩
      ·rw [if_neg c6] at H
       exact absurd H (by simp)
     ·rw [if_neg c5] at H
      exact absurd H (by simp)
    ·rw [if_neg c4] at H
     have c4b0 : decide (x5_1 < (l0.length : Int)) = false := decide_eq_false c4
     clear c4;obtain rfl := Option.some.inj H;go_wp2
     repeat (go_quiet (fail); try go_wp2)
     go_ret
     exact ⟨by first | rfl | (simp; done) | (simp [*]; done), by repeat (first | exact Drawn0.refl _ | apply Drawn0.step)⟩
 ·rw [if_neg c3] at H
  have c3b0 : ((l0.length : Int) == (l1.length : Int)) = false := beq_eq_false_iff_ne.mpr c3
  have c3b1 : ((l0.length : Int) != (l1.length : Int)) = true := bne_iff_ne.mpr c3
  have c3b2 : (l0.length == l1.length) = false := by first | simpa using c3 | (simp at c3 ⊢; omega)
  obtain rfl := Option.some.inj H
  go_enter Try.func15, Try.ntmps15
  go_wp2
  repeat (go_quiet (fail); try go_wp2)
  go_ret
  exact ⟨by first | rfl | (simp; done) | (simp [*]; done), by repeat (first | exact Drawn0.refl _ | apply Drawn0.step)⟩
end Go.Proofs.Ytopmjjnkolfciaa.Pr
end
section
namespace Go.Proofs.Ytopmjjnkolfciaa.Pr
open Go.RowKit Go.Proofs.YtopmjjnkolfciaaW.PrintWords Go.Proofs.YtopmjjnkolfciaaW.PrintLast Go.Proofs.YtopmjjnkolfciaaW.PrintMore
attribute [local go_sem] max2_int min2_int max_two min_two max_three min_three max_four min_four
attribute [local go_sem] Go.Proofs.Ytopmjjnkolfciaa.Hl.str_geq Go.Proofs.Ytopmjjnkolfciaa.Hl.str_gtr Go.Proofs.Ytopmjjnkolfciaa.Hl.str_leq
set_option linter.unusedVariables false
set_option linter.unusedSimpArgs false
theorem eqA32 (d : Nat) (w : World) (x0 y0 : Int) (x1 y1 : Int) :
  (Op.equalIn (d + 2) 32 (.agg #[.int .i64 x0, .int .i64 x1]) (.agg #[.int .i64 y0, .int .i64 y1])).run Try.prog w = .ok (x0 == y0 && (x1 == y1)) w := by
 refine eqA_of Try.underlying32 (by kernel_rfl) ?_
 refine eqf_cons (by rfl) (by go_simp; rfl) (by go_simp; rfl) (by go_simp) ?_
 exact eqf_last (by rfl) (by go_simp; rfl) (by go_simp; rfl) (by go_simp)
end Go.Proofs.Ytopmjjnkolfciaa.Pr
end
section
namespace Go.Proofs.Ytopmjjnkolfciaa.Pr
open Go.RowKit Go.Proofs.YtopmjjnkolfciaaW.PrintWords Go.Proofs.YtopmjjnkolfciaaW.PrintLast Go.Proofs.YtopmjjnkolfciaaW.PrintMore
attribute [local go_sem] max2_int min2_int max_two min_two max_three min_three max_four min_four
attribute [local go_sem] Go.Proofs.Ytopmjjnkolfciaa.Hl.str_geq Go.Proofs.Ytopmjjnkolfciaa.Hl.str_gtr Go.Proofs.Ytopmjjnkolfciaa.Hl.str_leq
set_option linter.unusedVariables false
set_option linter.unusedSimpArgs false
def undercroftlaw10_copied.f (l0 : List (S24)) : Option ((List (S24))) := (some (([] : List (S24)) : List (S24))).bind fun y183 => (if y183.length + l0.length < 4398046511104 then (some (y183 ++ l0)) else (none))
set_option maxHeartbeats 8000000 in
set_option maxRecDepth 100000 in
theorem undercroftlaw10_copied.calls (A0 : Option Addr) (c0 : Nat) (l0 : List (S24)) (r : List (S24)) (w : World) (hr0 : Kd.C k24 w A0 l0.length l0) (hc0 : l0.length ≤ c0) (h : undercroftlaw10_copied.f l0 = some r) :
  Calls Try.prog 16 #[.slice A0 l0.length c0] w fun e w' => ∃ v0_ : Value, e = .returned (v0_) ∧ Kd.R k24 24 w' w.heap.size (fun _ => True) v0_ r ∧ Below w.heap.size w w' := by
 have HR0 := Aside0.mk hr0
 have HC0 := Aside0.mk hc0
 clear hr0 hc0
 have HB := Aside0.mk (Below.refl w.heap.size w)
 have H : ((some (([] : List (S24)) : List (S24))).bind fun y183 => (if y183.length + l0.length < 4398046511104 then (some (y183 ++ l0)) else (none))) = some r := h
 clear h
 obtain ⟨y183, hy183⟩ : ∃ y_ : List (S24), y_ = (([] : List (S24))) := ⟨_, rfl⟩
 replace H : (if y183.length + l0.length < 4398046511104 then (some (y183 ++ l0)) else (none)) = some r := by first | (rw [hy183]; with_reducible exact H) | (have H2_ := (Option.bind_some _ _).symm.trans H; rw [hy183]; with_reducible exact H2_) | (have H2_ := (Option.bind_some _ _).symm.trans H; with_reducible exact H2_) | with_reducible exact H | (rw [hy183]; exact H) | exact H
 have Ny183 := Aside0.mk hy183
 clear hy183
 by_cases c2 : y183.length + l0.length < 4398046511104
 ·rw [if_pos c2] at H
  have LMc2 := Aside0.mk c2
  clear c2
  obtain ⟨y186, hy186⟩ : ∃ y_ : List (S24), y_ = (y183 ++ l0) := ⟨_, rfl⟩
  replace H : (some y186) = some r := by first | (rw [hy186]; with_reducible exact H) | (have H2_ := (Option.bind_some _ _).symm.trans H; rw [hy186]; with_reducible exact H2_) | (have H2_ := (Option.bind_some _ _).symm.trans H; with_reducible exact H2_) | with_reducible exact H | (rw [hy186]; exact H) | exact H
  have Ny186 := Aside0.mk hy186
  clear hy186;obtain rfl := Option.some.inj H
  go_enter Try.func16, Try.ntmps16
  go_wp2_with (first | ((with_reducible refine gate_dst (N := 3) rfl ?_); refine Kd.R_lit k24 _ 24 ?hg (N := 3) ?hd (xs := ([] : List (S24))) (inner := []) (ok := fun _ => True) (okp := fun _ => True) ?hr ?hp (fun _ hk => hk) trivial (Below.refl _ _) (Nat.le_refl _) (by simp) ?_; (case hd => rfl); (case hg => rfl); (case hr => first | (go_simp; done) | (go_simp; rfl)); (case hp => exact (Reps.none _ _)); intro v184 w3 ho4 hb hg_ hnew_; clear hg_ hnew_; (first | rw [← Ny183.out] at ho4 | (simp only [Int.reduceToNat] at ho4; rw [← Ny183.out] at ho4)); have n0_ := Aside0.mk (Kd.R_lower ho4 (below_size (by repeat (first | (with_reducible first | exact HB.out | apply below_alloc | apply pw_below_drewN | apply below_drew1) | exact HB.out)))); have n1_ := Aside0.mk (below_step (by repeat (first | (with_reducible first | exact HB.out | apply below_alloc | apply pw_below_drewN | apply below_drew1) | exact HB.out)) hb); clear HB; have HO185 := n0_; have HB := n1_; clear n0_ n1_; clear hb ho4) | ((with_reducible refine gate_builtin (b := .append) (xs := #[.tmp 3, .tmp 4]) rfl ?_); at_builtin; refine Kd.R_append_rows k24 (w0 := w) w.heap.size rfl (.tmp 3) (.tmp 4) 22 24 (.agg #[(.int .i64 0), (.int .i64 0), (.int .i64 0), (.bool false)]) 32 rfl Try.underlying22 info24 rfl (by decide) (by omega) v184 y183 l0 _ _ _ (fun _ => True) (fun _ => False) rfl rfl ?aO ?aR (fun _ _ h => h) (fun _ h => h.elim) ?aF ?aB ?aS ?aL ?_; (case aR => repeat (first | exact (Kd.C_below HR0.out HB.out) | (with_reducible refine Kd.C_alloc ?_ _) | (with_reducible refine Kd.C_drewN ?_ _) | (with_reducible refine Kd.C_drew ?_))); (case aB => exact (by repeat (first | (with_reducible first | exact HB.out | apply below_alloc | apply pw_below_drewN | apply below_drew1) | exact HB.out))); (case aF => exact (fun _ _ => trivial)); (case aO => exact (by (with_reducible repeat (first | apply Kd.R_alloc | apply Kd.R_drewN | apply Kd.R_drew)); exact HO185.out)); (case aS => exact (below_size (by repeat (first | (with_reducible first | exact HB.out | apply below_alloc | apply pw_below_drewN | apply below_drew1) | exact HB.out)))); (case aL => have := LMc2.out; omega); intro v187 w5 ho hb hg hat; rw [← Ny186.out] at ho; have n0_ := Aside0.mk (hb); have n1_ := Aside0.mk (ho); clear HB; clear HO185; have HB := n0_; have HO188 := n1_; clear n0_ n1_; clear ho hb hg hat))
  go_ret
  exact ⟨_, by first | rfl | (simp [errW_none, errW_some] <;> rfl) | (simp [*, errW_none, errW_some] <;> rfl), by (with_reducible repeat (first | apply Kd.R_alloc | apply Kd.R_drewN | apply Kd.R_drew)); exact HO188.out, by repeat (first | (with_reducible first | exact HB.out | apply below_alloc | apply pw_below_drewN | apply below_drew1) | exact HB.out)⟩
 ·rw [if_neg c2] at H
  exact absurd H (by simp)
end Go.Proofs.Ytopmjjnkolfciaa.Pr
end
section
namespace Go.Proofs.Ytopmjjnkolfciaa.Op
open Go.ChangeShapes Go.WideShapes Go.Deep Go.RowKit Go.Proofs.YtopmjjnkolfciaaW.PrintWords
variable {P : Program}
def Opens {α : Type} (P : Program) (t : TypeId) (d : Kd α) (S : α → Prop) : Prop :=
  ∀ {H : Type} {enc : TypeId × Value → H} {W : World} {fuel : Nat} {cs : List Value} {x : DataW H × List MemPlace},
    DataW.trod enc P W 0 (fun _ => true) true fuel t cs = some x → (∀ n ∈ x.1.weights P t, n ≤ reachBytes) → ∃ v : α, d.K W v cs ∧ S v
theorem opens_int {t : TypeId} {k : IntKind} (hu : P.underlying t = some (.int k)) : Opens P t (Kd.int k) (fun n => (Lit.int k n).wf = true) := by
  intro H enc W fuel cs x h _
  obtain ⟨n, rfl, _, hw⟩ := DataW.trod_int hu h
  exact ⟨n, rfl, hw⟩
theorem opens_bool {t : TypeId} (hu : P.underlying t = some .bool) : Opens P t Kd.bool (fun _ => True) := by
  intro H enc W fuel cs x h _
  obtain ⟨n, rfl, _⟩ := DataW.trod_bool hu h
  exact ⟨n, rfl, trivial⟩
theorem weightsAll_mem {H : Type} {e : TypeId} : ∀ {l : List (DataW H)} {d : DataW H}, d ∈ l → ∀ n ∈ d.weights P e, n ∈ DataW.weightsAll P e l
  | a :: l, d, hd, n, hn => by
    simp only [DataW.weightsAll, List.mem_append]
    rcases List.mem_cons.1 hd with rfl | hd
    · exact .inl hn
    · exact .inr (weightsAll_mem hd n hn)
  | [], _, hd, _, _ => by simp at hd
theorem opens_slice {α : Type} {t e : TypeId} {d : Kd α} {S : α → Prop} {B : Nat} (hu : P.underlying t = some (.slice e)) (hc : P.cellsOf e = d.sz) (hB : P.bytesOf e = B) (he : Opens P e d S) :
    Opens P t (Kd.slice e d) (fun xs => xs.length * B ≤ 140737488351232 ∧ ∀ x ∈ xs, S x) := by
  intro H enc W fuel cs x h hw
  rcases open_slice hu h with ⟨rfl, rfl⟩ | ⟨a, len, cap, m, n, D, Pl, rfl, _, hl, hm, hmm, rfl, hx⟩
  · exact ⟨[], ⟨none, 0, rfl, Nat.le_refl _, rfl, Nat.zero_le _, fun h => absurd h (Nat.lt_irrefl _)⟩, by simp, by simp⟩
  · simp only [if_true] at hmm
    subst hmm
    have hwt : ∀ i, i < len → ∀ q ∈ (D i).weights P e, q ≤ reachBytes := by
      intro i hi q hq
      refine hw q ?_
      simp only [DataW.weights, hu, List.mem_cons, List.mem_append]
      exact .inr (.inl (weightsAll_mem (List.mem_map.2 ⟨i, List.mem_range.2 hi, rfl⟩) q hq))
    have hv : ∀ i, i < len → ∃ v : α, S v ∧ ∃ c, c.length = d.sz ∧ d.K W v c ∧ ∀ j u, c[j]? = some u → W.cell? (a.add (i * d.sz + j)) = some u := by
      intro i hi
      obtain ⟨c, h1, h2⟩ := hx i (Nat.lt_of_lt_of_le hi hl)
      obtain ⟨v, hk, hs⟩ := he h2 (hwt i hi)
      refine ⟨v, hs, c, d.K_len hk, hk, ?_⟩
      rw [hc] at h1
      obtain ⟨_, hlen, hcell⟩ := World.cells?_some h1
      intro j u hj
      have hjl : j < c.length := (List.getElem?_eq_some_iff.1 hj).1
      have := hcell j (by rw [← hlen]; exact hjl)
      rw [Deep.add_add] at this
      rw [this, hj]
    have key : ∀ k, k ≤ len → ∃ l : List α, l.length = k ∧ (∀ v ∈ l, S v) ∧ ∀ i v, l[i]? = some v → ∃ c, c.length = d.sz ∧ d.K W v c ∧ ∀ j u, c[j]? = some u → W.cell? (a.add (i * d.sz + j)) = some u := by
      intro k
      induction k with
      | zero => intro _; exact ⟨[], rfl, by simp, by simp⟩
      | succ k ih =>
        intro hk
        obtain ⟨l, hl1, hl2, hl3⟩ := ih (by omega)
        obtain ⟨v, hs, hr⟩ := hv k (by omega)
        refine ⟨l ++ [v], by simp [hl1], ?_, ?_⟩
        · intro y hy
          rcases List.mem_append.1 hy with hy | hy
          · exact hl2 y hy
          · rw [List.mem_singleton.1 hy]; exact hs
        · intro i y hy
          rcases Nat.lt_trichotomy i k with hik | hik | hik
          · rw [List.getElem?_append_left (by omega)] at hy
            exact hl3 i y hy
          · subst hik
            rw [List.getElem?_append_right (by omega), hl1, Nat.sub_self] at hy
            simp only [List.getElem?_cons_zero, Option.some.injEq] at hy
            subst hy
            exact hr
          · rw [List.getElem?_eq_none (by simp [hl1]; omega)] at hy
            cases hy
    obtain ⟨l, hl1, hl2, hl3⟩ := key len (Nat.le_refl _)
    refine ⟨l, ⟨some a, m, by rw [hl1], by rw [hl1]; exact hl, rfl, ?_, fun _ => ⟨a, rfl, hl3⟩⟩, ?_, hl2⟩
    · rw [hl1]
      have : maxLen ≤ 9223372036854775807 := by decide
      omega
    · have := hw _ (by simp only [DataW.weights, hu]; exact List.mem_cons_self)
      simp only [List.length_map, List.length_range] at this
      rw [hB] at this
      rw [hl1]
      exact Nat.le_trans (Nat.mul_le_mul_right _ (by omega)) this
def OpensAt {α : Type} (P : Program) (off : Nat) (fs : List Field) (d : Kd α) (S : α → Prop) : Prop :=
  ∀ {H : Type} {enc : TypeId × Value → H} {W : World} {fuel : Nat} {cs : List Value} {xs : List (DataW H × List MemPlace)}, xs.length = fs.length → cs.length = off + d.sz →
    (∀ (i : Nat) (f : Field), fs[i]? = some f → DataW.trod enc P W 0 (fun _ => true) true fuel f.type ((cs.drop f.offset).take (P.cellsOf f.type)) = xs[i]?) →
    (∀ n ∈ DataW.weightsEach P (fs.map (·.type)) (xs.map (·.1)), n ≤ reachBytes) → ∃ v : α, d.K W v (cs.drop off) ∧ S v
theorem opensAt_last {α : Type} {off : Nat} {f : Field} {d : Kd α} {S : α → Prop} (ho : f.offset = off) (hc : P.cellsOf f.type = d.sz) (h : Opens P f.type d S) : OpensAt P off [f] d S := by
  intro H enc W fuel cs xs hl hcs hx hw
  match xs, hl with
  | [x], _ =>
    have h1 := hx 0 f rfl
    rw [ho, hc, List.take_of_length_le (by rw [List.length_drop]; omega)] at h1
    exact h h1 (fun n hn => hw n (by simp [DataW.weightsEach, hn]))
theorem opensAt_cons {α β : Type} {off : Nat} {f : Field} {fs : List Field} {d : Kd α} {b : Kd β} {S : α → Prop} {T : β → Prop} (ho : f.offset = off) (hc : P.cellsOf f.type = d.sz) (h : Opens P f.type d S) (hr : OpensAt P (off + d.sz) fs b T) :
    OpensAt P off (f :: fs) (Kd.pair d b) (fun x => S x.1 ∧ T x.2) := by
  intro H enc W fuel cs xs hl hcs hx hw
  match xs, hl with
  | x :: xs, hl =>
    have h1 := hx 0 f rfl
    rw [ho, hc] at h1
    obtain ⟨v, hk, hs⟩ := h h1 (fun n hn => hw n (by simp [DataW.weightsEach, hn]))
    have hcs' : cs.length = off + d.sz + b.sz := by rw [hcs]; exact (Nat.add_assoc _ _ _).symm
    obtain ⟨v2, hk2, hs2⟩ := hr (cs := cs) (xs := xs) (by simpa using hl) hcs' (fun i g hg => hx (i + 1) g hg) (fun n hn => hw n (by simp [DataW.weightsEach]; exact .inr (by simpa using hn)))
    refine ⟨(v, v2), ⟨_, _, ?_, hk, hk2⟩, hs, hs2⟩
    rw [← List.drop_drop, List.take_append_drop]
theorem opens_struct {α : Type} {t : TypeId} {fs : Array Field} {d : Kd α} {S : α → Prop} (hu : P.underlying t = some (.struct fs)) (hc : P.cellsOf t = d.sz) (h : OpensAt P 0 fs.toList d S) : Opens P t d S := by
  intro H enc W fuel cs x hx hw
  obtain ⟨xs, n, _, rfl, hl, hxl, hg⟩ := DataW.trod_struct hu hx
  have := h (enc := enc) (W := W) (fuel := n) (cs := cs) (xs := xs) (by simpa using hxl) (by rw [hl, hc, Nat.zero_add]) (fun i f hf => hg i f (by simpa using hf)) (fun q hq => hw q (by simp only [DataW.weights, hu]; exact hq))
  simpa using this
theorem opens_iso {α β : Type} {t : TypeId} {d : Kd α} {S : α → Prop} {T : β → Prop} {f : β → α} (g : α → β) (hfg : ∀ x, f (g x) = x) (hST : ∀ y, S (f y) → T y) (h : Opens P t d S) : Opens P t (Kd.iso d f) T := by
  intro H enc W fuel cs x hx hw
  obtain ⟨v, hk, hs⟩ := h hx hw
  exact ⟨g v, by show d.K W (f (g v)) cs; rw [hfg]; exact hk, hST _ (by rw [hfg]; exact hs)⟩
theorem opens_imp {α : Type} {t : TypeId} {d : Kd α} {S T : α → Prop} (h : Opens P t d S) (hST : ∀ y, S y → T y) : Opens P t d T := by
  intro H enc W fuel cs x hx hw
  obtain ⟨v, hk, hs⟩ := h hx hw
  exact ⟨v, hk, hST _ hs⟩
theorem arg_slice {H : Type} {enc : TypeId × Value → H} {W : World} {α : Type} {t e : TypeId} {d : Kd α} {S : List α → Prop} {r : Reach} {b : Nat} {v : Value} {dd : DataW H} {ps : List MemPlace} {ts : List TypeId} {ds : List (DataW H)} {j : Nat}
    (hu : P.underlying t = some (.slice e)) (ho : Opens P t (Kd.slice e d) S) (hv : Value.okWide P W r b t v) (h : DataW.Trod enc P W 0 (fun _ => true) true t v dd ps)
    (hsz : (DataW.weightsEach P ts ds).all (· ≤ reachBytes) = true) (ht : ts[j]? = some t) (hd : ds[j]? = some dd) :
    ∃ A l c, v = .slice A (List.length l) c ∧ l.length ≤ c ∧ d.C W A l.length l ∧ S l := by
  obtain ⟨a, len, cap, rfl⟩ := okWide_slice hu hv
  obtain ⟨fuel, hf⟩ := h
  obtain ⟨l, ⟨A, c, hcs, hl, hr⟩, hs⟩ := ho hf (fun n hn => by
    have := List.all_eq_true.1 hsz n (DataW.weights_mem_each ht hd n hn)
    simpa using this)
  simp only [Value.cells, List.cons.injEq, and_true] at hcs
  exact ⟨A, l, c, by simpa using hcs, hl, hr, hs⟩
end Go.Proofs.Ytopmjjnkolfciaa.Op
end
