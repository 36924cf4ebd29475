/- MLeafBack: this session's texts for the one law, put together (part 3 of 3): what its program computes, function by function, and that this answers true; the row stands at the end of the last part. Conditions: those that each theorem names; the last theorem has none. -/
import Derived.WalkKit
import Derived.ProofKit
import Derived.OpenShut
import Derived.ShutString
import Derived.ChangeOld
import Derived.Below
import Derived.SizedLaws
import Derived.ChangeSlices
import Derived.Lib.SmallJoins
import Derived.Deep.Slices
import Derived.Test.YtffaggckhneakaaRows
import Derived.Carry
import Derived.Test.YtffaggckhneakaaMLeafBackB
section
namespace Go.Proofs.Ytffaggckhneakaa.Pr
open Go.RowKit Go.Proofs.YtffaggckhneakaaW.PrintWords Go.Proofs.YtffaggckhneakaaW.PrintLast Go.Proofs.YtffaggckhneakaaW.PrintMore
attribute [local go_sem] max2_int min2_int max_two min_two max_three min_three max_four min_four
attribute [local go_sem] Go.Proofs.Ytffaggckhneakaa.Hl.str_geq Go.Proofs.Ytffaggckhneakaa.Hl.str_gtr Go.Proofs.Ytffaggckhneakaa.Hl.str_leq
set_option linter.unusedVariables false
set_option linter.unusedSimpArgs false
set_option maxHeartbeats 8000000 in
set_option maxRecDepth 100000 in
theorem leaf_get (k : Nat) (W : World) (Bx : Nat) (A : Option Addr) (c : Nat) (l : List Int) (N : Nat) (hN : l.length = N) (x n v : Int) (ok : Bool) (hbk : W.heap[Bx]? = some (.cells #[.slice A N c] 37 (0, 0))) (hr : Kd.C (Kd.int .u8) W A l.length l) (hc : l.length ≤ c)
    (h0 : 0 ≤ x) (h1 : 0 ≤ n) (h2 : x + n ≤ l.length) (hy : crc_Number.f k ((l.take (x + n).toNat).drop x.toNat) = some (v, ok)) :
    Calls Try.prog 54 #[.int .i64 x, .int .i64 n, .pointer (some ⟨Bx, 0, none⟩)] W fun e w' => e = .returned (.int .i64 (wrap64 v)) ∧ Drawn0 W w' := by
  subst hN
  obtain ⟨i0, hi, hz⟩ := Option.map_eq_some_iff.1 info5
  simp only [Prod.mk.injEq] at hz
  have hln : l.length ≤ 9223372036854775807 := hr.2.1
  obtain ⟨A', hcut, hA, hC⟩ := print_mid_of (P := Try.prog) (Value.int .u8) 0 37 5 .i64 .i64 Try.underlying37 hi hz.2.1 A c l x (x + n) h0 (by omega) h2 hc
  have hcell : W.cell? ⟨Bx, 0, none⟩ = some (.slice A l.length c) := (blk_cell hbk 0).trans rfl
  have hw64 : wrap64 (x + n) = x + n := by unfold wrap64; omega
  have hw64' : IntKind.i64.wrap (x + n) = x + n := (i64_w _).trans hw64
  go_enter Try.func54, Try.ntmps54
  have hDl : ((l.take (x + n).toNat).drop x.toNat).length = (x + n).toNat - x.toNat := by rw [List.length_drop, List.length_take]; omega
  have hcn := crc_Number.calls k A' (c - x.toNat) _ v ok W (Kd.C_of_reads (h1 := fun _ => rfl) (hA _ (Kd.reads_of_C hr))) hC hy
  rw [hDl] at hcn
  have HCN := Aside0.mk hcn
  clear hcn hy hA hC hr hbk
  go_wp2_with (go_at_call 55; refine HCN.out.mono ?_; rintro e w2 ⟨rfl, ⟨m, rfl⟩⟩)
  go_ret
  exact ⟨rfl, ⟨m, rfl⟩⟩
def leaf_Decode.tail (k : Nat) (b : List Int) (ms : List S54) : Option (List S54 × Int) := (leaf_Encode.f k ms).bind fun t => (if t.2 = 0 then ((bytes_Equal.f t.1 b).bind fun q => (if q = true then some (ms, 0) else some ([], 13))) else some ([], 13))
def leaf_Decode.l0 : Nat → List Int → Int → Int → Int → List S54 → Option (List S54 × Int)
  | 0, _, _, _, _, _ => none
  | k + 1, b, n, i, x, ms => if i < n then (if 0 ≤ x then (if x + 5 > 252 then some ([], 13) else ((crc_Number.f k ((b.take (x + 4 + 1).toNat).drop (x + 4).toNat)).bind fun v => (if 0 ≤ wrap64 v.1 ∧ wrap64 v.1 ≤ 255 then (if x + 5 + wrap64 v.1 > 252 then some ([], 13) else ((crc_Number.f k ((b.take (x + 4).toNat).drop x.toNat)).bind fun u => (if ms.length < 5864062014805 then leaf_Decode.l0 k b n (wrap64 (i + 1)) (x + 5 + wrap64 v.1) (ms ++ [⟨strOfNums ((b.take (x + 5 + wrap64 v.1).toNat).drop (x + 5).toNat), wrap64 u.1⟩]) else none))) else none))) else none) else leaf_Decode.tail k b ms
def leaf_Decode.f (k : Nat) (l0 : List Int) : Option (List S54 × Int) := if l0.length = 256 then ((crc_Number.f k ((l0.take (0 + 2 : Int).toNat).drop (0 : Int).toNat)).bind fun v => leaf_Decode.l0 k l0 (wrap64 v.1) 0 4 []) else some ([], 13)
set_option maxHeartbeats 8000000 in
set_option maxRecDepth 100000 in
theorem leaf_Decode.calls (k : Nat) (A0 : Option Addr) (c0 : Nat) (l0 : List Int) (r1 : List (S54)) (r2 : Int) (w : World) (hr0 : Kd.C (Kd.int .u8) w A0 l0.length l0) (hc0 : l0.length ≤ c0) (h : leaf_Decode.f k l0 = some (r1, r2)) :
    Calls Try.prog 30 #[.slice A0 l0.length c0] w fun e w' => ∃ v0_ : Value, e = .returned (.tuple #[v0_, .int .i64 r2]) ∧ Kd.R k54 54 w' w.heap.size (fun _ => True) v0_ r1 ∧ Below w.heap.size w w' := by
  unfold leaf_Decode.f at h
  have HR0 := Aside0.mk hr0
  have HC0 := Aside0.mk hc0
  clear hr0 hc0
  by_cases hlen : l0.length = 256
  · rw [if_pos hlen] at h
    obtain ⟨⟨nv, nok⟩, hn, h⟩ := Option.bind_eq_some_iff.1 h
    have HN := Aside0.mk hn
    have HH := Aside0.mk h
    have HN2 := Aside0.mk hlen
    have hlb : ((l0.length : Int) != 256) = false := by simp [hlen]
    obtain ⟨i0, hi0_, hz0_⟩ := Option.map_eq_some_iff.1 info5
    simp only [Prod.mk.injEq] at hz0_
    have HSZ := Aside0.mk (⟨hi0_, hz0_.2.1⟩ : Try.prog.info? 5 = some i0 ∧ i0.size = 1)
    clear hn h hlen hi0_ hz0_
    go_enter Try.func30, Try.ntmps30
    go_wp2_with (go_at_call 54; refine (leaf_get k _ w.heap.size A0 c0 l0 l0.length rfl 0 2 nv nok (blk_new w _) (Kd.C_alloc HR0.out _) HC0.out (by omega) (by omega) (by have := HN2.out; omega) HN.out).mono ?_; rintro e w1 ⟨rfl, ⟨m1, rfl⟩⟩)
    obtain ⟨nn, hnn⟩ : ∃ nn, nn = wrap64 nv := ⟨_, rfl⟩
    simp only [← hnn] at HH ⊢
    clear hnn
    have hi54 := info54
    have hu54 := Try.underlying54
    clear hlb
    go_loopg [5, 6, 16] k (fun kq v5 v6 v16 w' => ∃ (ms : List S54) (x i : Int), v6 = .int .i64 x ∧ v16 = .int .i64 i ∧ Aside0 (leaf_Decode.l0 kq l0 nn i x ms = some (r1, r2)) ∧ Aside0 (kq ≤ k) ∧ Aside0 (0 ≤ x ∧ x ≤ 252) ∧ Aside0 (w'.heap[w.heap.size]? = some (.cells #[.slice A0 l0.length c0] 37 (0, 0))) ∧ Aside0 (Kd.R k54 54 w' w.heap.size (fun _ => True) v5 ms) ∧ Aside0 (Below w.heap.size w w'))
    case atStart => exact ⟨[], 4, 0, rfl, rfl, HH, ⟨Nat.le_refl _⟩, ⟨by omega⟩, ⟨blk_drewN (blk_new w _) _⟩, ⟨Kd.R_nil _ _ _ _ _⟩, ⟨pw_below_drewN ((Below.refl _ _).alloc (Nat.le_refl _) _) _⟩⟩
    case round =>
      obtain ⟨ms, x, i, rfl, rfl, HL, HK, HX, HBK, HO, HB⟩ := hrel
      clear HH HN
      cases gk with
      | zero => exact absurd HL.out (by intro h_; cases h_)
      | succ g =>
        have hl := HL.out
        clear HL
        simp only [leaf_Decode.l0] at hl
        obtain ⟨Ao, co, hc5_, hr5_, rfl⟩ : ∃ A c, ms.length ≤ c ∧ Kd.C k54 wr A ms.length ms ∧ _ = Value.slice A ms.length c := by
          obtain ⟨A, c, e, hc, hr⟩ := Kd.R_reads HO.out
          exact ⟨A, c, hc, hr, e⟩
        have HC5 := Aside0.mk hc5_
        have HR5 := Aside0.mk hr5_
        clear hc5_ hr5_
        have hbk_ := HBK.out
        have hcell0 : wr.cell? ⟨w.heap.size, 0, none⟩ = some (.slice A0 l0.length c0) := (blk_cell hbk_ 0).trans rfl
        clear hbk_
        by_cases hi : i < nn
        · rw [if_pos hi, if_pos HX.out.1] at hl
          have hib : decide (i < nn) = true := decide_eq_true hi
          have hw5 : wrap64 (x + 5) = x + 5 := by have := HX.out; unfold wrap64; omega
          have hw4 : wrap64 (x + 4) = x + 4 := by have := HX.out; unfold wrap64; omega
          by_cases hx5 : x + 5 > 252
          · rw [if_pos hx5] at hl
            obtain ⟨rfl, rfl⟩ := Prod.mk.inj (Option.some.inj hl)
            have h5b : decide (252 < x + 5) = true := decide_eq_true hx5
            clear hx5 hl
            go_wp2
            go_ret2
            exact ⟨_, rfl, Kd.R_nil _ _ _ _ _, HB.out⟩
          · rw [if_neg hx5] at hl
            have h5b : decide (252 < x + 5) = false := decide_eq_false hx5
            have HX5 := Aside0.mk hx5
            clear hx5
            obtain ⟨⟨v, ok⟩, hv, hl⟩ := Option.bind_eq_some_iff.1 hl
            simp only [] at hl
            by_cases hvv : 0 ≤ wrap64 v ∧ wrap64 v ≤ 255
            · rw [if_pos hvv] at hl
              obtain ⟨vv, hvn⟩ : ∃ vv, wrap64 v = vv := ⟨_, rfl⟩
              rw [hvn] at hl hvv
              obtain ⟨y, hy⟩ : ∃ y, x + 5 + vv = y := ⟨_, rfl⟩
              rw [hy] at hl
              have HY := Aside0.mk (⟨by have := HX.out; omega, by have := HX.out; omega⟩ : x + 5 ≤ y ∧ y ≤ 600)
              have HV := Aside0.mk hv
              have hwy : wrap64 y = y := by have := HX.out; have := HY.out; unfold wrap64; omega
              clear hvv hv
              by_cases hy2 : y > 252
              · rw [if_pos hy2] at hl
                obtain ⟨rfl, rfl⟩ := Prod.mk.inj (Option.some.inj hl)
                have hyb : decide (252 < y) = true := decide_eq_true hy2
                clear hy2 hl
                go_wp2_with (go_at_call 54; refine (leaf_get g _ w.heap.size A0 c0 l0 l0.length rfl (x + 4) 1 v ok HBK.out (Kd.C_below HR0.out HB.out) HC0.out (by have := HX.out; omega) (by omega) (by have := HX.out; have := HX5.out; have := HN2.out; omega) HV.out).mono ?_; rintro e w2 ⟨rfl, ⟨m2, rfl⟩⟩)
                go_ret2
                exact ⟨_, rfl, Kd.R_nil _ _ _ _ _, pw_below_drewN HB.out _⟩
              · rw [if_neg hy2] at hl
                have hyb : decide (252 < y) = false := decide_eq_false hy2
                have HY2 := Aside0.mk hy2
                clear hy2
                obtain ⟨⟨u, uok⟩, hu, hl⟩ := Option.bind_eq_some_iff.1 hl
                simp only [] at hl
                by_cases hms : ms.length < 5864062014805
                · rw [if_pos hms] at hl
                  obtain ⟨uu, huu⟩ : ∃ uu, wrap64 u = uu := ⟨_, rfl⟩
                  rw [huu] at hl
                  have HMS := Aside0.mk hms
                  have HLL := Aside0.mk hl
                  have HU := Aside0.mk hu
                  clear hms hl hu
                  go_wp2_with (go_at_call 54; refine (leaf_get g _ w.heap.size A0 c0 l0 l0.length rfl (x + 4) 1 v ok HBK.out (Kd.C_below HR0.out HB.out) HC0.out (by have := HX.out; omega) (by omega) (by have := HX.out; have := HX5.out; have := HN2.out; omega) HV.out).mono ?_; rintro e w2 ⟨rfl, ⟨m2, rfl⟩⟩)
                  obtain ⟨A', hcut, hA, hC⟩ := print_mid_of (P := Try.prog) (Value.int .u8) 0 37 5 .i64 .i64 Try.underlying37 HSZ.out.1 HSZ.out.2 A0 c0 l0 (x + 5) y (by have := HX.out; omega) HY.out.1 (by have := HY2.out; have := HN2.out; omega) HC0.out
                  have hl_ : ((l0.take y.toNat).drop (x + 5).toNat).length = y.toNat - (x + 5).toNat := by rw [List.length_drop, List.length_take]; have := HY2.out; have := HN2.out; have := HY.out; omega
                  simp only [hl_] at hcut
                  have HRC := Aside0.mk (Kd.C_of_reads (h1 := fun _ => rfl) (hA _ (Kd.reads_of_C HR0.out)))
                  clear hA hC
                  have hcvW : ∀ W_ : World, (Kd.int .u8).C W_ A' ((l0.take y.toNat).drop (x + 5).toNat).length ((l0.take y.toNat).drop (x + 5).toNat) → (convert 37 9 (.slice A' (y.toNat - (x + 5).toNat) (c0 - (x + 5).toNat))).run Try.prog W_ = .ok (.string (strOfNums ((l0.take y.toNat).drop (x + 5).toNat))) W_ := by
                    intro W_ h_
                    have e_ := Kd.C_string (P := Try.prog) (A := A') (c := c0 - (x + 5).toNat) Try.underlying37 Try.underlying5 Try.underlying9 h_
                    rw [hl_] at e_
                    exact e_
                  obtain ⟨nm, hnm⟩ : ∃ nm, strOfNums ((l0.take y.toNat).drop (x + 5).toNat) = nm := ⟨_, rfl⟩
                  rw [hnm] at HLL hcvW
                  clear hnm
                  have HCV := Aside0.mk hcvW
                  clear hcvW hl_
                  have hbk1 := HBK.out
                  refine start_ (n := 14) (S := fun w' => w'.cell? ⟨w.heap.size, 0, none⟩ = some (.slice A0 l0.length c0) ∧ (convert 37 9 (.slice A' (y.toNat - (x + 5).toNat) (c0 - (x + 5).toNat))).run Try.prog w' = .ok (.string nm) w') (ds := []) #[false, false, false, false, false, false, false, false, false, false, false, false, false, false] (by kernel_rfl) rfl rfl ⟨(blk_cell hbk1 0).trans rfl, HCV.out _ (Kd.C_drew (Kd.C_drewN (Kd.C_below HRC.out HB.out) _))⟩ (fun hHeld => ?_)
                  refine pure_ (i := 0) (N := some 30) (v := ?_) (a' := ?_) #[true, false, false, false, false, false, false, false, false, false, false, false, false, false] rfl rfl (by kernel_rfl) (fun _ _ _ h => h) (Or.inl ⟨by rfl, ?_⟩) ?_ ?_
                  rotate_left
                  · intro w'
                    go_simp
                    with_reducible rfl
                  rotate_left
                  · simp only [Act.put, List.setIfInBounds_toArray, List.set_cons_zero, List.set_cons_succ, i64_w, i32_w]
                    rfl
                  refine pure_ (i := 1) (N := some 31) (v := ?_) (a' := ?_) #[true, true, false, false, false, false, false, false, false, false, false, false, false, false] rfl rfl (by kernel_rfl) (fun _ _ _ h => h) (Or.inl ⟨by rfl, ?_⟩) ?_ ?_
                  rotate_left
                  · intro w'
                    go_simp
                    with_reducible rfl
                  rotate_left
                  · simp only [Act.put, List.setIfInBounds_toArray, List.set_cons_zero, List.set_cons_succ, i64_w, i32_w]
                    rfl
                  refine pure_ (i := 2) (N := some 32) (v := ?_) (a' := ?_) #[true, true, true, false, false, false, false, false, false, false, false, false, false, false] rfl rfl (by kernel_rfl) (fun _ _ _ h => h) (Or.inl ⟨by rfl, ?_⟩) ?_ ?_
                  rotate_left
                  · intro w'
                    go_simp
                    with_reducible rfl
                  rotate_left
                  · simp only [Act.put, List.setIfInBounds_toArray, List.set_cons_zero, List.set_cons_succ, i64_w, i32_w]
                    rfl
                  refine pure_ (i := 5) (N := some 35) (v := ?_) (a' := ?_) #[true, true, true, false, false, true, false, false, false, false, false, false, false, false] rfl rfl (by kernel_rfl) (fun _ _ _ h => h) (Or.inl ⟨by rfl, ?_⟩) ?_ ?_
                  rotate_left
                  · intro w'
                    go_simp
                    with_reducible rfl
                  rotate_left
                  · simp only [Act.put, List.setIfInBounds_toArray, List.set_cons_zero, List.set_cons_succ, i64_w, i32_w]
                    rfl
                  refine pure_ (i := 6) (N := some 36) (v := ?_) (a' := ?_) #[true, true, true, false, false, true, true, false, false, false, false, false, false, false] rfl rfl (by kernel_rfl) (fun _ _ _ h => h) (Or.inl ⟨by rfl, ?_⟩) ?_ ?_
                  rotate_left
                  · intro w'
                    go_simp
                    with_reducible rfl
                  rotate_left
                  · simp only [Act.put, List.setIfInBounds_toArray, List.set_cons_zero, List.set_cons_succ, i64_w, i32_w]
                    rfl
                  refine pure_ (i := 7) (N := some 37) (v := ?_) (a' := ?_) #[true, true, true, false, false, true, true, true, false, false, false, false, false, false] rfl rfl (by kernel_rfl) (fun _ _ _ h => h) (Or.inl ⟨by rfl, ?_⟩) ?_ ?_
                  rotate_left
                  · intro w'
                    go_simp
                    with_reducible rfl
                  rotate_left
                  · simp only [Act.put, List.setIfInBounds_toArray, List.set_cons_zero, List.set_cons_succ, i64_w, i32_w]
                    rfl
                  refine take_ (i := 4) (N := some 34) (v := ?_) (a' := ?_) #[true, true, true, false, true, true, true, true, false, false, false, false, false, false] rfl rfl (by kernel_rfl) (fun _ _ _ h => h) (Or.inl ⟨by rfl, ?_⟩) hHeld ?_ ?_
                  rotate_left
                  · rintro w' ⟨s0, s1⟩
                    go_simp
                    with_reducible rfl
                  rotate_left
                  · simp only [Act.put, List.setIfInBounds_toArray, List.set_cons_zero, List.set_cons_succ, i64_w, i32_w]
                    rfl
                  refine pure_ (i := 8) (N := some 38) (v := ?_) (a' := ?_) #[true, true, true, false, true, true, true, true, true, false, false, false, false, false] rfl rfl (by kernel_rfl) (fun _ _ _ h => h) (Or.inl ⟨by rfl, ?_⟩) ?_ ?_
                  rotate_left
                  · intro w'
                    go_simp
                    with_reducible rfl
                  rotate_left
                  · simp only [Act.put, List.setIfInBounds_toArray, List.set_cons_zero, List.set_cons_succ, i64_w, i32_w]
                    rfl
                  refine take_ (i := 9) (N := some 39) (v := ?_) (a' := ?_) #[true, true, true, false, true, true, true, true, true, true, false, false, false, false] rfl rfl (by kernel_rfl) (fun _ _ _ h => h) (Or.inl ⟨by rfl, ?_⟩) hHeld ?_ ?_
                  rotate_left
                  · rintro w' ⟨s0, s1⟩
                    go_simp
                    with_reducible rfl
                  rotate_left
                  · simp only [Act.put, List.setIfInBounds_toArray, List.set_cons_zero, List.set_cons_succ, i64_w, i32_w]
                    rfl
                  refine one_ (i := 3) (N := some 33) #[true, true, true, true, true, true, true, true, true, true, false, false, false, false] rfl rfl (by kernel_rfl) (by decide) (fun K hK => ?_)
                  refine Hl.goesF_ Try.func54 (by kernel_rfl) rfl #[.int .i64 x, .int .i64 4] #[.pointer (some ⟨w.heap.size, 0, none⟩)] (by rfl) rfl rfl rfl (by simp only [List.map_toArray, List.map_cons, List.map_nil]; rfl) ?_
                  refine (leaf_get g _ w.heap.size A0 c0 l0 l0.length rfl x 4 u uok (blk_drew (blk_drewN hbk1 _)) (Kd.C_drew (Kd.C_drewN (Kd.C_below HR0.out HB.out) _)) HC0.out HX.out.1 (by omega) (by have := HX5.out; have := HN2.out; omega) HU.out).mono ?_
                  rintro e w3 ⟨rfl, ⟨m3, rfl⟩⟩
                  refine ⟨_, rfl, ?_⟩
                  rw [huu]
                  refine hK.out _ _ ⟨(blk_cell hbk1 0).trans rfl, HCV.out _ (Kd.C_drewN (Kd.C_drew (Kd.C_drewN (Kd.C_below HRC.out HB.out) _)) _)⟩ (fun hHeld => ?_)
                  clear hK K
                  refine norm_ (a' := ?_) ?_ ?_
                  rotate_left
                  · show Act.put _ (some 33) _ = _
                    simp only [Act.put, List.setIfInBounds_toArray, List.set_cons_zero, List.set_cons_succ, i64_w, i32_w]
                    rfl
                  refine pure_ (i := 10) (N := some 40) (v := ?_) (a' := ?_) #[true, true, true, true, true, true, true, true, true, true, true, false, false, false] rfl rfl (by kernel_rfl) (fun _ _ _ h => h) (Or.inl ⟨by rfl, ?_⟩) ?_ ?_
                  rotate_left
                  · intro w'
                    go_simp
                    with_reducible rfl
                  rotate_left
                  · simp only [Act.put, List.setIfInBounds_toArray, List.set_cons_zero, List.set_cons_succ, i64_w, i32_w]
                    rfl
                  refine one_ (i := 11) (N := some 41) #[true, true, true, true, true, true, true, true, true, true, true, true, false, false] rfl rfl (by kernel_rfl) (by decide) (fun K hK => ?_)
                  refine value_ (w1 := ?_) (v := ?_) (by rfl) rfl ?_ ?_
                  rotate_left 2
                  · go_simp
                    constructor
                    · rfl
                    · rfl
                  refine hK.out _ _ ⟨(blk_cell (blk_alloc (blk_drewN hbk1 (m2 + 1 + m3)) _) 0).trans rfl, HCV.out _ (Kd.C_alloc (Kd.C_drewN (Kd.C_below HRC.out HB.out) (m2 + 1 + m3)) _)⟩ (fun hHeld => ?_)
                  clear hK K
                  refine norm_ (a' := ?_) ?_ ?_
                  rotate_left
                  · show Act.put _ (some 41) _ = _
                    simp only [Act.put, List.setIfInBounds_toArray, List.set_cons_zero, List.set_cons_succ, i64_w, i32_w]
                    rfl
                  refine one_ (i := 12) (N := some 42) #[true, true, true, true, true, true, true, true, true, true, true, true, true, false] rfl rfl (by kernel_rfl) (by decide) (fun K hK => ?_)
                  refine Kd.R_append_step k54 (w0 := w) w.heap.size (by rfl) (.tmp 30) (.tmp 41) 41 54 (.agg #[(.string ⟨#[]⟩), (.int .i64 0)]) 24 rfl Try.underlying41 info54 rfl (by decide) (by omega) (.slice Ao ms.length co) ms (⟨nm, uu⟩ : S54) [.string nm, .int .i64 uu] (fun _ => True) (fun _ => False) rfl rfl (k54_mkM _ _ _ (⟨nm, uu⟩ : S54)) (fun _ hk => hk.elim) (fun _ _ => trivial) (Kd.R_drewN HO.out (m2 + 1 + m3)) (pw_below_drewN HB.out (m2 + 1 + m3)) (below_size (pw_below_drewN HB.out (m2 + 1 + m3))) (by have := HMS.out; omega) ?_
                  intro v5 w5 ho5 hb5 hg5 hat5
                  have hbk5 := blk_grown (blk_drewN hbk1 (m2 + 1 + m3)) hg5 (Kd.R_ne (Kd.R_drewN HO.out (m2 + 1 + m3)) (blk_drewN hbk1 (m2 + 1 + m3)) (by decide))
                  refine hK.out _ _ ⟨(blk_cell hbk5 0).trans rfl, HCV.out _ (Kd.C_below HRC.out hb5)⟩ (fun hHeld => ?_)
                  clear hK K
                  refine norm_ (a' := ?_) ?_ ?_
                  rotate_left
                  · show Act.put _ (some 42) _ = _
                    simp only [Act.put, List.setIfInBounds_toArray, List.set_cons_zero, List.set_cons_succ, i64_w, i32_w]
                    rfl
                  refine pure_ (i := 13) (N := some 5) (v := ?_) (a' := ?_) #[true, true, true, true, true, true, true, true, true, true, true, true, true, true] rfl rfl (by kernel_rfl) (fun _ _ _ h => h) (Or.inl ⟨by rfl, ?_⟩) ?_ ?_
                  rotate_left
                  · intro w'
                    go_simp
                    with_reducible rfl
                  rotate_left
                  · simp only [Act.put, List.setIfInBounds_toArray, List.set_cons_zero, List.set_cons_succ, i64_w, i32_w]
                    rfl
                  refine done_ (by kernel_rfl) ?_
                  go_wp2
                  go_roundg g
                  case measure => have := HK.out; omega
                  case rel => exact ⟨_, y, wrap64 (i + 1), by rw [hwy], rfl, HLL, ⟨by have := HK.out; omega⟩, ⟨by have := HY.out; have := HX.out; have := HY2.out; omega⟩, ⟨hbk5⟩, ⟨ho5⟩, ⟨hb5⟩⟩
                · rw [if_neg hms] at hl
                  cases hl
            · rw [if_neg hvv] at hl
              cases hl
        · rw [if_neg hi] at hl
          have hib : decide (i < nn) = false := decide_eq_false hi
          unfold leaf_Decode.tail at hl
          obtain ⟨⟨eb, ee⟩, he, hl⟩ := Option.bind_eq_some_iff.1 hl
          simp only [] at hl
          have HE := Aside0.mk he
          clear he
          by_cases hee : ee = 0
          · subst hee
            rw [if_pos rfl] at hl
            obtain ⟨q, hq, hl⟩ := Option.bind_eq_some_iff.1 hl
            have HQ := Aside0.mk hq
            clear hq
            by_cases hqt : q = true
            · subst hqt
              rw [if_pos rfl] at hl
              obtain ⟨rfl, rfl⟩ := Prod.mk.inj (Option.some.inj hl)
              clear hl
              go_wp2_with (first | (go_at_call 56; refine (bytes_Equal.calls A2 c2 eb A0 c0 l0 true _ HR2.out HC2.out (Kd.C_below HR0.out HB2.out) HC0.out HQ.out).mono ?_; rintro e w3 ⟨rfl, ⟨m3, rfl⟩⟩) | (go_at_call 23; refine (leaf_Encode.calls g Ao co ms eb 0 wr HR5.out HC5.out HE.out).mono ?_; rintro e w2 ⟨v2, rfl, ho2, hb2⟩; obtain ⟨A2, c2, rfl, hc2, hr2⟩ := Kd.R_reads ho2; have hbk2 := blk_below HBK.out hb2; have hcb2 := (blk_cell hbk2 0).trans rfl; have HR2 := Aside0.mk hr2; have HC2 := Aside0.mk hc2; have HB2 := Aside0.mk (HB.out.trans (hb2.mono HB.out.size)); have HO2 := Aside0.mk (Kd.R_below HO.out hb2); clear hc2 hr2 hbk2 ho2 hb2))
              go_ret2
              exact ⟨_, rfl, Kd.R_drewN HO2.out _, pw_below_drewN HB2.out _⟩
            · obtain rfl : q = false := by simpa using hqt
              rw [if_neg (by decide)] at hl
              obtain ⟨rfl, rfl⟩ := Prod.mk.inj (Option.some.inj hl)
              clear hl
              go_wp2_with (first | (go_at_call 56; refine (bytes_Equal.calls A2 c2 eb A0 c0 l0 false _ HR2.out HC2.out (Kd.C_below HR0.out HB2.out) HC0.out HQ.out).mono ?_; rintro e w3 ⟨rfl, ⟨m3, rfl⟩⟩) | (go_at_call 23; refine (leaf_Encode.calls g Ao co ms eb 0 wr HR5.out HC5.out HE.out).mono ?_; rintro e w2 ⟨v2, rfl, ho2, hb2⟩; obtain ⟨A2, c2, rfl, hc2, hr2⟩ := Kd.R_reads ho2; have hbk2 := blk_below HBK.out hb2; have hcb2 := (blk_cell hbk2 0).trans rfl; have HR2 := Aside0.mk hr2; have HC2 := Aside0.mk hc2; have HB2 := Aside0.mk (HB.out.trans (hb2.mono HB.out.size)); clear hc2 hr2 hbk2 ho2 hb2))
              go_ret2
              exact ⟨_, rfl, Kd.R_nil _ _ _ _ _, pw_below_drewN HB2.out _⟩
          · rw [if_neg hee] at hl
            obtain ⟨rfl, rfl⟩ := Prod.mk.inj (Option.some.inj hl)
            have heb : (ee != 0) = true := bne_iff_ne.2 hee
            clear hl
            go_wp2_with (go_at_call 23; refine (leaf_Encode.calls g Ao co ms eb ee wr HR5.out HC5.out HE.out).mono ?_; rintro e w2 ⟨v2, rfl, ho2, hb2⟩; have HB2 := Aside0.mk (HB.out.trans (hb2.mono HB.out.size)); clear ho2 hb2)
            go_ret2
            exact ⟨_, rfl, Kd.R_nil _ _ _ _ _, HB2.out⟩
  · rw [if_neg hlen] at h
    obtain ⟨rfl, rfl⟩ := Prod.mk.inj (Option.some.inj h)
    have hlb : ((l0.length : Int) == 256) = false := beq_eq_false_iff_ne.2 (by omega)
    go_enter Try.func30, Try.ntmps30
    go_wp2
    go_ret2
    exact ⟨_, rfl, Kd.R_nil _ _ _ _ _, (Below.refl _ _).alloc (Nat.le_refl _) _⟩
end Go.Proofs.Ytffaggckhneakaa.Pr
end
section
namespace Go.Proofs.Ytffaggckhneakaa.Lf
open Go.RowKit Go.Proofs.YtffaggckhneakaaW.PrintWords Go.Proofs.YtffaggckhneakaaW.PrintMore Go.Proofs.Ytffaggckhneakaa.Pr Go.Proofs.Ytffaggckhneakaa.Od Go.Proofs.Ytffaggckhneakaa.Cr
set_option linter.unusedVariables false
set_option linter.unusedSimpArgs false
def entB (e : E) : List Int := bytesN 4 e.f1.toNat ++ bytesN 1 e.f0.size ++ bytesOf e.f0
def bodyL : List E → List Int
  | [] => []
  | e :: l => entB e ++ bodyL l
def headP (l : List E) : List Int := bytesN 2 l.length ++ bytesN 2 (sumL l)
def encP (l : List E) : List Int := headP l ++ bodyL l ++ List.replicate (252 - (4 + sumL l)) 0
def encR (l : List E) : List Int × Int := if right none l = true then (if sumL l > 248 then ([], 9) else (encP l ++ bytesN 4 (sumB (encP l)).toNat, 0)) else ([], 1)
theorem entB_len (e : E) : (entB e).length = 5 + e.f0.size := by
  simp only [entB, List.length_append, bytesN_len, bytesOf_length]
theorem bodyL_len : ∀ l, (bodyL l).length = sumL l
  | [] => rfl
  | e :: l => by rw [bodyL, List.length_append, entB_len, bodyL_len l, sumL]
theorem headP_len (l : List E) : (headP l).length = 4 := by simp [headP, bytesN_len]
theorem encP_len {l : List E} (h : sumL l ≤ 248) : (encP l).length = 252 := by
  rw [encP, List.length_append, List.length_append, headP_len, bodyL_len, List.length_replicate]; omega
theorem bytes_app {a b : List Int} (ha : ∀ x ∈ a, isByte x) (hb : ∀ x ∈ b, isByte x) : ∀ x ∈ a ++ b, isByte x := by
  intro x hx
  rcases List.mem_append.1 hx with h | h
  · exact ha x h
  · exact hb x h
theorem bodyL_byte : ∀ l, ∀ x ∈ bodyL l, isByte x
  | [] => by simp [bodyL]
  | e :: l => bytes_app (bytes_app (bytes_app (bytesN_byte _ _) (bytesN_byte _ _)) (isByte_bytesOf _)) (bodyL_byte l)
theorem encP_byte (l : List E) : ∀ x ∈ encP l, isByte x := by
  refine bytes_app (bytes_app (bytes_app (bytesN_byte _ _) (bytesN_byte _ _)) (bodyL_byte l)) ?_
  intro x hx
  rw [(List.mem_replicate.1 hx).2]
  unfold isByte; omega
theorem encR_byte (l : List E) : ∀ x ∈ (encR l).1, isByte x := by
  unfold encR
  split
  · split
    · simp
    · exact bytes_app (encP_byte l) (bytesN_byte _ _)
  · simp
theorem encR_len {l : List E} (h : (encR l).2 = 0) : (encR l).1.length = 256 := by
  unfold encR at h ⊢
  by_cases hr : right none l = true
  · rw [if_pos hr] at h ⊢
    by_cases hs : sumL l > 248
    · rw [if_pos hs] at h; cases h
    · rw [if_neg hs, List.length_append, encP_len (by omega), bytesN_len]
  · rw [if_neg hr] at h; cases h
theorem encR_iff {l : List E} : (encR l).2 = 0 ↔ right none l = true ∧ sumL l ≤ 248 := by
  unfold encR
  by_cases hr : right none l = true
  · rw [if_pos hr]
    by_cases hs : sumL l > 248
    · rw [if_pos hs]
      constructor
      · intro h; cases h
      · intro h; omega
    · rw [if_neg hs]
      exact ⟨fun _ => ⟨hr, by omega⟩, fun _ => rfl⟩
  · rw [if_neg hr]
    constructor
    · intro h; cases h
    · intro h; exact absurd h.1 hr
theorem u64n (n : Nat) (h : n < 18446744073709551616) : IntKind.u64.wrap (n : Int) = (n : Int) := by rw [u64w]; omega
theorem enc_ev (l : List E) (hl : l.length < 5864062014805) : Ev (fun k => leaf_Encode.f k l) (encR l) := by
  unfold leaf_Encode.f
  refine Ev.bind (size_ev l hl) ?_
  unfold sizeR encR
  by_cases hr : right none l = true
  · simp only [if_pos hr, if_true]
    by_cases hs : sumL l > 248
    · simp only [if_pos (show ((sumL l : Nat) : Int) > 248 by omega), if_pos hs]
      exact Ev.now _
    · simp only [if_neg (show ¬ ((sumL l : Nat) : Int) > 248 by omega), if_neg hs, u64n l.length (by omega), u64n (sumL l) (by omega)]
      refine Ev.bind (crc_bytes_ev _ 2 (by decide)) ?_
      refine Ev.bind (crc_bytes_ev _ 2 (by decide)) ?_
      have key : ∀ (n i : Nat) (b : List Int) (p : Option (List UInt8)), i + n = l.length → right p (l.drop i) = true → b.length + sumL (l.drop i) ≤ 252 → Ev (fun k => leaf_Encode.l0 k l (i : Int) b) (b ++ bodyL (l.drop i)) := by
        intro n
        induction n with
        | zero =>
          intro i b p hi h hb
          refine Ev.succ ?_
          simp only [leaf_Encode.l0, if_neg (show ¬((i : Int) < (l.length : Int)) by omega)]
          rw [List.drop_of_length_le (by omega), bodyL, List.append_nil]
          exact Ev.now _
        | succ n ih =>
          intro i b p hi h hb
          refine Ev.succ ?_
          have hil : i < l.length := by omega
          rw [List.drop_eq_getElem_cons hil] at h hb ⊢
          simp only [right, Bool.and_eq_true] at h
          simp only [sumL] at hb
          have hn := okE_num h.1.1
          have hz := okE_size h.1.1
          simp only [leaf_Encode.l0, if_pos (show ((i : Int) < (l.length : Int)) by omega), if_pos (show (0 : Int) ≤ (i : Int) by omega), rdT_get hil]
          rw [show IntKind.u64.wrap l[i].f1 = ((l[i].f1.toNat : Nat) : Int) by rw [u64w]; omega]
          refine Ev.bind (crc_bytes_ev _ 4 (by decide)) ?_
          rw [u64n l[i].f0.size (by omega)]
          refine Ev.bind (crc_bytes_ev _ 1 (by decide)) ?_
          simp only [bytesN_len, if_pos (show b.length + 4 + 1 + l[i].f0.size ≤ 140737488355328 by omega), w64 (show -9223372036854775808 ≤ (i : Int) + 1 by omega) (by omega)]
          have := ih (i + 1) (b ++ bytesN 4 l[i].f1.toNat ++ bytesN 1 l[i].f0.size ++ bytesOf l[i].f0) _ (by omega) h.2 (by simp only [List.length_append, bytesN_len, bytesOf_length]; omega)
          have e : b ++ bodyL (l[i] :: l.drop (i + 1)) = b ++ bytesN 4 l[i].f1.toNat ++ bytesN 1 l[i].f0.size ++ bytesOf l[i].f0 ++ bodyL (l.drop (i + 1)) := by simp only [bodyL, entB, List.append_assoc]
          rw [e]
          exact this
      have h0 := key l.length 0 (headP l) none (by omega) (by rw [List.drop_zero]; exact hr) (by rw [List.drop_zero, headP_len]; omega)
      rw [List.drop_zero] at h0
      refine Ev.bind h0 ?_
      have hlen : (headP l ++ bodyL l).length = 4 + sumL l := by rw [List.length_append, headP_len, bodyL_len]
      simp only [hlen, if_pos (show 4 + sumL l ≤ 252 by omega)]
      refine Ev.bind (crc_sum_ev _ (by rw [List.length_append, hlen, List.length_replicate]; omega)) ?_
      have hlt := (sumB (headP l ++ bodyL l ++ List.replicate (252 - (4 + sumL l)) 0)).isLt
      simp only [w64 (show -9223372036854775808 ≤ (((sumB (headP l ++ bodyL l ++ List.replicate (252 - (4 + sumL l)) 0)).toNat : Nat) : Int) by omega) (by omega), u64n _ (show (sumB (headP l ++ bodyL l ++ List.replicate (252 - (4 + sumL l)) 0)).toNat < 18446744073709551616 by omega)]
      exact Ev.bind (crc_bytes_ev _ 4 (by decide)) (Ev.now _)
  · simp only [if_neg hr, if_neg (show ¬ ((1 : Int) = 0) by decide)]
    exact Ev.now _
def tailR (b : List Int) (ms : List E) : List E × Int := if (encR ms).2 = 0 ∧ (encR ms).1 = b then (ms, 0) else ([], 13)
def decL (b : List Int) : Nat → Nat → List E → List E × Int
  | 0, _, ms => tailR b ms
  | m + 1, x, ms => if x + 5 > 252 then ([], 13) else (if x + 5 + numN ((b.take (x + 4 + 1)).drop (x + 4)) > 252 then ([], 13) else
      decL b m (x + 5 + numN ((b.take (x + 4 + 1)).drop (x + 4))) (ms ++ [⟨strOfNums ((b.take (x + 5 + numN ((b.take (x + 4 + 1)).drop (x + 4)))).drop (x + 5)), ((numN ((b.take (x + 4)).drop x) : Nat) : Int)⟩]))
def decR (b : List Int) : List E × Int := if b.length = 256 then decL b (numN (b.take 2)) 4 [] else ([], 13)
theorem slice_byte {b : List Int} (hb : ∀ x ∈ b, isByte x) (i j : Nat) : ∀ x ∈ (b.take j).drop i, isByte x := fun x hx => hb x (List.mem_of_mem_take (List.mem_of_mem_drop hx))
theorem slice_num {b : List Int} (hb : ∀ x ∈ b, isByte x) (i n : Nat) (h : i + n ≤ b.length) : numN ((b.take (i + n)).drop i) < 256 ^ n := by
  have h1 := numN_lt _ (slice_byte hb i (i + n))
  have hl : ((b.take (i + n)).drop i).length = n := by rw [List.length_drop, List.length_take]; omega
  rw [hl] at h1
  exact h1
theorem tail_ev (b : List Int) (hb : ∀ x ∈ b, isByte x) (ms : List E) (hm : ms.length < 5864062014805) : Ev (fun k => leaf_Decode.tail k b ms) (tailR b ms) := by
  unfold leaf_Decode.tail tailR
  refine Ev.bind (enc_ev ms hm) ?_
  by_cases h0 : (encR ms).2 = 0
  · simp only [if_pos h0, bytes_Equal.f, Option.bind_some, str_beq]
    by_cases h1 : (encR ms).1 = b
    · simp only [h1, h0, decide_true, if_true, and_self]
      exact Ev.now _
    · have : ¬ strOfNums (encR ms).1 = strOfNums b := fun e => h1 ((strOfNums_inj (encR_byte ms) hb).1 e)
      simp only [decide_eq_false this, Bool.false_eq_true, if_false, h1, and_false]
      exact Ev.now _
  · simp only [if_neg h0, h0, false_and, if_false]
    exact Ev.now _
theorem dec_ev (b : List Int) (hb : ∀ x ∈ b, isByte x) : Ev (fun k => leaf_Decode.f k b) (decR b) := by
  unfold leaf_Decode.f decR
  by_cases hl : b.length = 256
  · simp only [if_pos hl]
    have h2 : numN (b.take 2) < 65536 := by
      have := slice_num hb 0 2 (by omega)
      simpa using this
    have e2 : ((b.take (0 + 2 : Int).toNat).drop (0 : Int).toNat) = b.take 2 := rfl
    rw [e2]
    refine Ev.bind (crc_number_ev _ (by rw [List.length_take]; omega) (fun x hx => hb x (List.mem_of_mem_take hx))) ?_
    simp only [w64 (show -9223372036854775808 ≤ ((numN (b.take 2) : Nat) : Int) by omega) (by omega)]
    generalize numN (b.take 2) = n at h2
    have key : ∀ (m i x : Nat) (ms : List E), i + m = n → ms.length ≤ i → Ev (fun k => leaf_Decode.l0 k b (n : Int) (i : Int) (x : Int) ms) (decL b m x ms) := by
      intro m
      induction m with
      | zero =>
        intro i x ms hi hm
        refine Ev.succ ?_
        simp only [leaf_Decode.l0, if_neg (show ¬((i : Int) < (n : Int)) by omega), decL]
        exact tail_ev b hb ms (by omega)
      | succ m ih =>
        intro i x ms hi hm
        refine Ev.succ ?_
        simp only [leaf_Decode.l0, if_pos (show ((i : Int) < (n : Int)) by omega), if_pos (show (0 : Int) ≤ (x : Int) by omega), decL]
        by_cases hx : x + 5 > 252
        · simp only [if_pos hx, if_pos (show (x : Int) + 5 > 252 by omega)]
          exact Ev.now _
        · simp only [if_neg hx, if_neg (show ¬ (x : Int) + 5 > 252 by omega)]
          rw [show ((x : Int) + 4 + 1).toNat = x + 4 + 1 by omega, show ((x : Int) + 4).toNat = x + 4 by omega]
          have hv := slice_num hb (x + 4) 1 (by omega)
          refine Ev.bind (crc_number_ev _ (by rw [List.length_drop, List.length_take]; omega) (slice_byte hb _ _)) ?_
          generalize numN ((b.take (x + 4 + 1)).drop (x + 4)) = v at hv ⊢
          have hv' : v < 256 := by simpa using hv
          simp only [w64 (show -9223372036854775808 ≤ (v : Int) by omega) (by omega), if_pos (show (0 : Int) ≤ (v : Int) ∧ (v : Int) ≤ 255 by omega)]
          by_cases hy : x + 5 + v > 252
          · simp only [if_pos hy, if_pos (show (x : Int) + 5 + (v : Int) > 252 by omega)]
            exact Ev.now _
          · simp only [if_neg hy, if_neg (show ¬ (x : Int) + 5 + (v : Int) > 252 by omega)]
            rw [Int.toNat_natCast]
            have hu := slice_num hb x 4 (by omega)
            refine Ev.bind (crc_number_ev _ (by rw [List.length_drop, List.length_take]; omega) (slice_byte hb _ _)) ?_
            rw [show (256 : Nat) ^ 4 = 4294967296 from rfl] at hu
            generalize numN ((b.take (x + 4)).drop x) = u at hu ⊢
            simp only [if_pos (show ms.length < 5864062014805 by omega), w64 (show -9223372036854775808 ≤ (u : Int) by omega) (by omega), w64 (show -9223372036854775808 ≤ (i : Int) + 1 by omega) (by omega)]
            rw [show ((x : Int) + 5 + (v : Int)).toNat = x + 5 + v by omega, show ((x : Int) + 5).toNat = x + 5 by omega, show (x : Int) + 5 + (v : Int) = ((x + 5 + v : Nat) : Int) by omega]
            exact ih (i + 1) (x + 5 + v) _ (by omega) (by rw [List.length_append]; simp; omega)
    exact key n 0 4 [] (by omega) (by simp)
  · simp only [if_neg hl]
    exact Ev.now _
theorem drop_entB {b : List Int} {x : Nat} {e : E} {r : List Int} (h : b.drop x = entB e ++ r) (hs : e.f0.size < 256) (hn : 0 ≤ e.f1 ∧ e.f1 < 4294967296) :
    numN ((b.take (x + 4 + 1)).drop (x + 4)) = e.f0.size ∧ ((numN ((b.take (x + 4)).drop x) : Nat) : Int) = e.f1 ∧ strOfNums ((b.take (x + 5 + e.f0.size)).drop (x + 5)) = e.f0 ∧ b.drop (x + 5 + e.f0.size) = r := by
  have g : ∀ i j, (b.take (x + j)).drop (x + i) = ((b.drop x).take j).drop i := by
    intro i j
    rw [List.take_drop, List.drop_drop]
  have h1 : (b.drop x).take 4 = bytesN 4 e.f1.toNat := by
    rw [h, entB, List.append_assoc, List.append_assoc, List.take_append_of_le_length (by rw [bytesN_len]; omega), List.take_of_length_le (by rw [bytesN_len]; omega)]
  have h2 : ((b.drop x).take 5).drop 4 = bytesN 1 e.f0.size := by
    rw [h, entB, List.append_assoc, List.take_append_of_le_length (by rw [List.length_append, bytesN_len, bytesN_len]; omega), List.take_of_length_le (by rw [List.length_append, bytesN_len, bytesN_len]; omega), List.drop_append_of_le_length (by rw [bytesN_len]; omega), List.drop_of_length_le (by rw [bytesN_len]; omega), List.nil_append]
  have hh : (bytesN 4 e.f1.toNat ++ bytesN 1 e.f0.size).length = 5 := by rw [List.length_append, bytesN_len, bytesN_len]
  have h3 : ((b.drop x).take (5 + e.f0.size)).drop 5 = bytesOf e.f0 := by
    rw [h, List.take_append_of_le_length (by rw [entB_len]; omega), List.take_of_length_le (by rw [entB_len]; omega), entB, ← hh, List.drop_left]
  have h4 : (b.drop x).drop (5 + e.f0.size) = r := by rw [h, ← entB_len, List.drop_left]
  refine ⟨?_, ?_, ?_, ?_⟩
  · rw [show x + 4 + 1 = x + 5 by omega, g, h2, numN_bytesN _ _ (by omega)]
  · have := g 0 4
    rw [Nat.add_zero, List.drop_zero] at this
    rw [this, h1, numN_bytesN _ _ (by rw [show (256 : Nat) ^ 4 = 4294967296 from rfl]; omega)]
    omega
  · rw [Nat.add_assoc, g, h3, str_bytes]
  · rw [List.drop_drop] at h4
    rw [Nat.add_assoc]; exact h4
theorem sumL_append : ∀ a b : List E, sumL (a ++ b) = sumL a + sumL b
  | [], b => by simp [sumL]
  | e :: a, b => by rw [List.cons_append, sumL, sumL, sumL_append a b]; omega
theorem bodyL_append : ∀ a b : List E, bodyL (a ++ b) = bodyL a ++ bodyL b
  | [], b => rfl
  | e :: a, b => by rw [List.cons_append, bodyL, bodyL, bodyL_append a b, List.append_assoc]
theorem dec_enc {l : List E} (h : (encR l).2 = 0) : decR (encR l).1 = (l, 0) := by
  have hi := encR_iff.1 h
  have hlen := encR_len h
  have he : (encR l).1 = encP l ++ bytesN 4 (sumB (encP l)).toNat := by unfold encR; rw [if_pos hi.1, if_neg (by omega)]
  unfold decR
  rw [if_pos hlen]
  have hsum : 5 * l.length ≤ sumL l := by
    have : ∀ l : List E, 5 * l.length ≤ sumL l := by
      intro l
      induction l with
      | nil => simp [sumL]
      | cons e l ih => simp only [sumL, List.length_cons]; omega
    exact this l
  have hn : numN ((encR l).1.take 2) = l.length := by
    rw [he, encP, headP, List.append_assoc, List.append_assoc, List.append_assoc, List.take_append_of_le_length (by rw [bytesN_len]; omega), List.take_of_length_le (by rw [bytesN_len]; omega), numN_bytesN _ _ (by omega)]
  rw [hn]
  have hbody : ∃ r, (encR l).1 = headP l ++ (bodyL l ++ r) := ⟨List.replicate (252 - (4 + sumL l)) 0 ++ bytesN 4 (sumB (encP l)).toNat, by rw [he, encP]; simp only [List.append_assoc]⟩
  obtain ⟨r, hr⟩ := hbody
  have key : ∀ (suf pre : List E) p, pre ++ suf = l → right p suf = true → decL (encR l).1 suf.length (4 + sumL pre) pre = (l, 0) := by
    intro suf
    induction suf with
    | nil =>
      intro pre p hp _
      rw [List.append_nil] at hp
      subst hp
      simp only [List.length_nil, decL, tailR]
      rw [if_pos ⟨h, trivial⟩]
    | cons e suf ih =>
      intro pre p hp hrt
      simp only [right, Bool.and_eq_true] at hrt
      have hz := okE_size hrt.1.1
      have hnm := okE_num hrt.1.1
      have hsl : sumL l = sumL pre + (5 + e.f0.size + sumL suf) := by rw [← hp, sumL_append, sumL]
      have hd : (encR l).1.drop (4 + sumL pre) = entB e ++ (bodyL suf ++ r) := by
        rw [hr, ← hp, bodyL_append, bodyL]
        have e1 : headP (pre ++ e :: suf) ++ (bodyL pre ++ (entB e ++ bodyL suf) ++ r) = (headP (pre ++ e :: suf) ++ bodyL pre) ++ (entB e ++ (bodyL suf ++ r)) := by simp only [List.append_assoc]
        have e2 : (headP (pre ++ e :: suf) ++ bodyL pre).length = 4 + sumL pre := by rw [List.length_append, headP_len, bodyL_len]
        rw [e1, ← e2, List.drop_left]
      obtain ⟨d1, d2, d3, d4⟩ := drop_entB hd (by omega) (by omega)
      simp only [List.length_cons, decL, d1, d2, d3]
      rw [if_neg (by omega), if_neg (by omega)]
      have := ih (pre ++ [e]) _ (by rw [List.append_assoc]; exact hp) hrt.2
      rw [sumL_append] at this
      simp only [sumL] at this
      rw [show 4 + sumL pre + 5 + e.f0.size = 4 + (sumL pre + (5 + e.f0.size + 0)) by omega]
      exact this
  have := key l [] none rfl hi.1
  simpa [sumL] using this
theorem decL_ok {b : List Int} : ∀ (m x : Nat) (ms : List E), (decL b m x ms).2 = 0 → (encR (decL b m x ms).1).2 = 0 ∧ (encR (decL b m x ms).1).1 = b
  | 0, x, ms, h => by
    simp only [decL, tailR] at h ⊢
    by_cases hc : (encR ms).2 = 0 ∧ (encR ms).1 = b
    · rw [if_pos hc]; exact hc
    · rw [if_neg hc] at h; cases h
  | m + 1, x, ms, h => by
    simp only [decL] at h ⊢
    by_cases hx : x + 5 > 252
    · rw [if_pos hx] at h; cases h
    · rw [if_neg hx] at h ⊢
      split at h
      · cases h
      · rename_i hy
        rw [if_neg hy]
        exact decL_ok m _ _ h
theorem decL_code (b : List Int) : ∀ (m x : Nat) (ms : List E), (decL b m x ms).2 = 0 ∨ (decL b m x ms) = ([], 13)
  | 0, x, ms => by
    simp only [decL, tailR]
    split
    · exact .inl rfl
    · exact .inr rfl
  | m + 1, x, ms => by
    simp only [decL]
    split
    · exact .inr rfl
    · split
      · exact .inr rfl
      · exact decL_code b m _ _
theorem decR_code (b : List Int) : (decR b).2 = 0 ∨ decR b = ([], 13) := by
  unfold decR
  split
  · exact decL_code b _ _ _
  · exact .inr rfl
theorem decR_ok {b : List Int} (h : (decR b).2 = 0) : (encR (decR b).1).2 = 0 ∧ (encR (decR b).1).1 = b := by
  unfold decR at h ⊢
  by_cases hl : b.length = 256
  · rw [if_pos hl] at h ⊢; exact decL_ok _ _ _ h
  · rw [if_neg hl] at h; cases h
theorem enc_done {l : List E} (h : (encR l).2 = 0) : regB (BitVec.allOnes 32) (encR l).1 = done := by
  have hi := encR_iff.1 h
  unfold encR
  rw [if_pos hi.1, if_neg (by omega)]
  exact reg_done _
theorem alive_list : (encR [(⟨⟨#[97]⟩, 5⟩ : E)]).2 = 0 := encR_iff.2 ⟨by decide, by decide⟩
end Go.Proofs.Ytffaggckhneakaa.Lf
end
section
namespace Go.Proofs.Ytffaggckhneakaa.Op
open Go.ChangeShapes Go.WideShapes Go.Deep Go.RowKit Go.Proofs.YtffaggckhneakaaW.PrintWords
variable {P : Program}
def Opens {α : Type} (P : Program) (t : TypeId) (d : Kd α) (S : α → Prop) : Prop :=
  ∀ {H : Type} {enc : TypeId × Value → H} {W : World} {fuel : Nat} {cs : List Value} {x : DataW H × List MemPlace},
    DataW.trod enc P W 0 (fun _ => true) true fuel t cs = some x → (∀ n ∈ x.1.weights P t, n ≤ reachBytes) → ∃ v : α, d.K W v cs ∧ S v
theorem opens_int {t : TypeId} {k : IntKind} (hu : P.underlying t = some (.int k)) : Opens P t (Kd.int k) (fun n => (Lit.int k n).wf = true) := by
  intro H enc W fuel cs x h _
  obtain ⟨n, rfl, _, hw⟩ := DataW.trod_int hu h
  exact ⟨n, rfl, hw⟩
theorem opens_string {t : TypeId} (hu : P.underlying t = some .string) : Opens P t Kd.string (fun s => s.size ≤ 140737488351232) := by
  intro H enc W fuel cs x h hw
  obtain ⟨s, rfl, rfl, _⟩ := DataW.trod_string hu h
  refine ⟨s, rfl, ?_⟩
  have := hw s.data.toList.length (by simp [DataW.weights])
  rw [Array.length_toList] at this
  exact this
theorem weightsAll_mem {H : Type} {e : TypeId} : ∀ {l : List (DataW H)} {d : DataW H}, d ∈ l → ∀ n ∈ d.weights P e, n ∈ DataW.weightsAll P e l
  | a :: l, d, hd, n, hn => by
    simp only [DataW.weightsAll, List.mem_append]
    rcases List.mem_cons.1 hd with rfl | hd
    · exact .inl hn
    · exact .inr (weightsAll_mem hd n hn)
  | [], _, hd, _, _ => by simp at hd
theorem opens_slice {α : Type} {t e : TypeId} {d : Kd α} {S : α → Prop} {B : Nat} (hu : P.underlying t = some (.slice e)) (hc : P.cellsOf e = d.sz) (hB : P.bytesOf e = B) (he : Opens P e d S) :
    Opens P t (Kd.slice e d) (fun xs => xs.length * B ≤ 140737488351232 ∧ ∀ x ∈ xs, S x) := by
  intro H enc W fuel cs x h hw
  rcases open_slice hu h with ⟨rfl, rfl⟩ | ⟨a, len, cap, m, n, D, Pl, rfl, _, hl, hm, hmm, rfl, hx⟩
  · exact ⟨[], ⟨none, 0, rfl, Nat.le_refl _, rfl, Nat.zero_le _, fun h => absurd h (Nat.lt_irrefl _)⟩, by simp, by simp⟩
  · simp only [if_true] at hmm
    subst hmm
    have hwt : ∀ i, i < len → ∀ q ∈ (D i).weights P e, q ≤ reachBytes := by
      intro i hi q hq
      refine hw q ?_
      simp only [DataW.weights, hu, List.mem_cons, List.mem_append]
      exact .inr (.inl (weightsAll_mem (List.mem_map.2 ⟨i, List.mem_range.2 hi, rfl⟩) q hq))
    have hv : ∀ i, i < len → ∃ v : α, S v ∧ ∃ c, c.length = d.sz ∧ d.K W v c ∧ ∀ j u, c[j]? = some u → W.cell? (a.add (i * d.sz + j)) = some u := by
      intro i hi
      obtain ⟨c, h1, h2⟩ := hx i (Nat.lt_of_lt_of_le hi hl)
      obtain ⟨v, hk, hs⟩ := he h2 (hwt i hi)
      refine ⟨v, hs, c, d.K_len hk, hk, ?_⟩
      rw [hc] at h1
      obtain ⟨_, hlen, hcell⟩ := World.cells?_some h1
      intro j u hj
      have hjl : j < c.length := (List.getElem?_eq_some_iff.1 hj).1
      have := hcell j (by rw [← hlen]; exact hjl)
      rw [Deep.add_add] at this
      rw [this, hj]
    have key : ∀ k, k ≤ len → ∃ l : List α, l.length = k ∧ (∀ v ∈ l, S v) ∧ ∀ i v, l[i]? = some v → ∃ c, c.length = d.sz ∧ d.K W v c ∧ ∀ j u, c[j]? = some u → W.cell? (a.add (i * d.sz + j)) = some u := by
      intro k
      induction k with
      | zero => intro _; exact ⟨[], rfl, by simp, by simp⟩
      | succ k ih =>
        intro hk
        obtain ⟨l, hl1, hl2, hl3⟩ := ih (by omega)
        obtain ⟨v, hs, hr⟩ := hv k (by omega)
        refine ⟨l ++ [v], by simp [hl1], ?_, ?_⟩
        · intro y hy
          rcases List.mem_append.1 hy with hy | hy
          · exact hl2 y hy
          · rw [List.mem_singleton.1 hy]; exact hs
        · intro i y hy
          rcases Nat.lt_trichotomy i k with hik | hik | hik
          · rw [List.getElem?_append_left (by omega)] at hy
            exact hl3 i y hy
          · subst hik
            rw [List.getElem?_append_right (by omega), hl1, Nat.sub_self] at hy
            simp only [List.getElem?_cons_zero, Option.some.injEq] at hy
            subst hy
            exact hr
          · rw [List.getElem?_eq_none (by simp [hl1]; omega)] at hy
            cases hy
    obtain ⟨l, hl1, hl2, hl3⟩ := key len (Nat.le_refl _)
    refine ⟨l, ⟨some a, m, by rw [hl1], by rw [hl1]; exact hl, rfl, ?_, fun _ => ⟨a, rfl, hl3⟩⟩, ?_, hl2⟩
    · rw [hl1]
      have : maxLen ≤ 9223372036854775807 := by decide
      omega
    · have := hw _ (by simp only [DataW.weights, hu]; exact List.mem_cons_self)
      simp only [List.length_map, List.length_range] at this
      rw [hB] at this
      rw [hl1]
      exact Nat.le_trans (Nat.mul_le_mul_right _ (by omega)) this
def OpensAt {α : Type} (P : Program) (off : Nat) (fs : List Field) (d : Kd α) (S : α → Prop) : Prop :=
  ∀ {H : Type} {enc : TypeId × Value → H} {W : World} {fuel : Nat} {cs : List Value} {xs : List (DataW H × List MemPlace)}, xs.length = fs.length → cs.length = off + d.sz →
    (∀ (i : Nat) (f : Field), fs[i]? = some f → DataW.trod enc P W 0 (fun _ => true) true fuel f.type ((cs.drop f.offset).take (P.cellsOf f.type)) = xs[i]?) →
    (∀ n ∈ DataW.weightsEach P (fs.map (·.type)) (xs.map (·.1)), n ≤ reachBytes) → ∃ v : α, d.K W v (cs.drop off) ∧ S v
theorem opensAt_last {α : Type} {off : Nat} {f : Field} {d : Kd α} {S : α → Prop} (ho : f.offset = off) (hc : P.cellsOf f.type = d.sz) (h : Opens P f.type d S) : OpensAt P off [f] d S := by
  intro H enc W fuel cs xs hl hcs hx hw
  match xs, hl with
  | [x], _ =>
    have h1 := hx 0 f rfl
    rw [ho, hc, List.take_of_length_le (by rw [List.length_drop]; omega)] at h1
    exact h h1 (fun n hn => hw n (by simp [DataW.weightsEach, hn]))
theorem opensAt_cons {α β : Type} {off : Nat} {f : Field} {fs : List Field} {d : Kd α} {b : Kd β} {S : α → Prop} {T : β → Prop} (ho : f.offset = off) (hc : P.cellsOf f.type = d.sz) (h : Opens P f.type d S) (hr : OpensAt P (off + d.sz) fs b T) :
    OpensAt P off (f :: fs) (Kd.pair d b) (fun x => S x.1 ∧ T x.2) := by
  intro H enc W fuel cs xs hl hcs hx hw
  match xs, hl with
  | x :: xs, hl =>
    have h1 := hx 0 f rfl
    rw [ho, hc] at h1
    obtain ⟨v, hk, hs⟩ := h h1 (fun n hn => hw n (by simp [DataW.weightsEach, hn]))
    have hcs' : cs.length = off + d.sz + b.sz := by rw [hcs]; exact (Nat.add_assoc _ _ _).symm
    obtain ⟨v2, hk2, hs2⟩ := hr (cs := cs) (xs := xs) (by simpa using hl) hcs' (fun i g hg => hx (i + 1) g hg) (fun n hn => hw n (by simp [DataW.weightsEach]; exact .inr (by simpa using hn)))
    refine ⟨(v, v2), ⟨_, _, ?_, hk, hk2⟩, hs, hs2⟩
    rw [← List.drop_drop, List.take_append_drop]
theorem opens_struct {α : Type} {t : TypeId} {fs : Array Field} {d : Kd α} {S : α → Prop} (hu : P.underlying t = some (.struct fs)) (hc : P.cellsOf t = d.sz) (h : OpensAt P 0 fs.toList d S) : Opens P t d S := by
  intro H enc W fuel cs x hx hw
  obtain ⟨xs, n, _, rfl, hl, hxl, hg⟩ := DataW.trod_struct hu hx
  have := h (enc := enc) (W := W) (fuel := n) (cs := cs) (xs := xs) (by simpa using hxl) (by rw [hl, hc, Nat.zero_add]) (fun i f hf => hg i f (by simpa using hf)) (fun q hq => hw q (by simp only [DataW.weights, hu]; exact hq))
  simpa using this
theorem opens_iso {α β : Type} {t : TypeId} {d : Kd α} {S : α → Prop} {T : β → Prop} {f : β → α} (g : α → β) (hfg : ∀ x, f (g x) = x) (hST : ∀ y, S (f y) → T y) (h : Opens P t d S) : Opens P t (Kd.iso d f) T := by
  intro H enc W fuel cs x hx hw
  obtain ⟨v, hk, hs⟩ := h hx hw
  exact ⟨g v, by show d.K W (f (g v)) cs; rw [hfg]; exact hk, hST _ (by rw [hfg]; exact hs)⟩
theorem opens_imp {α : Type} {t : TypeId} {d : Kd α} {S T : α → Prop} (h : Opens P t d S) (hST : ∀ y, S y → T y) : Opens P t d T := by
  intro H enc W fuel cs x hx hw
  obtain ⟨v, hk, hs⟩ := h hx hw
  exact ⟨v, hk, hST _ hs⟩
theorem arg_slice {H : Type} {enc : TypeId × Value → H} {W : World} {α : Type} {t e : TypeId} {d : Kd α} {S : List α → Prop} {r : Reach} {b : Nat} {v : Value} {dd : DataW H} {ps : List MemPlace} {ts : List TypeId} {ds : List (DataW H)} {j : Nat}
    (hu : P.underlying t = some (.slice e)) (ho : Opens P t (Kd.slice e d) S) (hv : Value.okWide P W r b t v) (h : DataW.Trod enc P W 0 (fun _ => true) true t v dd ps)
    (hsz : (DataW.weightsEach P ts ds).all (· ≤ reachBytes) = true) (ht : ts[j]? = some t) (hd : ds[j]? = some dd) :
    ∃ A l c, v = .slice A (List.length l) c ∧ l.length ≤ c ∧ d.C W A l.length l ∧ S l := by
  obtain ⟨a, len, cap, rfl⟩ := okWide_slice hu hv
  obtain ⟨fuel, hf⟩ := h
  obtain ⟨l, ⟨A, c, hcs, hl, hr⟩, hs⟩ := ho hf (fun n hn => by
    have := List.all_eq_true.1 hsz n (DataW.weights_mem_each ht hd n hn)
    simpa using this)
  simp only [Value.cells, List.cons.injEq, and_true] at hcs
  exact ⟨A, l, c, by simpa using hcs, hl, hr, hs⟩
end Go.Proofs.Ytffaggckhneakaa.Op
end
section
namespace Go.Proofs.Ytffaggckhneakaa.Pr
open Go.RowKit Go.Proofs.YtffaggckhneakaaW.PrintWords Go.Proofs.YtffaggckhneakaaW.PrintLast Go.Proofs.YtffaggckhneakaaW.PrintMore
attribute [local go_sem] max2_int min2_int max_two min_two max_three min_three max_four min_four
attribute [local go_sem] Go.Proofs.Ytffaggckhneakaa.Hl.str_geq Go.Proofs.Ytffaggckhneakaa.Hl.str_gtr Go.Proofs.Ytffaggckhneakaa.Hl.str_leq
set_option linter.unusedVariables false
set_option linter.unusedSimpArgs false
def undercroftlaw11_alive.f (k : Nat)  : Option (Bool) := (leaf_Encode.f k (([(⟨(⟨#[97]⟩ : ByteArray), 5⟩ : S54)] : List (S54)))).bind fun bt114 => ((leaf_Decode.f k bt114.1).bind fun bt118 => ((leaf_Size.f k bt118.1).bind fun bt122 => (if bt114.2 = 0 then (if bt118.2 = 0 then (if (bt114.1.length : Int) = 256 then (if 4 < (bt114.1.length : Int) then (if (rd bt114.1 4) = 5 then (if (bt118.1.length : Int) = 1 then (if 0 < (bt118.1.length : Int) then (if ((rd_T54 bt118.1 0).f0).toList = ([97] : List UInt8) then (if bt122.1 = 6 then (if bt122.2 = 0 then ((leaf_May.f (⟨#[97]⟩ : ByteArray)).bind fun t126 => (if t126 = true then ((leaf_May.f (⟨#[46, 46]⟩ : ByteArray)).bind fun t127 => (some (!t127))) else (some false))) else (some false)) else (some false)) else (some false)) else (none)) else (some false)) else (some false)) else (none)) else (some false)) else (some false)) else (some false))))
set_option maxHeartbeats 8000000 in
set_option maxRecDepth 100000 in
theorem undercroftlaw11_alive.calls (k : Nat)  (r : Bool) (w : World) (h : undercroftlaw11_alive.f k  = some r) :
    Calls Try.prog 22 #[] w fun e w' => e = .returned (.bool r) ∧ Below w.heap.size w w' := by
  have hu54 := Try.underlying54
  have HB := Aside0.mk (Below.refl w.heap.size w)
  have H : ((leaf_Encode.f k (([(⟨(⟨#[97]⟩ : ByteArray), 5⟩ : S54)] : List (S54)))).bind fun bt114 => ((leaf_Decode.f k bt114.1).bind fun bt118 => ((leaf_Size.f k bt118.1).bind fun bt122 => (if bt114.2 = 0 then (if bt118.2 = 0 then (if (bt114.1.length : Int) = 256 then (if 4 < (bt114.1.length : Int) then (if (rd bt114.1 4) = 5 then (if (bt118.1.length : Int) = 1 then (if 0 < (bt118.1.length : Int) then (if ((rd_T54 bt118.1 0).f0).toList = ([97] : List UInt8) then (if bt122.1 = 6 then (if bt122.2 = 0 then ((leaf_May.f (⟨#[97]⟩ : ByteArray)).bind fun t126 => (if t126 = true then ((leaf_May.f (⟨#[46, 46]⟩ : ByteArray)).bind fun t127 => (some (!t127))) else (some false))) else (some false)) else (some false)) else (some false)) else (none)) else (some false)) else (some false)) else (none)) else (some false)) else (some false)) else (some false))))) = some r := h
  clear h
  obtain ⟨y111, hy111⟩ : ∃ y_ : List (S54), y_ = (([(⟨(⟨#[97]⟩ : ByteArray), 5⟩ : S54)] : List (S54))) := ⟨_, rfl⟩
  replace H : ((leaf_Encode.f k y111).bind fun bt114 => ((leaf_Decode.f k bt114.1).bind fun bt118 => ((leaf_Size.f k bt118.1).bind fun bt122 => (if bt114.2 = 0 then (if bt118.2 = 0 then (if (bt114.1.length : Int) = 256 then (if 4 < (bt114.1.length : Int) then (if (rd bt114.1 4) = 5 then (if (bt118.1.length : Int) = 1 then (if 0 < (bt118.1.length : Int) then (if ((rd_T54 bt118.1 0).f0).toList = ([97] : List UInt8) then (if bt122.1 = 6 then (if bt122.2 = 0 then ((leaf_May.f (⟨#[97]⟩ : ByteArray)).bind fun t126 => (if t126 = true then ((leaf_May.f (⟨#[46, 46]⟩ : ByteArray)).bind fun t127 => (some (!t127))) else (some false))) else (some false)) else (some false)) else (some false)) else (none)) else (some false)) else (some false)) else (none)) else (some false)) else (some false)) else (some false))))) = some r := by first | (rw [hy111]; with_reducible exact H) | (have H2_ := (Option.bind_some _ _).symm.trans H; rw [hy111]; with_reducible exact H2_) | (have H2_ := (Option.bind_some _ _).symm.trans H; with_reducible exact H2_) | with_reducible exact H | (rw [hy111]; exact H) | exact H
  have Ny111 := Aside0.mk hy111
  clear hy111
  replace H := Option.bind_eq_some_iff.mp H
  obtain ⟨⟨t114, t115⟩, A10, H⟩ := H
  replace H : ((leaf_Decode.f k t114).bind fun bt118 => ((leaf_Size.f k bt118.1).bind fun bt122 => (if t115 = 0 then (if bt118.2 = 0 then (if (t114.length : Int) = 256 then (if 4 < (t114.length : Int) then (if (rd t114 4) = 5 then (if (bt118.1.length : Int) = 1 then (if 0 < (bt118.1.length : Int) then (if ((rd_T54 bt118.1 0).f0).toList = ([97] : List UInt8) then (if bt122.1 = 6 then (if bt122.2 = 0 then ((leaf_May.f (⟨#[97]⟩ : ByteArray)).bind fun t126 => (if t126 = true then ((leaf_May.f (⟨#[46, 46]⟩ : ByteArray)).bind fun t127 => (some (!t127))) else (some false))) else (some false)) else (some false)) else (some false)) else (none)) else (some false)) else (some false)) else (none)) else (some false)) else (some false)) else (some false)))) = some r := H
  have A1 := Aside0.mk A10
  clear A10
  replace H := Option.bind_eq_some_iff.mp H
  obtain ⟨⟨t118, t119⟩, A20, H⟩ := H
  replace H : ((leaf_Size.f k t118).bind fun bt122 => (if t115 = 0 then (if t119 = 0 then (if (t114.length : Int) = 256 then (if 4 < (t114.length : Int) then (if (rd t114 4) = 5 then (if (t118.length : Int) = 1 then (if 0 < (t118.length : Int) then (if ((rd_T54 t118 0).f0).toList = ([97] : List UInt8) then (if bt122.1 = 6 then (if bt122.2 = 0 then ((leaf_May.f (⟨#[97]⟩ : ByteArray)).bind fun t126 => (if t126 = true then ((leaf_May.f (⟨#[46, 46]⟩ : ByteArray)).bind fun t127 => (some (!t127))) else (some false))) else (some false)) else (some false)) else (some false)) else (none)) else (some false)) else (some false)) else (none)) else (some false)) else (some false)) else (some false))) = some r := H
  have A2 := Aside0.mk A20
  clear A20
  replace H := Option.bind_eq_some_iff.mp H
  obtain ⟨⟨t122, t123⟩, A30, H⟩ := H
  replace H : (if t115 = 0 then (if t119 = 0 then (if (t114.length : Int) = 256 then (if 4 < (t114.length : Int) then (if (rd t114 4) = 5 then (if (t118.length : Int) = 1 then (if 0 < (t118.length : Int) then (if ((rd_T54 t118 0).f0).toList = ([97] : List UInt8) then (if t122 = 6 then (if t123 = 0 then ((leaf_May.f (⟨#[97]⟩ : ByteArray)).bind fun t126 => (if t126 = true then ((leaf_May.f (⟨#[46, 46]⟩ : ByteArray)).bind fun t127 => (some (!t127))) else (some false))) else (some false)) else (some false)) else (some false)) else (none)) else (some false)) else (some false)) else (none)) else (some false)) else (some false)) else (some false)) = some r := H
  have A3 := Aside0.mk A30
  clear A30
  by_cases c4 : t115 = 0
  · rw [if_pos c4] at H
    have c4b0 : (t115 == 0) = true := beq_iff_eq.mpr c4
    have c4b1 : (t115 != 0) = false := bne_eq_false_iff_eq.mpr c4
    clear c4
    by_cases c5 : t119 = 0
    · rw [if_pos c5] at H
      have c5b0 : (t119 == 0) = true := beq_iff_eq.mpr c5
      have c5b1 : (t119 != 0) = false := bne_eq_false_iff_eq.mpr c5
      clear c5
      by_cases c6 : (t114.length : Int) = 256
      · rw [if_pos c6] at H
        have c6b0 : ((t114.length : Int) == 256) = true := beq_iff_eq.mpr c6
        have c6b1 : ((t114.length : Int) != 256) = false := bne_eq_false_iff_eq.mpr c6
        clear c6
        by_cases c7 : 4 < (t114.length : Int)
        · rw [if_pos c7] at H
          have c7b0 : decide (4 < (t114.length : Int)) = true := decide_eq_true c7
          have c7b1 : decide (4 < t114.length) = true := decide_eq_true (by omega)
          clear c7
          by_cases c8 : (rd t114 4) = 5
          · rw [if_pos c8] at H
            have c8b0 : ((rd t114 4) == 5) = true := beq_iff_eq.mpr c8
            have c8b1 : ((rd t114 4) != 5) = false := bne_eq_false_iff_eq.mpr c8
            clear c8
            by_cases c9 : (t118.length : Int) = 1
            · rw [if_pos c9] at H
              have c9b0 : ((t118.length : Int) == 1) = true := beq_iff_eq.mpr c9
              have c9b1 : ((t118.length : Int) != 1) = false := bne_eq_false_iff_eq.mpr c9
              clear c9
              by_cases c10 : 0 < (t118.length : Int)
              · rw [if_pos c10] at H
                have c10b0 : decide (0 < (t118.length : Int)) = true := decide_eq_true c10
                have c10b1 : decide (0 < t118.length) = true := decide_eq_true (by omega)
                clear c10
                by_cases c11 : ((rd_T54 t118 0).f0).toList = ([97] : List UInt8)
                · rw [if_pos c11] at H
                  have c11b0 : (((rd_T54 t118 0).f0).toList == ([97] : List UInt8)) = true := beq_iff_eq.mpr c11
                  have c11b1 : (((rd_T54 t118 0).f0).toList != ([97] : List UInt8)) = false := bne_eq_false_iff_eq.mpr c11
                  clear c11
                  by_cases c12 : t122 = 6
                  · rw [if_pos c12] at H
                    have c12b0 : (t122 == 6) = true := beq_iff_eq.mpr c12
                    have c12b1 : (t122 != 6) = false := bne_eq_false_iff_eq.mpr c12
                    clear c12
                    by_cases c13 : t123 = 0
                    · rw [if_pos c13] at H
                      have c13b0 : (t123 == 0) = true := beq_iff_eq.mpr c13
                      have c13b1 : (t123 != 0) = false := bne_eq_false_iff_eq.mpr c13
                      clear c13
                      replace H := Option.bind_eq_some_iff.mp H
                      obtain ⟨t126, A140, H⟩ := H
                      replace H : (if t126 = true then ((leaf_May.f (⟨#[46, 46]⟩ : ByteArray)).bind fun t127 => (some (!t127))) else (some false)) = some r := H
                      have A14 := Aside0.mk A140
                      clear A140
                      by_cases c15 : t126 = true
                      · subst c15
                        have H1 : ((leaf_May.f (⟨#[46, 46]⟩ : ByteArray)).bind fun t127 => (some (!t127))) = some r := by rw [if_pos rfl] at H; exact H
                        clear H
                        have H := H1
                        clear H1
                        replace H := Option.bind_eq_some_iff.mp H
                        obtain ⟨t127, A160, H⟩ := H
                        replace H : (some (!t127)) = some r := H
                        have A16 := Aside0.mk A160
                        clear A160
                        obtain rfl := Option.some.inj H
                        go_enter Try.func22, Try.ntmps22
                        go_wp2_with (first | ((with_reducible refine gate_dst (N := 9) rfl ?_); (try (refine gate_guard (by rfl) ?_; dsimp only)); refine Kd.R_lit k54 _ 54 ?hg (N := 9) ?hd (xs := ([(⟨(⟨#[97]⟩ : ByteArray), 5⟩ : S54)] : List (S54))) (inner := [.string (⟨#[97]⟩ : ByteArray), .int .i64 5]) (ok := fun _ => True) (okp := fun _ => True) ?hr ?hp (fun _ hk => hk) trivial (Below.refl _ _) (Nat.le_refl _) (by simp) ?_; (case hd => rfl); (case hg => rfl); (case hr => first | (go_simp; done) | (go_simp; rfl)); (case hp => exact (Reps.c2 (show Kd.M k54 _ _ _ (⟨(⟨#[97]⟩ : ByteArray), 5⟩ : S54) [.string (⟨#[97]⟩ : ByteArray), .int .i64 5] from (k54_mkM _ _ _ (⟨(⟨#[97]⟩ : ByteArray), 5⟩ : S54) )) (Reps.none _ _))); intro v112 w17 ho18 hb hg_ hnew_; clear hg_ hnew_; (first | rw [← Ny111.out] at ho18 | (simp only [Int.reduceToNat] at ho18; rw [← Ny111.out] at ho18)); have n0_ := Aside0.mk (Kd.R_lower ho18 (below_size (by repeat (first | (with_reducible first | exact HB.out | apply below_alloc | apply pw_below_drewN | apply below_drew1) | exact HB.out)))); have n1_ := Aside0.mk (below_step (by repeat (first | (with_reducible first | exact HB.out | apply below_alloc | apply pw_below_drewN | apply below_drew1) | exact HB.out)) hb); clear HB; have HO113 := n0_; have HB := n1_; clear n0_ n1_; clear hb ho18; obtain ⟨Ao19, co19, eo19⟩ := Kd.R_slice HO113.out; subst eo19) | ((with_reducible refine gate_callee (f := 23) rfl ?_); refine goesL_ (some 10) rfl rfl Try.func23 (by kernel_rfl) rfl #[.slice Ao19 y111.length co19] rfl (by (try simp only [List.map_toArray, List.map_cons, List.map_nil]); first | done | rfl | (simp only [List.length_drop, List.length_take]; rfl)) ?_; (with_reducible refine (leaf_Encode.calls k _ _ y111 t114 t115 _ ?side1 ?side2 A1.out).mono ?_); (case side1 => repeat (first | exact (Kd.R_reads' HO113.out).2.2 | (with_reducible refine Kd.C_alloc ?_ _) | (with_reducible refine Kd.C_drewN ?_ _) | (with_reducible refine Kd.C_drew ?_))); (case side2 => exact (Kd.R_reads' HO113.out).2.1); rintro e w20 ⟨v116, rfl, ho0, hb⟩; refine ⟨_, rfl, ?_⟩; have n0_ := Aside0.mk (Kd.R_below (by (with_reducible repeat (first | apply Kd.R_alloc | apply Kd.R_drewN | apply Kd.R_drew)); exact HO113.out) hb); have n1_ := Aside0.mk (Kd.R_lower ho0 (below_size (by repeat (first | (with_reducible first | exact HB.out | apply below_alloc | apply pw_below_drewN | apply below_drew1) | exact HB.out)))); have n2_ := Aside0.mk (below_step (by repeat (first | (with_reducible first | exact HB.out | apply below_alloc | apply pw_below_drewN | apply below_drew1) | exact HB.out)) hb); clear HO113; clear HB; have HO113 := n0_; have HO117 := n1_; have HB := n2_; clear n0_ n1_ n2_; (try clear hb); (try clear hb2); (try clear hk); (try clear hi); (try clear ho0); obtain ⟨Ao21, co21, eo21⟩ := Kd.R_slice HO117.out; subst eo21) | ((with_reducible refine gate_callee (f := 30) rfl ?_); refine goesL_ (some 15) rfl rfl Try.func30 (by kernel_rfl) rfl #[.slice Ao21 t114.length co21] rfl (by (try simp only [List.map_toArray, List.map_cons, List.map_nil]); first | done | rfl | (simp only [List.length_drop, List.length_take]; rfl)) ?_; (with_reducible refine (leaf_Decode.calls k _ _ t114 t118 t119 _ ?side1 ?side2 A2.out).mono ?_); (case side1 => repeat (first | exact (Kd.R_reads' HO117.out).2.2 | (with_reducible refine Kd.C_alloc ?_ _) | (with_reducible refine Kd.C_drewN ?_ _) | (with_reducible refine Kd.C_drew ?_))); (case side2 => exact (Kd.R_reads' HO117.out).2.1); rintro e w22 ⟨v120, rfl, ho0, hb⟩; refine ⟨_, rfl, ?_⟩; have n0_ := Aside0.mk (Kd.R_elder' (by (with_reducible repeat (first | apply Kd.R_alloc | apply Kd.R_drewN | apply Kd.R_drew)); exact HO113.out) (Kd.R_base ho0) hb); have n1_ := Aside0.mk (Kd.R_below (by (with_reducible repeat (first | apply Kd.R_alloc | apply Kd.R_drewN | apply Kd.R_drew)); exact HO117.out) hb); have n2_ := Aside0.mk (Kd.R_lower (Kd.R_new' ho0 (Kd.R_lt (by (with_reducible repeat (first | apply Kd.R_alloc | apply Kd.R_drewN | apply Kd.R_drew)); exact HO113.out))) (below_size (by repeat (first | (with_reducible first | exact HB.out | apply below_alloc | apply pw_below_drewN | apply below_drew1) | exact HB.out)))); have n3_ := Aside0.mk (below_step (by repeat (first | (with_reducible first | exact HB.out | apply below_alloc | apply pw_below_drewN | apply below_drew1) | exact HB.out)) hb); clear HO113; clear HO117; clear HB; have HO113 := n0_; have HO117 := n1_; have HO121 := n2_; have HB := n3_; clear n0_ n1_ n2_ n3_; (try clear hb); (try clear hb2); (try clear hk); (try clear hi); (try clear ho0); obtain ⟨Ao23, co23, eo23⟩ := Kd.R_slice HO121.out; subst eo23) | ((with_reducible refine gate_callee (f := 25) rfl ?_); refine goesL_ (some 20) rfl rfl Try.func25 (by kernel_rfl) rfl #[.slice Ao23 t118.length co23] rfl (by (try simp only [List.map_toArray, List.map_cons, List.map_nil]); first | done | rfl | (simp only [List.length_drop, List.length_take]; rfl)) ?_; (with_reducible refine (leaf_Size.calls k _ _ t118 t122 t123 _ ?side1 ?side2 A3.out).mono ?_); (case side1 => repeat (first | exact (Kd.R_reads' HO121.out).2.2 | (with_reducible refine Kd.C_alloc ?_ _) | (with_reducible refine Kd.C_drewN ?_ _) | (with_reducible refine Kd.C_drew ?_))); (case side2 => exact (Kd.R_reads' HO121.out).2.1); rintro e w24 ⟨rfl, hb⟩; refine ⟨_, rfl, ?_⟩; have n0_ := Aside0.mk (Kd.R_below (by (with_reducible repeat (first | apply Kd.R_alloc | apply Kd.R_drewN | apply Kd.R_drew)); exact HO113.out) hb); have n1_ := Aside0.mk (Kd.R_below (by (with_reducible repeat (first | apply Kd.R_alloc | apply Kd.R_drewN | apply Kd.R_drew)); exact HO117.out) hb); have n2_ := Aside0.mk (Kd.R_below (by (with_reducible repeat (first | apply Kd.R_alloc | apply Kd.R_drewN | apply Kd.R_drew)); exact HO121.out) hb); have n3_ := Aside0.mk (below_step (by repeat (first | (with_reducible first | exact HB.out | apply below_alloc | apply pw_below_drewN | apply below_drew1) | exact HB.out)) hb); clear HO113; clear HO117; clear HO121; clear HB; have HO113 := n0_; have HO117 := n1_; have HO121 := n2_; have HB := n3_; clear n0_ n1_ n2_ n3_; (try clear hb); (try clear hb2); (try clear hk); (try clear hi); have p124 : 0 ≤ (4 : Int) := (by omega); have q124 : 4 < (t114.length : Int) := of_decide_eq_true (by first | (with_reducible assumption) | assumption); obtain ⟨ad124, e124, hx124_0⟩ := Kd.at_int (Kd.R_reads' HO117.out).2.2 4 p124 q124; cases e124; (try simp only [show (4 : Int).toNat = 4 from rfl, Nat.reduceMul, Nat.reduceEqDiff, Go.Addr.add, ↓reduceIte] at hx124_0); have qi124 : (4 < t114.length) = True := eq_true (by omega); (try rw [show ((4 : Int)).toNat = 4 from rfl] at hx124_0); replace p124 := eq_true p124; replace q124 := eq_true q124; have p125 : 0 ≤ (0 : Int) := (by omega); have q125 : 0 < (t118.length : Int) := of_decide_eq_true (by first | (with_reducible assumption) | assumption); obtain ⟨ad125, e125, hx125_0, hx125_1⟩ := at_T54 (Kd.R_reads' HO121.out).2.2 0 p125 q125; cases e125; have qi125 : (0 < t118.length) = True := eq_true (by omega); (try rw [show ((0 : Int)).toNat = 0 from rfl] at hx125_0); (try rw [show 0 * 2 = 0 from rfl] at hx125_0); (try rw [Addr.add_zero'] at hx125_0); (try rw [show ((0 : Int)).toNat = 0 from rfl] at hx125_1); (try rw [show 0 * 2 = 0 from rfl] at hx125_1); (try rw [Addr.add_zero'] at hx125_1); replace p125 := eq_true p125; replace q125 := eq_true q125) | (go_at_call 27; (with_reducible refine (leaf_May.calls (⟨#[97]⟩ : ByteArray) true _ A14.out).mono ?_); rintro e w25 ⟨rfl, hb⟩; have n0_ := Aside0.mk (Kd.R_below (by (with_reducible repeat (first | apply Kd.R_alloc | apply Kd.R_drewN | apply Kd.R_drew)); exact HO113.out) hb); have n1_ := Aside0.mk (Kd.R_below (by (with_reducible repeat (first | apply Kd.R_alloc | apply Kd.R_drewN | apply Kd.R_drew)); exact HO117.out) hb); have n2_ := Aside0.mk (Kd.R_below (by (with_reducible repeat (first | apply Kd.R_alloc | apply Kd.R_drewN | apply Kd.R_drew)); exact HO121.out) hb); have n3_ := Aside0.mk (below_step (by repeat (first | (with_reducible first | exact HB.out | apply below_alloc | apply pw_below_drewN | apply below_drew1) | exact HB.out)) hb); clear HO113; clear HO117; clear HO121; clear HB; have HO113 := n0_; have HO117 := n1_; have HO121 := n2_; have HB := n3_; clear n0_ n1_ n2_ n3_; (try clear hb); (try clear hb2); (try clear hk); (try clear hi)) | (go_at_call 27; (with_reducible refine (leaf_May.calls (⟨#[46, 46]⟩ : ByteArray) t127 _ A16.out).mono ?_); rintro e w26 ⟨rfl, hb⟩; have n0_ := Aside0.mk (Kd.R_below (by (with_reducible repeat (first | apply Kd.R_alloc | apply Kd.R_drewN | apply Kd.R_drew)); exact HO113.out) hb); have n1_ := Aside0.mk (Kd.R_below (by (with_reducible repeat (first | apply Kd.R_alloc | apply Kd.R_drewN | apply Kd.R_drew)); exact HO117.out) hb); have n2_ := Aside0.mk (Kd.R_below (by (with_reducible repeat (first | apply Kd.R_alloc | apply Kd.R_drewN | apply Kd.R_drew)); exact HO121.out) hb); have n3_ := Aside0.mk (below_step (by repeat (first | (with_reducible first | exact HB.out | apply below_alloc | apply pw_below_drewN | apply below_drew1) | exact HB.out)) hb); clear HO113; clear HO117; clear HO121; clear HB; have HO113 := n0_; have HO117 := n1_; have HO121 := n2_; have HB := n3_; clear n0_ n1_ n2_ n3_; (try clear hb); (try clear hb2); (try clear hk); (try clear hi)))
                        go_ret
                        exact ⟨by first | rfl | (simp [errW_none, errW_some] <;> rfl) | (simp [*, errW_none, errW_some] <;> rfl), by repeat (first | (with_reducible first | exact HB.out | apply below_alloc | apply pw_below_drewN | apply below_drew1) | exact HB.out)⟩
                      · replace c15 := Bool.eq_false_iff.mpr c15
                        subst c15
                        have H1 : (some false) = some r := by rw [if_neg (show ¬ (false = true) by decide)] at H; exact H
                        clear H
                        have H := H1
                        clear H1
                        obtain rfl := Option.some.inj H
                        go_enter Try.func22, Try.ntmps22
                        go_wp2_with (first | ((with_reducible refine gate_dst (N := 9) rfl ?_); (try (refine gate_guard (by rfl) ?_; dsimp only)); refine Kd.R_lit k54 _ 54 ?hg (N := 9) ?hd (xs := ([(⟨(⟨#[97]⟩ : ByteArray), 5⟩ : S54)] : List (S54))) (inner := [.string (⟨#[97]⟩ : ByteArray), .int .i64 5]) (ok := fun _ => True) (okp := fun _ => True) ?hr ?hp (fun _ hk => hk) trivial (Below.refl _ _) (Nat.le_refl _) (by simp) ?_; (case hd => rfl); (case hg => rfl); (case hr => first | (go_simp; done) | (go_simp; rfl)); (case hp => exact (Reps.c2 (show Kd.M k54 _ _ _ (⟨(⟨#[97]⟩ : ByteArray), 5⟩ : S54) [.string (⟨#[97]⟩ : ByteArray), .int .i64 5] from (k54_mkM _ _ _ (⟨(⟨#[97]⟩ : ByteArray), 5⟩ : S54) )) (Reps.none _ _))); intro v112 w27 ho28 hb hg_ hnew_; clear hg_ hnew_; (first | rw [← Ny111.out] at ho28 | (simp only [Int.reduceToNat] at ho28; rw [← Ny111.out] at ho28)); have n0_ := Aside0.mk (Kd.R_lower ho28 (below_size (by repeat (first | (with_reducible first | exact HB.out | apply below_alloc | apply pw_below_drewN | apply below_drew1) | exact HB.out)))); have n1_ := Aside0.mk (below_step (by repeat (first | (with_reducible first | exact HB.out | apply below_alloc | apply pw_below_drewN | apply below_drew1) | exact HB.out)) hb); clear HB; have HO113 := n0_; have HB := n1_; clear n0_ n1_; clear hb ho28; obtain ⟨Ao29, co29, eo29⟩ := Kd.R_slice HO113.out; subst eo29) | ((with_reducible refine gate_callee (f := 23) rfl ?_); refine goesL_ (some 10) rfl rfl Try.func23 (by kernel_rfl) rfl #[.slice Ao29 y111.length co29] rfl (by (try simp only [List.map_toArray, List.map_cons, List.map_nil]); first | done | rfl | (simp only [List.length_drop, List.length_take]; rfl)) ?_; (with_reducible refine (leaf_Encode.calls k _ _ y111 t114 t115 _ ?side1 ?side2 A1.out).mono ?_); (case side1 => repeat (first | exact (Kd.R_reads' HO113.out).2.2 | (with_reducible refine Kd.C_alloc ?_ _) | (with_reducible refine Kd.C_drewN ?_ _) | (with_reducible refine Kd.C_drew ?_))); (case side2 => exact (Kd.R_reads' HO113.out).2.1); rintro e w30 ⟨v116, rfl, ho0, hb⟩; refine ⟨_, rfl, ?_⟩; have n0_ := Aside0.mk (Kd.R_below (by (with_reducible repeat (first | apply Kd.R_alloc | apply Kd.R_drewN | apply Kd.R_drew)); exact HO113.out) hb); have n1_ := Aside0.mk (Kd.R_lower ho0 (below_size (by repeat (first | (with_reducible first | exact HB.out | apply below_alloc | apply pw_below_drewN | apply below_drew1) | exact HB.out)))); have n2_ := Aside0.mk (below_step (by repeat (first | (with_reducible first | exact HB.out | apply below_alloc | apply pw_below_drewN | apply below_drew1) | exact HB.out)) hb); clear HO113; clear HB; have HO113 := n0_; have HO117 := n1_; have HB := n2_; clear n0_ n1_ n2_; (try clear hb); (try clear hb2); (try clear hk); (try clear hi); (try clear ho0); obtain ⟨Ao31, co31, eo31⟩ := Kd.R_slice HO117.out; subst eo31) | ((with_reducible refine gate_callee (f := 30) rfl ?_); refine goesL_ (some 15) rfl rfl Try.func30 (by kernel_rfl) rfl #[.slice Ao31 t114.length co31] rfl (by (try simp only [List.map_toArray, List.map_cons, List.map_nil]); first | done | rfl | (simp only [List.length_drop, List.length_take]; rfl)) ?_; (with_reducible refine (leaf_Decode.calls k _ _ t114 t118 t119 _ ?side1 ?side2 A2.out).mono ?_); (case side1 => repeat (first | exact (Kd.R_reads' HO117.out).2.2 | (with_reducible refine Kd.C_alloc ?_ _) | (with_reducible refine Kd.C_drewN ?_ _) | (with_reducible refine Kd.C_drew ?_))); (case side2 => exact (Kd.R_reads' HO117.out).2.1); rintro e w32 ⟨v120, rfl, ho0, hb⟩; refine ⟨_, rfl, ?_⟩; have n0_ := Aside0.mk (Kd.R_elder' (by (with_reducible repeat (first | apply Kd.R_alloc | apply Kd.R_drewN | apply Kd.R_drew)); exact HO113.out) (Kd.R_base ho0) hb); have n1_ := Aside0.mk (Kd.R_below (by (with_reducible repeat (first | apply Kd.R_alloc | apply Kd.R_drewN | apply Kd.R_drew)); exact HO117.out) hb); have n2_ := Aside0.mk (Kd.R_lower (Kd.R_new' ho0 (Kd.R_lt (by (with_reducible repeat (first | apply Kd.R_alloc | apply Kd.R_drewN | apply Kd.R_drew)); exact HO113.out))) (below_size (by repeat (first | (with_reducible first | exact HB.out | apply below_alloc | apply pw_below_drewN | apply below_drew1) | exact HB.out)))); have n3_ := Aside0.mk (below_step (by repeat (first | (with_reducible first | exact HB.out | apply below_alloc | apply pw_below_drewN | apply below_drew1) | exact HB.out)) hb); clear HO113; clear HO117; clear HB; have HO113 := n0_; have HO117 := n1_; have HO121 := n2_; have HB := n3_; clear n0_ n1_ n2_ n3_; (try clear hb); (try clear hb2); (try clear hk); (try clear hi); (try clear ho0); obtain ⟨Ao33, co33, eo33⟩ := Kd.R_slice HO121.out; subst eo33) | ((with_reducible refine gate_callee (f := 25) rfl ?_); refine goesL_ (some 20) rfl rfl Try.func25 (by kernel_rfl) rfl #[.slice Ao33 t118.length co33] rfl (by (try simp only [List.map_toArray, List.map_cons, List.map_nil]); first | done | rfl | (simp only [List.length_drop, List.length_take]; rfl)) ?_; (with_reducible refine (leaf_Size.calls k _ _ t118 t122 t123 _ ?side1 ?side2 A3.out).mono ?_); (case side1 => repeat (first | exact (Kd.R_reads' HO121.out).2.2 | (with_reducible refine Kd.C_alloc ?_ _) | (with_reducible refine Kd.C_drewN ?_ _) | (with_reducible refine Kd.C_drew ?_))); (case side2 => exact (Kd.R_reads' HO121.out).2.1); rintro e w34 ⟨rfl, hb⟩; refine ⟨_, rfl, ?_⟩; have n0_ := Aside0.mk (Kd.R_below (by (with_reducible repeat (first | apply Kd.R_alloc | apply Kd.R_drewN | apply Kd.R_drew)); exact HO113.out) hb); have n1_ := Aside0.mk (Kd.R_below (by (with_reducible repeat (first | apply Kd.R_alloc | apply Kd.R_drewN | apply Kd.R_drew)); exact HO117.out) hb); have n2_ := Aside0.mk (Kd.R_below (by (with_reducible repeat (first | apply Kd.R_alloc | apply Kd.R_drewN | apply Kd.R_drew)); exact HO121.out) hb); have n3_ := Aside0.mk (below_step (by repeat (first | (with_reducible first | exact HB.out | apply below_alloc | apply pw_below_drewN | apply below_drew1) | exact HB.out)) hb); clear HO113; clear HO117; clear HO121; clear HB; have HO113 := n0_; have HO117 := n1_; have HO121 := n2_; have HB := n3_; clear n0_ n1_ n2_ n3_; (try clear hb); (try clear hb2); (try clear hk); (try clear hi); have p124 : 0 ≤ (4 : Int) := (by omega); have q124 : 4 < (t114.length : Int) := of_decide_eq_true (by first | (with_reducible assumption) | assumption); obtain ⟨ad124, e124, hx124_0⟩ := Kd.at_int (Kd.R_reads' HO117.out).2.2 4 p124 q124; cases e124; (try simp only [show (4 : Int).toNat = 4 from rfl, Nat.reduceMul, Nat.reduceEqDiff, Go.Addr.add, ↓reduceIte] at hx124_0); have qi124 : (4 < t114.length) = True := eq_true (by omega); (try rw [show ((4 : Int)).toNat = 4 from rfl] at hx124_0); replace p124 := eq_true p124; replace q124 := eq_true q124; have p125 : 0 ≤ (0 : Int) := (by omega); have q125 : 0 < (t118.length : Int) := of_decide_eq_true (by first | (with_reducible assumption) | assumption); obtain ⟨ad125, e125, hx125_0, hx125_1⟩ := at_T54 (Kd.R_reads' HO121.out).2.2 0 p125 q125; cases e125; have qi125 : (0 < t118.length) = True := eq_true (by omega); (try rw [show ((0 : Int)).toNat = 0 from rfl] at hx125_0); (try rw [show 0 * 2 = 0 from rfl] at hx125_0); (try rw [Addr.add_zero'] at hx125_0); (try rw [show ((0 : Int)).toNat = 0 from rfl] at hx125_1); (try rw [show 0 * 2 = 0 from rfl] at hx125_1); (try rw [Addr.add_zero'] at hx125_1); replace p125 := eq_true p125; replace q125 := eq_true q125) | (go_at_call 27; (with_reducible refine (leaf_May.calls (⟨#[97]⟩ : ByteArray) false _ A14.out).mono ?_); rintro e w35 ⟨rfl, hb⟩; have n0_ := Aside0.mk (Kd.R_below (by (with_reducible repeat (first | apply Kd.R_alloc | apply Kd.R_drewN | apply Kd.R_drew)); exact HO113.out) hb); have n1_ := Aside0.mk (Kd.R_below (by (with_reducible repeat (first | apply Kd.R_alloc | apply Kd.R_drewN | apply Kd.R_drew)); exact HO117.out) hb); have n2_ := Aside0.mk (Kd.R_below (by (with_reducible repeat (first | apply Kd.R_alloc | apply Kd.R_drewN | apply Kd.R_drew)); exact HO121.out) hb); have n3_ := Aside0.mk (below_step (by repeat (first | (with_reducible first | exact HB.out | apply below_alloc | apply pw_below_drewN | apply below_drew1) | exact HB.out)) hb); clear HO113; clear HO117; clear HO121; clear HB; have HO113 := n0_; have HO117 := n1_; have HO121 := n2_; have HB := n3_; clear n0_ n1_ n2_ n3_; (try clear hb); (try clear hb2); (try clear hk); (try clear hi)))
                        go_ret
                        exact ⟨by first | rfl | (simp [errW_none, errW_some] <;> rfl) | (simp [*, errW_none, errW_some] <;> rfl), by repeat (first | (with_reducible first | exact HB.out | apply below_alloc | apply pw_below_drewN | apply below_drew1) | exact HB.out)⟩
                    · rw [if_neg c13] at H
                      have c13b0 : (t123 == 0) = false := beq_eq_false_iff_ne.mpr c13
                      have c13b1 : (t123 != 0) = true := bne_iff_ne.mpr c13
                      obtain rfl := Option.some.inj H
                      go_enter Try.func22, Try.ntmps22
                      go_wp2_with (first | ((with_reducible refine gate_dst (N := 9) rfl ?_); (try (refine gate_guard (by rfl) ?_; dsimp only)); refine Kd.R_lit k54 _ 54 ?hg (N := 9) ?hd (xs := ([(⟨(⟨#[97]⟩ : ByteArray), 5⟩ : S54)] : List (S54))) (inner := [.string (⟨#[97]⟩ : ByteArray), .int .i64 5]) (ok := fun _ => True) (okp := fun _ => True) ?hr ?hp (fun _ hk => hk) trivial (Below.refl _ _) (Nat.le_refl _) (by simp) ?_; (case hd => rfl); (case hg => rfl); (case hr => first | (go_simp; done) | (go_simp; rfl)); (case hp => exact (Reps.c2 (show Kd.M k54 _ _ _ (⟨(⟨#[97]⟩ : ByteArray), 5⟩ : S54) [.string (⟨#[97]⟩ : ByteArray), .int .i64 5] from (k54_mkM _ _ _ (⟨(⟨#[97]⟩ : ByteArray), 5⟩ : S54) )) (Reps.none _ _))); intro v112 w36 ho37 hb hg_ hnew_; clear hg_ hnew_; (first | rw [← Ny111.out] at ho37 | (simp only [Int.reduceToNat] at ho37; rw [← Ny111.out] at ho37)); have n0_ := Aside0.mk (Kd.R_lower ho37 (below_size (by repeat (first | (with_reducible first | exact HB.out | apply below_alloc | apply pw_below_drewN | apply below_drew1) | exact HB.out)))); have n1_ := Aside0.mk (below_step (by repeat (first | (with_reducible first | exact HB.out | apply below_alloc | apply pw_below_drewN | apply below_drew1) | exact HB.out)) hb); clear HB; have HO113 := n0_; have HB := n1_; clear n0_ n1_; clear hb ho37; obtain ⟨Ao38, co38, eo38⟩ := Kd.R_slice HO113.out; subst eo38) | ((with_reducible refine gate_callee (f := 23) rfl ?_); refine goesL_ (some 10) rfl rfl Try.func23 (by kernel_rfl) rfl #[.slice Ao38 y111.length co38] rfl (by (try simp only [List.map_toArray, List.map_cons, List.map_nil]); first | done | rfl | (simp only [List.length_drop, List.length_take]; rfl)) ?_; (with_reducible refine (leaf_Encode.calls k _ _ y111 t114 t115 _ ?side1 ?side2 A1.out).mono ?_); (case side1 => repeat (first | exact (Kd.R_reads' HO113.out).2.2 | (with_reducible refine Kd.C_alloc ?_ _) | (with_reducible refine Kd.C_drewN ?_ _) | (with_reducible refine Kd.C_drew ?_))); (case side2 => exact (Kd.R_reads' HO113.out).2.1); rintro e w39 ⟨v116, rfl, ho0, hb⟩; refine ⟨_, rfl, ?_⟩; have n0_ := Aside0.mk (Kd.R_below (by (with_reducible repeat (first | apply Kd.R_alloc | apply Kd.R_drewN | apply Kd.R_drew)); exact HO113.out) hb); have n1_ := Aside0.mk (Kd.R_lower ho0 (below_size (by repeat (first | (with_reducible first | exact HB.out | apply below_alloc | apply pw_below_drewN | apply below_drew1) | exact HB.out)))); have n2_ := Aside0.mk (below_step (by repeat (first | (with_reducible first | exact HB.out | apply below_alloc | apply pw_below_drewN | apply below_drew1) | exact HB.out)) hb); clear HO113; clear HB; have HO113 := n0_; have HO117 := n1_; have HB := n2_; clear n0_ n1_ n2_; (try clear hb); (try clear hb2); (try clear hk); (try clear hi); (try clear ho0); obtain ⟨Ao40, co40, eo40⟩ := Kd.R_slice HO117.out; subst eo40) | ((with_reducible refine gate_callee (f := 30) rfl ?_); refine goesL_ (some 15) rfl rfl Try.func30 (by kernel_rfl) rfl #[.slice Ao40 t114.length co40] rfl (by (try simp only [List.map_toArray, List.map_cons, List.map_nil]); first | done | rfl | (simp only [List.length_drop, List.length_take]; rfl)) ?_; (with_reducible refine (leaf_Decode.calls k _ _ t114 t118 t119 _ ?side1 ?side2 A2.out).mono ?_); (case side1 => repeat (first | exact (Kd.R_reads' HO117.out).2.2 | (with_reducible refine Kd.C_alloc ?_ _) | (with_reducible refine Kd.C_drewN ?_ _) | (with_reducible refine Kd.C_drew ?_))); (case side2 => exact (Kd.R_reads' HO117.out).2.1); rintro e w41 ⟨v120, rfl, ho0, hb⟩; refine ⟨_, rfl, ?_⟩; have n0_ := Aside0.mk (Kd.R_elder' (by (with_reducible repeat (first | apply Kd.R_alloc | apply Kd.R_drewN | apply Kd.R_drew)); exact HO113.out) (Kd.R_base ho0) hb); have n1_ := Aside0.mk (Kd.R_below (by (with_reducible repeat (first | apply Kd.R_alloc | apply Kd.R_drewN | apply Kd.R_drew)); exact HO117.out) hb); have n2_ := Aside0.mk (Kd.R_lower (Kd.R_new' ho0 (Kd.R_lt (by (with_reducible repeat (first | apply Kd.R_alloc | apply Kd.R_drewN | apply Kd.R_drew)); exact HO113.out))) (below_size (by repeat (first | (with_reducible first | exact HB.out | apply below_alloc | apply pw_below_drewN | apply below_drew1) | exact HB.out)))); have n3_ := Aside0.mk (below_step (by repeat (first | (with_reducible first | exact HB.out | apply below_alloc | apply pw_below_drewN | apply below_drew1) | exact HB.out)) hb); clear HO113; clear HO117; clear HB; have HO113 := n0_; have HO117 := n1_; have HO121 := n2_; have HB := n3_; clear n0_ n1_ n2_ n3_; (try clear hb); (try clear hb2); (try clear hk); (try clear hi); (try clear ho0); obtain ⟨Ao42, co42, eo42⟩ := Kd.R_slice HO121.out; subst eo42) | ((with_reducible refine gate_callee (f := 25) rfl ?_); refine goesL_ (some 20) rfl rfl Try.func25 (by kernel_rfl) rfl #[.slice Ao42 t118.length co42] rfl (by (try simp only [List.map_toArray, List.map_cons, List.map_nil]); first | done | rfl | (simp only [List.length_drop, List.length_take]; rfl)) ?_; (with_reducible refine (leaf_Size.calls k _ _ t118 t122 t123 _ ?side1 ?side2 A3.out).mono ?_); (case side1 => repeat (first | exact (Kd.R_reads' HO121.out).2.2 | (with_reducible refine Kd.C_alloc ?_ _) | (with_reducible refine Kd.C_drewN ?_ _) | (with_reducible refine Kd.C_drew ?_))); (case side2 => exact (Kd.R_reads' HO121.out).2.1); rintro e w43 ⟨rfl, hb⟩; refine ⟨_, rfl, ?_⟩; have n0_ := Aside0.mk (Kd.R_below (by (with_reducible repeat (first | apply Kd.R_alloc | apply Kd.R_drewN | apply Kd.R_drew)); exact HO113.out) hb); have n1_ := Aside0.mk (Kd.R_below (by (with_reducible repeat (first | apply Kd.R_alloc | apply Kd.R_drewN | apply Kd.R_drew)); exact HO117.out) hb); have n2_ := Aside0.mk (Kd.R_below (by (with_reducible repeat (first | apply Kd.R_alloc | apply Kd.R_drewN | apply Kd.R_drew)); exact HO121.out) hb); have n3_ := Aside0.mk (below_step (by repeat (first | (with_reducible first | exact HB.out | apply below_alloc | apply pw_below_drewN | apply below_drew1) | exact HB.out)) hb); clear HO113; clear HO117; clear HO121; clear HB; have HO113 := n0_; have HO117 := n1_; have HO121 := n2_; have HB := n3_; clear n0_ n1_ n2_ n3_; (try clear hb); (try clear hb2); (try clear hk); (try clear hi); have p124 : 0 ≤ (4 : Int) := (by omega); have q124 : 4 < (t114.length : Int) := of_decide_eq_true (by first | (with_reducible assumption) | assumption); obtain ⟨ad124, e124, hx124_0⟩ := Kd.at_int (Kd.R_reads' HO117.out).2.2 4 p124 q124; cases e124; (try simp only [show (4 : Int).toNat = 4 from rfl, Nat.reduceMul, Nat.reduceEqDiff, Go.Addr.add, ↓reduceIte] at hx124_0); have qi124 : (4 < t114.length) = True := eq_true (by omega); (try rw [show ((4 : Int)).toNat = 4 from rfl] at hx124_0); replace p124 := eq_true p124; replace q124 := eq_true q124; have p125 : 0 ≤ (0 : Int) := (by omega); have q125 : 0 < (t118.length : Int) := of_decide_eq_true (by first | (with_reducible assumption) | assumption); obtain ⟨ad125, e125, hx125_0, hx125_1⟩ := at_T54 (Kd.R_reads' HO121.out).2.2 0 p125 q125; cases e125; have qi125 : (0 < t118.length) = True := eq_true (by omega); (try rw [show ((0 : Int)).toNat = 0 from rfl] at hx125_0); (try rw [show 0 * 2 = 0 from rfl] at hx125_0); (try rw [Addr.add_zero'] at hx125_0); (try rw [show ((0 : Int)).toNat = 0 from rfl] at hx125_1); (try rw [show 0 * 2 = 0 from rfl] at hx125_1); (try rw [Addr.add_zero'] at hx125_1); replace p125 := eq_true p125; replace q125 := eq_true q125))
                      go_ret
                      exact ⟨by first | rfl | (simp [errW_none, errW_some] <;> rfl) | (simp [*, errW_none, errW_some] <;> rfl), by repeat (first | (with_reducible first | exact HB.out | apply below_alloc | apply pw_below_drewN | apply below_drew1) | exact HB.out)⟩
                  · rw [if_neg c12] at H
                    have c12b0 : (t122 == 6) = false := beq_eq_false_iff_ne.mpr c12
                    have c12b1 : (t122 != 6) = true := bne_iff_ne.mpr c12
                    obtain rfl := Option.some.inj H
                    go_enter Try.func22, Try.ntmps22
                    go_wp2_with (first | ((with_reducible refine gate_dst (N := 9) rfl ?_); (try (refine gate_guard (by rfl) ?_; dsimp only)); refine Kd.R_lit k54 _ 54 ?hg (N := 9) ?hd (xs := ([(⟨(⟨#[97]⟩ : ByteArray), 5⟩ : S54)] : List (S54))) (inner := [.string (⟨#[97]⟩ : ByteArray), .int .i64 5]) (ok := fun _ => True) (okp := fun _ => True) ?hr ?hp (fun _ hk => hk) trivial (Below.refl _ _) (Nat.le_refl _) (by simp) ?_; (case hd => rfl); (case hg => rfl); (case hr => first | (go_simp; done) | (go_simp; rfl)); (case hp => exact (Reps.c2 (show Kd.M k54 _ _ _ (⟨(⟨#[97]⟩ : ByteArray), 5⟩ : S54) [.string (⟨#[97]⟩ : ByteArray), .int .i64 5] from (k54_mkM _ _ _ (⟨(⟨#[97]⟩ : ByteArray), 5⟩ : S54) )) (Reps.none _ _))); intro v112 w44 ho45 hb hg_ hnew_; clear hg_ hnew_; (first | rw [← Ny111.out] at ho45 | (simp only [Int.reduceToNat] at ho45; rw [← Ny111.out] at ho45)); have n0_ := Aside0.mk (Kd.R_lower ho45 (below_size (by repeat (first | (with_reducible first | exact HB.out | apply below_alloc | apply pw_below_drewN | apply below_drew1) | exact HB.out)))); have n1_ := Aside0.mk (below_step (by repeat (first | (with_reducible first | exact HB.out | apply below_alloc | apply pw_below_drewN | apply below_drew1) | exact HB.out)) hb); clear HB; have HO113 := n0_; have HB := n1_; clear n0_ n1_; clear hb ho45; obtain ⟨Ao46, co46, eo46⟩ := Kd.R_slice HO113.out; subst eo46) | ((with_reducible refine gate_callee (f := 23) rfl ?_); refine goesL_ (some 10) rfl rfl Try.func23 (by kernel_rfl) rfl #[.slice Ao46 y111.length co46] rfl (by (try simp only [List.map_toArray, List.map_cons, List.map_nil]); first | done | rfl | (simp only [List.length_drop, List.length_take]; rfl)) ?_; (with_reducible refine (leaf_Encode.calls k _ _ y111 t114 t115 _ ?side1 ?side2 A1.out).mono ?_); (case side1 => repeat (first | exact (Kd.R_reads' HO113.out).2.2 | (with_reducible refine Kd.C_alloc ?_ _) | (with_reducible refine Kd.C_drewN ?_ _) | (with_reducible refine Kd.C_drew ?_))); (case side2 => exact (Kd.R_reads' HO113.out).2.1); rintro e w47 ⟨v116, rfl, ho0, hb⟩; refine ⟨_, rfl, ?_⟩; have n0_ := Aside0.mk (Kd.R_below (by (with_reducible repeat (first | apply Kd.R_alloc | apply Kd.R_drewN | apply Kd.R_drew)); exact HO113.out) hb); have n1_ := Aside0.mk (Kd.R_lower ho0 (below_size (by repeat (first | (with_reducible first | exact HB.out | apply below_alloc | apply pw_below_drewN | apply below_drew1) | exact HB.out)))); have n2_ := Aside0.mk (below_step (by repeat (first | (with_reducible first | exact HB.out | apply below_alloc | apply pw_below_drewN | apply below_drew1) | exact HB.out)) hb); clear HO113; clear HB; have HO113 := n0_; have HO117 := n1_; have HB := n2_; clear n0_ n1_ n2_; (try clear hb); (try clear hb2); (try clear hk); (try clear hi); (try clear ho0); obtain ⟨Ao48, co48, eo48⟩ := Kd.R_slice HO117.out; subst eo48) | ((with_reducible refine gate_callee (f := 30) rfl ?_); refine goesL_ (some 15) rfl rfl Try.func30 (by kernel_rfl) rfl #[.slice Ao48 t114.length co48] rfl (by (try simp only [List.map_toArray, List.map_cons, List.map_nil]); first | done | rfl | (simp only [List.length_drop, List.length_take]; rfl)) ?_; (with_reducible refine (leaf_Decode.calls k _ _ t114 t118 t119 _ ?side1 ?side2 A2.out).mono ?_); (case side1 => repeat (first | exact (Kd.R_reads' HO117.out).2.2 | (with_reducible refine Kd.C_alloc ?_ _) | (with_reducible refine Kd.C_drewN ?_ _) | (with_reducible refine Kd.C_drew ?_))); (case side2 => exact (Kd.R_reads' HO117.out).2.1); rintro e w49 ⟨v120, rfl, ho0, hb⟩; refine ⟨_, rfl, ?_⟩; have n0_ := Aside0.mk (Kd.R_elder' (by (with_reducible repeat (first | apply Kd.R_alloc | apply Kd.R_drewN | apply Kd.R_drew)); exact HO113.out) (Kd.R_base ho0) hb); have n1_ := Aside0.mk (Kd.R_below (by (with_reducible repeat (first | apply Kd.R_alloc | apply Kd.R_drewN | apply Kd.R_drew)); exact HO117.out) hb); have n2_ := Aside0.mk (Kd.R_lower (Kd.R_new' ho0 (Kd.R_lt (by (with_reducible repeat (first | apply Kd.R_alloc | apply Kd.R_drewN | apply Kd.R_drew)); exact HO113.out))) (below_size (by repeat (first | (with_reducible first | exact HB.out | apply below_alloc | apply pw_below_drewN | apply below_drew1) | exact HB.out)))); have n3_ := Aside0.mk (below_step (by repeat (first | (with_reducible first | exact HB.out | apply below_alloc | apply pw_below_drewN | apply below_drew1) | exact HB.out)) hb); clear HO113; clear HO117; clear HB; have HO113 := n0_; have HO117 := n1_; have HO121 := n2_; have HB := n3_; clear n0_ n1_ n2_ n3_; (try clear hb); (try clear hb2); (try clear hk); (try clear hi); (try clear ho0); obtain ⟨Ao50, co50, eo50⟩ := Kd.R_slice HO121.out; subst eo50) | ((with_reducible refine gate_callee (f := 25) rfl ?_); refine goesL_ (some 20) rfl rfl Try.func25 (by kernel_rfl) rfl #[.slice Ao50 t118.length co50] rfl (by (try simp only [List.map_toArray, List.map_cons, List.map_nil]); first | done | rfl | (simp only [List.length_drop, List.length_take]; rfl)) ?_; (with_reducible refine (leaf_Size.calls k _ _ t118 t122 t123 _ ?side1 ?side2 A3.out).mono ?_); (case side1 => repeat (first | exact (Kd.R_reads' HO121.out).2.2 | (with_reducible refine Kd.C_alloc ?_ _) | (with_reducible refine Kd.C_drewN ?_ _) | (with_reducible refine Kd.C_drew ?_))); (case side2 => exact (Kd.R_reads' HO121.out).2.1); rintro e w51 ⟨rfl, hb⟩; refine ⟨_, rfl, ?_⟩; have n0_ := Aside0.mk (Kd.R_below (by (with_reducible repeat (first | apply Kd.R_alloc | apply Kd.R_drewN | apply Kd.R_drew)); exact HO113.out) hb); have n1_ := Aside0.mk (Kd.R_below (by (with_reducible repeat (first | apply Kd.R_alloc | apply Kd.R_drewN | apply Kd.R_drew)); exact HO117.out) hb); have n2_ := Aside0.mk (Kd.R_below (by (with_reducible repeat (first | apply Kd.R_alloc | apply Kd.R_drewN | apply Kd.R_drew)); exact HO121.out) hb); have n3_ := Aside0.mk (below_step (by repeat (first | (with_reducible first | exact HB.out | apply below_alloc | apply pw_below_drewN | apply below_drew1) | exact HB.out)) hb); clear HO113; clear HO117; clear HO121; clear HB; have HO113 := n0_; have HO117 := n1_; have HO121 := n2_; have HB := n3_; clear n0_ n1_ n2_ n3_; (try clear hb); (try clear hb2); (try clear hk); (try clear hi); have p124 : 0 ≤ (4 : Int) := (by omega); have q124 : 4 < (t114.length : Int) := of_decide_eq_true (by first | (with_reducible assumption) | assumption); obtain ⟨ad124, e124, hx124_0⟩ := Kd.at_int (Kd.R_reads' HO117.out).2.2 4 p124 q124; cases e124; (try simp only [show (4 : Int).toNat = 4 from rfl, Nat.reduceMul, Nat.reduceEqDiff, Go.Addr.add, ↓reduceIte] at hx124_0); have qi124 : (4 < t114.length) = True := eq_true (by omega); (try rw [show ((4 : Int)).toNat = 4 from rfl] at hx124_0); replace p124 := eq_true p124; replace q124 := eq_true q124; have p125 : 0 ≤ (0 : Int) := (by omega); have q125 : 0 < (t118.length : Int) := of_decide_eq_true (by first | (with_reducible assumption) | assumption); obtain ⟨ad125, e125, hx125_0, hx125_1⟩ := at_T54 (Kd.R_reads' HO121.out).2.2 0 p125 q125; cases e125; have qi125 : (0 < t118.length) = True := eq_true (by omega); (try rw [show ((0 : Int)).toNat = 0 from rfl] at hx125_0); (try rw [show 0 * 2 = 0 from rfl] at hx125_0); (try rw [Addr.add_zero'] at hx125_0); (try rw [show ((0 : Int)).toNat = 0 from rfl] at hx125_1); (try rw [show 0 * 2 = 0 from rfl] at hx125_1); (try rw [Addr.add_zero'] at hx125_1); replace p125 := eq_true p125; replace q125 := eq_true q125))
                    go_ret
                    exact ⟨by first | rfl | (simp [errW_none, errW_some] <;> rfl) | (simp [*, errW_none, errW_some] <;> rfl), by repeat (first | (with_reducible first | exact HB.out | apply below_alloc | apply pw_below_drewN | apply below_drew1) | exact HB.out)⟩
                · rw [if_neg c11] at H
                  have c11b0 : (((rd_T54 t118 0).f0).toList == ([97] : List UInt8)) = false := beq_eq_false_iff_ne.mpr c11
                  have c11b1 : (((rd_T54 t118 0).f0).toList != ([97] : List UInt8)) = true := bne_iff_ne.mpr c11
                  obtain rfl := Option.some.inj H
                  go_enter Try.func22, Try.ntmps22
                  go_wp2_with (first | ((with_reducible refine gate_dst (N := 9) rfl ?_); (try (refine gate_guard (by rfl) ?_; dsimp only)); refine Kd.R_lit k54 _ 54 ?hg (N := 9) ?hd (xs := ([(⟨(⟨#[97]⟩ : ByteArray), 5⟩ : S54)] : List (S54))) (inner := [.string (⟨#[97]⟩ : ByteArray), .int .i64 5]) (ok := fun _ => True) (okp := fun _ => True) ?hr ?hp (fun _ hk => hk) trivial (Below.refl _ _) (Nat.le_refl _) (by simp) ?_; (case hd => rfl); (case hg => rfl); (case hr => first | (go_simp; done) | (go_simp; rfl)); (case hp => exact (Reps.c2 (show Kd.M k54 _ _ _ (⟨(⟨#[97]⟩ : ByteArray), 5⟩ : S54) [.string (⟨#[97]⟩ : ByteArray), .int .i64 5] from (k54_mkM _ _ _ (⟨(⟨#[97]⟩ : ByteArray), 5⟩ : S54) )) (Reps.none _ _))); intro v112 w52 ho53 hb hg_ hnew_; clear hg_ hnew_; (first | rw [← Ny111.out] at ho53 | (simp only [Int.reduceToNat] at ho53; rw [← Ny111.out] at ho53)); have n0_ := Aside0.mk (Kd.R_lower ho53 (below_size (by repeat (first | (with_reducible first | exact HB.out | apply below_alloc | apply pw_below_drewN | apply below_drew1) | exact HB.out)))); have n1_ := Aside0.mk (below_step (by repeat (first | (with_reducible first | exact HB.out | apply below_alloc | apply pw_below_drewN | apply below_drew1) | exact HB.out)) hb); clear HB; have HO113 := n0_; have HB := n1_; clear n0_ n1_; clear hb ho53; obtain ⟨Ao54, co54, eo54⟩ := Kd.R_slice HO113.out; subst eo54) | ((with_reducible refine gate_callee (f := 23) rfl ?_); refine goesL_ (some 10) rfl rfl Try.func23 (by kernel_rfl) rfl #[.slice Ao54 y111.length co54] rfl (by (try simp only [List.map_toArray, List.map_cons, List.map_nil]); first | done | rfl | (simp only [List.length_drop, List.length_take]; rfl)) ?_; (with_reducible refine (leaf_Encode.calls k _ _ y111 t114 t115 _ ?side1 ?side2 A1.out).mono ?_); (case side1 => repeat (first | exact (Kd.R_reads' HO113.out).2.2 | (with_reducible refine Kd.C_alloc ?_ _) | (with_reducible refine Kd.C_drewN ?_ _) | (with_reducible refine Kd.C_drew ?_))); (case side2 => exact (Kd.R_reads' HO113.out).2.1); rintro e w55 ⟨v116, rfl, ho0, hb⟩; refine ⟨_, rfl, ?_⟩; have n0_ := Aside0.mk (Kd.R_below (by (with_reducible repeat (first | apply Kd.R_alloc | apply Kd.R_drewN | apply Kd.R_drew)); exact HO113.out) hb); have n1_ := Aside0.mk (Kd.R_lower ho0 (below_size (by repeat (first | (with_reducible first | exact HB.out | apply below_alloc | apply pw_below_drewN | apply below_drew1) | exact HB.out)))); have n2_ := Aside0.mk (below_step (by repeat (first | (with_reducible first | exact HB.out | apply below_alloc | apply pw_below_drewN | apply below_drew1) | exact HB.out)) hb); clear HO113; clear HB; have HO113 := n0_; have HO117 := n1_; have HB := n2_; clear n0_ n1_ n2_; (try clear hb); (try clear hb2); (try clear hk); (try clear hi); (try clear ho0); obtain ⟨Ao56, co56, eo56⟩ := Kd.R_slice HO117.out; subst eo56) | ((with_reducible refine gate_callee (f := 30) rfl ?_); refine goesL_ (some 15) rfl rfl Try.func30 (by kernel_rfl) rfl #[.slice Ao56 t114.length co56] rfl (by (try simp only [List.map_toArray, List.map_cons, List.map_nil]); first | done | rfl | (simp only [List.length_drop, List.length_take]; rfl)) ?_; (with_reducible refine (leaf_Decode.calls k _ _ t114 t118 t119 _ ?side1 ?side2 A2.out).mono ?_); (case side1 => repeat (first | exact (Kd.R_reads' HO117.out).2.2 | (with_reducible refine Kd.C_alloc ?_ _) | (with_reducible refine Kd.C_drewN ?_ _) | (with_reducible refine Kd.C_drew ?_))); (case side2 => exact (Kd.R_reads' HO117.out).2.1); rintro e w57 ⟨v120, rfl, ho0, hb⟩; refine ⟨_, rfl, ?_⟩; have n0_ := Aside0.mk (Kd.R_elder' (by (with_reducible repeat (first | apply Kd.R_alloc | apply Kd.R_drewN | apply Kd.R_drew)); exact HO113.out) (Kd.R_base ho0) hb); have n1_ := Aside0.mk (Kd.R_below (by (with_reducible repeat (first | apply Kd.R_alloc | apply Kd.R_drewN | apply Kd.R_drew)); exact HO117.out) hb); have n2_ := Aside0.mk (Kd.R_lower (Kd.R_new' ho0 (Kd.R_lt (by (with_reducible repeat (first | apply Kd.R_alloc | apply Kd.R_drewN | apply Kd.R_drew)); exact HO113.out))) (below_size (by repeat (first | (with_reducible first | exact HB.out | apply below_alloc | apply pw_below_drewN | apply below_drew1) | exact HB.out)))); have n3_ := Aside0.mk (below_step (by repeat (first | (with_reducible first | exact HB.out | apply below_alloc | apply pw_below_drewN | apply below_drew1) | exact HB.out)) hb); clear HO113; clear HO117; clear HB; have HO113 := n0_; have HO117 := n1_; have HO121 := n2_; have HB := n3_; clear n0_ n1_ n2_ n3_; (try clear hb); (try clear hb2); (try clear hk); (try clear hi); (try clear ho0); obtain ⟨Ao58, co58, eo58⟩ := Kd.R_slice HO121.out; subst eo58) | ((with_reducible refine gate_callee (f := 25) rfl ?_); refine goesL_ (some 20) rfl rfl Try.func25 (by kernel_rfl) rfl #[.slice Ao58 t118.length co58] rfl (by (try simp only [List.map_toArray, List.map_cons, List.map_nil]); first | done | rfl | (simp only [List.length_drop, List.length_take]; rfl)) ?_; (with_reducible refine (leaf_Size.calls k _ _ t118 t122 t123 _ ?side1 ?side2 A3.out).mono ?_); (case side1 => repeat (first | exact (Kd.R_reads' HO121.out).2.2 | (with_reducible refine Kd.C_alloc ?_ _) | (with_reducible refine Kd.C_drewN ?_ _) | (with_reducible refine Kd.C_drew ?_))); (case side2 => exact (Kd.R_reads' HO121.out).2.1); rintro e w59 ⟨rfl, hb⟩; refine ⟨_, rfl, ?_⟩; have n0_ := Aside0.mk (Kd.R_below (by (with_reducible repeat (first | apply Kd.R_alloc | apply Kd.R_drewN | apply Kd.R_drew)); exact HO113.out) hb); have n1_ := Aside0.mk (Kd.R_below (by (with_reducible repeat (first | apply Kd.R_alloc | apply Kd.R_drewN | apply Kd.R_drew)); exact HO117.out) hb); have n2_ := Aside0.mk (Kd.R_below (by (with_reducible repeat (first | apply Kd.R_alloc | apply Kd.R_drewN | apply Kd.R_drew)); exact HO121.out) hb); have n3_ := Aside0.mk (below_step (by repeat (first | (with_reducible first | exact HB.out | apply below_alloc | apply pw_below_drewN | apply below_drew1) | exact HB.out)) hb); clear HO113; clear HO117; clear HO121; clear HB; have HO113 := n0_; have HO117 := n1_; have HO121 := n2_; have HB := n3_; clear n0_ n1_ n2_ n3_; (try clear hb); (try clear hb2); (try clear hk); (try clear hi); have p124 : 0 ≤ (4 : Int) := (by omega); have q124 : 4 < (t114.length : Int) := of_decide_eq_true (by first | (with_reducible assumption) | assumption); obtain ⟨ad124, e124, hx124_0⟩ := Kd.at_int (Kd.R_reads' HO117.out).2.2 4 p124 q124; cases e124; (try simp only [show (4 : Int).toNat = 4 from rfl, Nat.reduceMul, Nat.reduceEqDiff, Go.Addr.add, ↓reduceIte] at hx124_0); have qi124 : (4 < t114.length) = True := eq_true (by omega); (try rw [show ((4 : Int)).toNat = 4 from rfl] at hx124_0); replace p124 := eq_true p124; replace q124 := eq_true q124; have p125 : 0 ≤ (0 : Int) := (by omega); have q125 : 0 < (t118.length : Int) := of_decide_eq_true (by first | (with_reducible assumption) | assumption); obtain ⟨ad125, e125, hx125_0, hx125_1⟩ := at_T54 (Kd.R_reads' HO121.out).2.2 0 p125 q125; cases e125; have qi125 : (0 < t118.length) = True := eq_true (by omega); (try rw [show ((0 : Int)).toNat = 0 from rfl] at hx125_0); (try rw [show 0 * 2 = 0 from rfl] at hx125_0); (try rw [Addr.add_zero'] at hx125_0); (try rw [show ((0 : Int)).toNat = 0 from rfl] at hx125_1); (try rw [show 0 * 2 = 0 from rfl] at hx125_1); (try rw [Addr.add_zero'] at hx125_1); replace p125 := eq_true p125; replace q125 := eq_true q125))
                  go_ret
                  exact ⟨by first | rfl | (simp [errW_none, errW_some] <;> rfl) | (simp [*, errW_none, errW_some] <;> rfl), by repeat (first | (with_reducible first | exact HB.out | apply below_alloc | apply pw_below_drewN | apply below_drew1) | exact HB.out)⟩
              · rw [if_neg c10] at H
                exact absurd H (by simp)
            · rw [if_neg c9] at H
              have c9b0 : ((t118.length : Int) == 1) = false := beq_eq_false_iff_ne.mpr c9
              have c9b1 : ((t118.length : Int) != 1) = true := bne_iff_ne.mpr c9
              obtain rfl := Option.some.inj H
              go_enter Try.func22, Try.ntmps22
              go_wp2_with (first | ((with_reducible refine gate_dst (N := 9) rfl ?_); (try (refine gate_guard (by rfl) ?_; dsimp only)); refine Kd.R_lit k54 _ 54 ?hg (N := 9) ?hd (xs := ([(⟨(⟨#[97]⟩ : ByteArray), 5⟩ : S54)] : List (S54))) (inner := [.string (⟨#[97]⟩ : ByteArray), .int .i64 5]) (ok := fun _ => True) (okp := fun _ => True) ?hr ?hp (fun _ hk => hk) trivial (Below.refl _ _) (Nat.le_refl _) (by simp) ?_; (case hd => rfl); (case hg => rfl); (case hr => first | (go_simp; done) | (go_simp; rfl)); (case hp => exact (Reps.c2 (show Kd.M k54 _ _ _ (⟨(⟨#[97]⟩ : ByteArray), 5⟩ : S54) [.string (⟨#[97]⟩ : ByteArray), .int .i64 5] from (k54_mkM _ _ _ (⟨(⟨#[97]⟩ : ByteArray), 5⟩ : S54) )) (Reps.none _ _))); intro v112 w60 ho61 hb hg_ hnew_; clear hg_ hnew_; (first | rw [← Ny111.out] at ho61 | (simp only [Int.reduceToNat] at ho61; rw [← Ny111.out] at ho61)); have n0_ := Aside0.mk (Kd.R_lower ho61 (below_size (by repeat (first | (with_reducible first | exact HB.out | apply below_alloc | apply pw_below_drewN | apply below_drew1) | exact HB.out)))); have n1_ := Aside0.mk (below_step (by repeat (first | (with_reducible first | exact HB.out | apply below_alloc | apply pw_below_drewN | apply below_drew1) | exact HB.out)) hb); clear HB; have HO113 := n0_; have HB := n1_; clear n0_ n1_; clear hb ho61; obtain ⟨Ao62, co62, eo62⟩ := Kd.R_slice HO113.out; subst eo62) | ((with_reducible refine gate_callee (f := 23) rfl ?_); refine goesL_ (some 10) rfl rfl Try.func23 (by kernel_rfl) rfl #[.slice Ao62 y111.length co62] rfl (by (try simp only [List.map_toArray, List.map_cons, List.map_nil]); first | done | rfl | (simp only [List.length_drop, List.length_take]; rfl)) ?_; (with_reducible refine (leaf_Encode.calls k _ _ y111 t114 t115 _ ?side1 ?side2 A1.out).mono ?_); (case side1 => repeat (first | exact (Kd.R_reads' HO113.out).2.2 | (with_reducible refine Kd.C_alloc ?_ _) | (with_reducible refine Kd.C_drewN ?_ _) | (with_reducible refine Kd.C_drew ?_))); (case side2 => exact (Kd.R_reads' HO113.out).2.1); rintro e w63 ⟨v116, rfl, ho0, hb⟩; refine ⟨_, rfl, ?_⟩; have n0_ := Aside0.mk (Kd.R_below (by (with_reducible repeat (first | apply Kd.R_alloc | apply Kd.R_drewN | apply Kd.R_drew)); exact HO113.out) hb); have n1_ := Aside0.mk (Kd.R_lower ho0 (below_size (by repeat (first | (with_reducible first | exact HB.out | apply below_alloc | apply pw_below_drewN | apply below_drew1) | exact HB.out)))); have n2_ := Aside0.mk (below_step (by repeat (first | (with_reducible first | exact HB.out | apply below_alloc | apply pw_below_drewN | apply below_drew1) | exact HB.out)) hb); clear HO113; clear HB; have HO113 := n0_; have HO117 := n1_; have HB := n2_; clear n0_ n1_ n2_; (try clear hb); (try clear hb2); (try clear hk); (try clear hi); (try clear ho0); obtain ⟨Ao64, co64, eo64⟩ := Kd.R_slice HO117.out; subst eo64) | ((with_reducible refine gate_callee (f := 30) rfl ?_); refine goesL_ (some 15) rfl rfl Try.func30 (by kernel_rfl) rfl #[.slice Ao64 t114.length co64] rfl (by (try simp only [List.map_toArray, List.map_cons, List.map_nil]); first | done | rfl | (simp only [List.length_drop, List.length_take]; rfl)) ?_; (with_reducible refine (leaf_Decode.calls k _ _ t114 t118 t119 _ ?side1 ?side2 A2.out).mono ?_); (case side1 => repeat (first | exact (Kd.R_reads' HO117.out).2.2 | (with_reducible refine Kd.C_alloc ?_ _) | (with_reducible refine Kd.C_drewN ?_ _) | (with_reducible refine Kd.C_drew ?_))); (case side2 => exact (Kd.R_reads' HO117.out).2.1); rintro e w65 ⟨v120, rfl, ho0, hb⟩; refine ⟨_, rfl, ?_⟩; have n0_ := Aside0.mk (Kd.R_elder' (by (with_reducible repeat (first | apply Kd.R_alloc | apply Kd.R_drewN | apply Kd.R_drew)); exact HO113.out) (Kd.R_base ho0) hb); have n1_ := Aside0.mk (Kd.R_below (by (with_reducible repeat (first | apply Kd.R_alloc | apply Kd.R_drewN | apply Kd.R_drew)); exact HO117.out) hb); have n2_ := Aside0.mk (Kd.R_lower (Kd.R_new' ho0 (Kd.R_lt (by (with_reducible repeat (first | apply Kd.R_alloc | apply Kd.R_drewN | apply Kd.R_drew)); exact HO113.out))) (below_size (by repeat (first | (with_reducible first | exact HB.out | apply below_alloc | apply pw_below_drewN | apply below_drew1) | exact HB.out)))); have n3_ := Aside0.mk (below_step (by repeat (first | (with_reducible first | exact HB.out | apply below_alloc | apply pw_below_drewN | apply below_drew1) | exact HB.out)) hb); clear HO113; clear HO117; clear HB; have HO113 := n0_; have HO117 := n1_; have HO121 := n2_; have HB := n3_; clear n0_ n1_ n2_ n3_; (try clear hb); (try clear hb2); (try clear hk); (try clear hi); (try clear ho0); obtain ⟨Ao66, co66, eo66⟩ := Kd.R_slice HO121.out; subst eo66) | ((with_reducible refine gate_callee (f := 25) rfl ?_); refine goesL_ (some 20) rfl rfl Try.func25 (by kernel_rfl) rfl #[.slice Ao66 t118.length co66] rfl (by (try simp only [List.map_toArray, List.map_cons, List.map_nil]); first | done | rfl | (simp only [List.length_drop, List.length_take]; rfl)) ?_; (with_reducible refine (leaf_Size.calls k _ _ t118 t122 t123 _ ?side1 ?side2 A3.out).mono ?_); (case side1 => repeat (first | exact (Kd.R_reads' HO121.out).2.2 | (with_reducible refine Kd.C_alloc ?_ _) | (with_reducible refine Kd.C_drewN ?_ _) | (with_reducible refine Kd.C_drew ?_))); (case side2 => exact (Kd.R_reads' HO121.out).2.1); rintro e w67 ⟨rfl, hb⟩; refine ⟨_, rfl, ?_⟩; have n0_ := Aside0.mk (Kd.R_below (by (with_reducible repeat (first | apply Kd.R_alloc | apply Kd.R_drewN | apply Kd.R_drew)); exact HO113.out) hb); have n1_ := Aside0.mk (Kd.R_below (by (with_reducible repeat (first | apply Kd.R_alloc | apply Kd.R_drewN | apply Kd.R_drew)); exact HO117.out) hb); have n2_ := Aside0.mk (Kd.R_below (by (with_reducible repeat (first | apply Kd.R_alloc | apply Kd.R_drewN | apply Kd.R_drew)); exact HO121.out) hb); have n3_ := Aside0.mk (below_step (by repeat (first | (with_reducible first | exact HB.out | apply below_alloc | apply pw_below_drewN | apply below_drew1) | exact HB.out)) hb); clear HO113; clear HO117; clear HO121; clear HB; have HO113 := n0_; have HO117 := n1_; have HO121 := n2_; have HB := n3_; clear n0_ n1_ n2_ n3_; (try clear hb); (try clear hb2); (try clear hk); (try clear hi); have p124 : 0 ≤ (4 : Int) := (by omega); have q124 : 4 < (t114.length : Int) := of_decide_eq_true (by first | (with_reducible assumption) | assumption); obtain ⟨ad124, e124, hx124_0⟩ := Kd.at_int (Kd.R_reads' HO117.out).2.2 4 p124 q124; cases e124; (try simp only [show (4 : Int).toNat = 4 from rfl, Nat.reduceMul, Nat.reduceEqDiff, Go.Addr.add, ↓reduceIte] at hx124_0); have qi124 : (4 < t114.length) = True := eq_true (by omega); (try rw [show ((4 : Int)).toNat = 4 from rfl] at hx124_0); replace p124 := eq_true p124; replace q124 := eq_true q124))
              go_ret
              exact ⟨by first | rfl | (simp [errW_none, errW_some] <;> rfl) | (simp [*, errW_none, errW_some] <;> rfl), by repeat (first | (with_reducible first | exact HB.out | apply below_alloc | apply pw_below_drewN | apply below_drew1) | exact HB.out)⟩
          · rw [if_neg c8] at H
            have c8b0 : ((rd t114 4) == 5) = false := beq_eq_false_iff_ne.mpr c8
            have c8b1 : ((rd t114 4) != 5) = true := bne_iff_ne.mpr c8
            obtain rfl := Option.some.inj H
            go_enter Try.func22, Try.ntmps22
            go_wp2_with (first | ((with_reducible refine gate_dst (N := 9) rfl ?_); (try (refine gate_guard (by rfl) ?_; dsimp only)); refine Kd.R_lit k54 _ 54 ?hg (N := 9) ?hd (xs := ([(⟨(⟨#[97]⟩ : ByteArray), 5⟩ : S54)] : List (S54))) (inner := [.string (⟨#[97]⟩ : ByteArray), .int .i64 5]) (ok := fun _ => True) (okp := fun _ => True) ?hr ?hp (fun _ hk => hk) trivial (Below.refl _ _) (Nat.le_refl _) (by simp) ?_; (case hd => rfl); (case hg => rfl); (case hr => first | (go_simp; done) | (go_simp; rfl)); (case hp => exact (Reps.c2 (show Kd.M k54 _ _ _ (⟨(⟨#[97]⟩ : ByteArray), 5⟩ : S54) [.string (⟨#[97]⟩ : ByteArray), .int .i64 5] from (k54_mkM _ _ _ (⟨(⟨#[97]⟩ : ByteArray), 5⟩ : S54) )) (Reps.none _ _))); intro v112 w68 ho69 hb hg_ hnew_; clear hg_ hnew_; (first | rw [← Ny111.out] at ho69 | (simp only [Int.reduceToNat] at ho69; rw [← Ny111.out] at ho69)); have n0_ := Aside0.mk (Kd.R_lower ho69 (below_size (by repeat (first | (with_reducible first | exact HB.out | apply below_alloc | apply pw_below_drewN | apply below_drew1) | exact HB.out)))); have n1_ := Aside0.mk (below_step (by repeat (first | (with_reducible first | exact HB.out | apply below_alloc | apply pw_below_drewN | apply below_drew1) | exact HB.out)) hb); clear HB; have HO113 := n0_; have HB := n1_; clear n0_ n1_; clear hb ho69; obtain ⟨Ao70, co70, eo70⟩ := Kd.R_slice HO113.out; subst eo70) | ((with_reducible refine gate_callee (f := 23) rfl ?_); refine goesL_ (some 10) rfl rfl Try.func23 (by kernel_rfl) rfl #[.slice Ao70 y111.length co70] rfl (by (try simp only [List.map_toArray, List.map_cons, List.map_nil]); first | done | rfl | (simp only [List.length_drop, List.length_take]; rfl)) ?_; (with_reducible refine (leaf_Encode.calls k _ _ y111 t114 t115 _ ?side1 ?side2 A1.out).mono ?_); (case side1 => repeat (first | exact (Kd.R_reads' HO113.out).2.2 | (with_reducible refine Kd.C_alloc ?_ _) | (with_reducible refine Kd.C_drewN ?_ _) | (with_reducible refine Kd.C_drew ?_))); (case side2 => exact (Kd.R_reads' HO113.out).2.1); rintro e w71 ⟨v116, rfl, ho0, hb⟩; refine ⟨_, rfl, ?_⟩; have n0_ := Aside0.mk (Kd.R_below (by (with_reducible repeat (first | apply Kd.R_alloc | apply Kd.R_drewN | apply Kd.R_drew)); exact HO113.out) hb); have n1_ := Aside0.mk (Kd.R_lower ho0 (below_size (by repeat (first | (with_reducible first | exact HB.out | apply below_alloc | apply pw_below_drewN | apply below_drew1) | exact HB.out)))); have n2_ := Aside0.mk (below_step (by repeat (first | (with_reducible first | exact HB.out | apply below_alloc | apply pw_below_drewN | apply below_drew1) | exact HB.out)) hb); clear HO113; clear HB; have HO113 := n0_; have HO117 := n1_; have HB := n2_; clear n0_ n1_ n2_; (try clear hb); (try clear hb2); (try clear hk); (try clear hi); (try clear ho0); obtain ⟨Ao72, co72, eo72⟩ := Kd.R_slice HO117.out; subst eo72) | ((with_reducible refine gate_callee (f := 30) rfl ?_); refine goesL_ (some 15) rfl rfl Try.func30 (by kernel_rfl) rfl #[.slice Ao72 t114.length co72] rfl (by (try simp only [List.map_toArray, List.map_cons, List.map_nil]); first | done | rfl | (simp only [List.length_drop, List.length_take]; rfl)) ?_; (with_reducible refine (leaf_Decode.calls k _ _ t114 t118 t119 _ ?side1 ?side2 A2.out).mono ?_); (case side1 => repeat (first | exact (Kd.R_reads' HO117.out).2.2 | (with_reducible refine Kd.C_alloc ?_ _) | (with_reducible refine Kd.C_drewN ?_ _) | (with_reducible refine Kd.C_drew ?_))); (case side2 => exact (Kd.R_reads' HO117.out).2.1); rintro e w73 ⟨v120, rfl, ho0, hb⟩; refine ⟨_, rfl, ?_⟩; have n0_ := Aside0.mk (Kd.R_elder' (by (with_reducible repeat (first | apply Kd.R_alloc | apply Kd.R_drewN | apply Kd.R_drew)); exact HO113.out) (Kd.R_base ho0) hb); have n1_ := Aside0.mk (Kd.R_below (by (with_reducible repeat (first | apply Kd.R_alloc | apply Kd.R_drewN | apply Kd.R_drew)); exact HO117.out) hb); have n2_ := Aside0.mk (Kd.R_lower (Kd.R_new' ho0 (Kd.R_lt (by (with_reducible repeat (first | apply Kd.R_alloc | apply Kd.R_drewN | apply Kd.R_drew)); exact HO113.out))) (below_size (by repeat (first | (with_reducible first | exact HB.out | apply below_alloc | apply pw_below_drewN | apply below_drew1) | exact HB.out)))); have n3_ := Aside0.mk (below_step (by repeat (first | (with_reducible first | exact HB.out | apply below_alloc | apply pw_below_drewN | apply below_drew1) | exact HB.out)) hb); clear HO113; clear HO117; clear HB; have HO113 := n0_; have HO117 := n1_; have HO121 := n2_; have HB := n3_; clear n0_ n1_ n2_ n3_; (try clear hb); (try clear hb2); (try clear hk); (try clear hi); (try clear ho0); obtain ⟨Ao74, co74, eo74⟩ := Kd.R_slice HO121.out; subst eo74) | ((with_reducible refine gate_callee (f := 25) rfl ?_); refine goesL_ (some 20) rfl rfl Try.func25 (by kernel_rfl) rfl #[.slice Ao74 t118.length co74] rfl (by (try simp only [List.map_toArray, List.map_cons, List.map_nil]); first | done | rfl | (simp only [List.length_drop, List.length_take]; rfl)) ?_; (with_reducible refine (leaf_Size.calls k _ _ t118 t122 t123 _ ?side1 ?side2 A3.out).mono ?_); (case side1 => repeat (first | exact (Kd.R_reads' HO121.out).2.2 | (with_reducible refine Kd.C_alloc ?_ _) | (with_reducible refine Kd.C_drewN ?_ _) | (with_reducible refine Kd.C_drew ?_))); (case side2 => exact (Kd.R_reads' HO121.out).2.1); rintro e w75 ⟨rfl, hb⟩; refine ⟨_, rfl, ?_⟩; have n0_ := Aside0.mk (Kd.R_below (by (with_reducible repeat (first | apply Kd.R_alloc | apply Kd.R_drewN | apply Kd.R_drew)); exact HO113.out) hb); have n1_ := Aside0.mk (Kd.R_below (by (with_reducible repeat (first | apply Kd.R_alloc | apply Kd.R_drewN | apply Kd.R_drew)); exact HO117.out) hb); have n2_ := Aside0.mk (Kd.R_below (by (with_reducible repeat (first | apply Kd.R_alloc | apply Kd.R_drewN | apply Kd.R_drew)); exact HO121.out) hb); have n3_ := Aside0.mk (below_step (by repeat (first | (with_reducible first | exact HB.out | apply below_alloc | apply pw_below_drewN | apply below_drew1) | exact HB.out)) hb); clear HO113; clear HO117; clear HO121; clear HB; have HO113 := n0_; have HO117 := n1_; have HO121 := n2_; have HB := n3_; clear n0_ n1_ n2_ n3_; (try clear hb); (try clear hb2); (try clear hk); (try clear hi); have p124 : 0 ≤ (4 : Int) := (by omega); have q124 : 4 < (t114.length : Int) := of_decide_eq_true (by first | (with_reducible assumption) | assumption); obtain ⟨ad124, e124, hx124_0⟩ := Kd.at_int (Kd.R_reads' HO117.out).2.2 4 p124 q124; cases e124; (try simp only [show (4 : Int).toNat = 4 from rfl, Nat.reduceMul, Nat.reduceEqDiff, Go.Addr.add, ↓reduceIte] at hx124_0); have qi124 : (4 < t114.length) = True := eq_true (by omega); (try rw [show ((4 : Int)).toNat = 4 from rfl] at hx124_0); replace p124 := eq_true p124; replace q124 := eq_true q124))
            go_ret
            exact ⟨by first | rfl | (simp [errW_none, errW_some] <;> rfl) | (simp [*, errW_none, errW_some] <;> rfl), by repeat (first | (with_reducible first | exact HB.out | apply below_alloc | apply pw_below_drewN | apply below_drew1) | exact HB.out)⟩
        · rw [if_neg c7] at H
          exact absurd H (by simp)
      · rw [if_neg c6] at H
        have c6b0 : ((t114.length : Int) == 256) = false := beq_eq_false_iff_ne.mpr c6
        have c6b1 : ((t114.length : Int) != 256) = true := bne_iff_ne.mpr c6
        obtain rfl := Option.some.inj H
        go_enter Try.func22, Try.ntmps22
        go_wp2_with (first | ((with_reducible refine gate_dst (N := 9) rfl ?_); (try (refine gate_guard (by rfl) ?_; dsimp only)); refine Kd.R_lit k54 _ 54 ?hg (N := 9) ?hd (xs := ([(⟨(⟨#[97]⟩ : ByteArray), 5⟩ : S54)] : List (S54))) (inner := [.string (⟨#[97]⟩ : ByteArray), .int .i64 5]) (ok := fun _ => True) (okp := fun _ => True) ?hr ?hp (fun _ hk => hk) trivial (Below.refl _ _) (Nat.le_refl _) (by simp) ?_; (case hd => rfl); (case hg => rfl); (case hr => first | (go_simp; done) | (go_simp; rfl)); (case hp => exact (Reps.c2 (show Kd.M k54 _ _ _ (⟨(⟨#[97]⟩ : ByteArray), 5⟩ : S54) [.string (⟨#[97]⟩ : ByteArray), .int .i64 5] from (k54_mkM _ _ _ (⟨(⟨#[97]⟩ : ByteArray), 5⟩ : S54) )) (Reps.none _ _))); intro v112 w76 ho77 hb hg_ hnew_; clear hg_ hnew_; (first | rw [← Ny111.out] at ho77 | (simp only [Int.reduceToNat] at ho77; rw [← Ny111.out] at ho77)); have n0_ := Aside0.mk (Kd.R_lower ho77 (below_size (by repeat (first | (with_reducible first | exact HB.out | apply below_alloc | apply pw_below_drewN | apply below_drew1) | exact HB.out)))); have n1_ := Aside0.mk (below_step (by repeat (first | (with_reducible first | exact HB.out | apply below_alloc | apply pw_below_drewN | apply below_drew1) | exact HB.out)) hb); clear HB; have HO113 := n0_; have HB := n1_; clear n0_ n1_; clear hb ho77; obtain ⟨Ao78, co78, eo78⟩ := Kd.R_slice HO113.out; subst eo78) | ((with_reducible refine gate_callee (f := 23) rfl ?_); refine goesL_ (some 10) rfl rfl Try.func23 (by kernel_rfl) rfl #[.slice Ao78 y111.length co78] rfl (by (try simp only [List.map_toArray, List.map_cons, List.map_nil]); first | done | rfl | (simp only [List.length_drop, List.length_take]; rfl)) ?_; (with_reducible refine (leaf_Encode.calls k _ _ y111 t114 t115 _ ?side1 ?side2 A1.out).mono ?_); (case side1 => repeat (first | exact (Kd.R_reads' HO113.out).2.2 | (with_reducible refine Kd.C_alloc ?_ _) | (with_reducible refine Kd.C_drewN ?_ _) | (with_reducible refine Kd.C_drew ?_))); (case side2 => exact (Kd.R_reads' HO113.out).2.1); rintro e w79 ⟨v116, rfl, ho0, hb⟩; refine ⟨_, rfl, ?_⟩; have n0_ := Aside0.mk (Kd.R_below (by (with_reducible repeat (first | apply Kd.R_alloc | apply Kd.R_drewN | apply Kd.R_drew)); exact HO113.out) hb); have n1_ := Aside0.mk (Kd.R_lower ho0 (below_size (by repeat (first | (with_reducible first | exact HB.out | apply below_alloc | apply pw_below_drewN | apply below_drew1) | exact HB.out)))); have n2_ := Aside0.mk (below_step (by repeat (first | (with_reducible first | exact HB.out | apply below_alloc | apply pw_below_drewN | apply below_drew1) | exact HB.out)) hb); clear HO113; clear HB; have HO113 := n0_; have HO117 := n1_; have HB := n2_; clear n0_ n1_ n2_; (try clear hb); (try clear hb2); (try clear hk); (try clear hi); (try clear ho0); obtain ⟨Ao80, co80, eo80⟩ := Kd.R_slice HO117.out; subst eo80) | ((with_reducible refine gate_callee (f := 30) rfl ?_); refine goesL_ (some 15) rfl rfl Try.func30 (by kernel_rfl) rfl #[.slice Ao80 t114.length co80] rfl (by (try simp only [List.map_toArray, List.map_cons, List.map_nil]); first | done | rfl | (simp only [List.length_drop, List.length_take]; rfl)) ?_; (with_reducible refine (leaf_Decode.calls k _ _ t114 t118 t119 _ ?side1 ?side2 A2.out).mono ?_); (case side1 => repeat (first | exact (Kd.R_reads' HO117.out).2.2 | (with_reducible refine Kd.C_alloc ?_ _) | (with_reducible refine Kd.C_drewN ?_ _) | (with_reducible refine Kd.C_drew ?_))); (case side2 => exact (Kd.R_reads' HO117.out).2.1); rintro e w81 ⟨v120, rfl, ho0, hb⟩; refine ⟨_, rfl, ?_⟩; have n0_ := Aside0.mk (Kd.R_elder' (by (with_reducible repeat (first | apply Kd.R_alloc | apply Kd.R_drewN | apply Kd.R_drew)); exact HO113.out) (Kd.R_base ho0) hb); have n1_ := Aside0.mk (Kd.R_below (by (with_reducible repeat (first | apply Kd.R_alloc | apply Kd.R_drewN | apply Kd.R_drew)); exact HO117.out) hb); have n2_ := Aside0.mk (Kd.R_lower (Kd.R_new' ho0 (Kd.R_lt (by (with_reducible repeat (first | apply Kd.R_alloc | apply Kd.R_drewN | apply Kd.R_drew)); exact HO113.out))) (below_size (by repeat (first | (with_reducible first | exact HB.out | apply below_alloc | apply pw_below_drewN | apply below_drew1) | exact HB.out)))); have n3_ := Aside0.mk (below_step (by repeat (first | (with_reducible first | exact HB.out | apply below_alloc | apply pw_below_drewN | apply below_drew1) | exact HB.out)) hb); clear HO113; clear HO117; clear HB; have HO113 := n0_; have HO117 := n1_; have HO121 := n2_; have HB := n3_; clear n0_ n1_ n2_ n3_; (try clear hb); (try clear hb2); (try clear hk); (try clear hi); (try clear ho0); obtain ⟨Ao82, co82, eo82⟩ := Kd.R_slice HO121.out; subst eo82) | ((with_reducible refine gate_callee (f := 25) rfl ?_); refine goesL_ (some 20) rfl rfl Try.func25 (by kernel_rfl) rfl #[.slice Ao82 t118.length co82] rfl (by (try simp only [List.map_toArray, List.map_cons, List.map_nil]); first | done | rfl | (simp only [List.length_drop, List.length_take]; rfl)) ?_; (with_reducible refine (leaf_Size.calls k _ _ t118 t122 t123 _ ?side1 ?side2 A3.out).mono ?_); (case side1 => repeat (first | exact (Kd.R_reads' HO121.out).2.2 | (with_reducible refine Kd.C_alloc ?_ _) | (with_reducible refine Kd.C_drewN ?_ _) | (with_reducible refine Kd.C_drew ?_))); (case side2 => exact (Kd.R_reads' HO121.out).2.1); rintro e w83 ⟨rfl, hb⟩; refine ⟨_, rfl, ?_⟩; have n0_ := Aside0.mk (Kd.R_below (by (with_reducible repeat (first | apply Kd.R_alloc | apply Kd.R_drewN | apply Kd.R_drew)); exact HO113.out) hb); have n1_ := Aside0.mk (Kd.R_below (by (with_reducible repeat (first | apply Kd.R_alloc | apply Kd.R_drewN | apply Kd.R_drew)); exact HO117.out) hb); have n2_ := Aside0.mk (Kd.R_below (by (with_reducible repeat (first | apply Kd.R_alloc | apply Kd.R_drewN | apply Kd.R_drew)); exact HO121.out) hb); have n3_ := Aside0.mk (below_step (by repeat (first | (with_reducible first | exact HB.out | apply below_alloc | apply pw_below_drewN | apply below_drew1) | exact HB.out)) hb); clear HO113; clear HO117; clear HO121; clear HB; have HO113 := n0_; have HO117 := n1_; have HO121 := n2_; have HB := n3_; clear n0_ n1_ n2_ n3_; (try clear hb); (try clear hb2); (try clear hk); (try clear hi)))
        go_ret
        exact ⟨by first | rfl | (simp [errW_none, errW_some] <;> rfl) | (simp [*, errW_none, errW_some] <;> rfl), by repeat (first | (with_reducible first | exact HB.out | apply below_alloc | apply pw_below_drewN | apply below_drew1) | exact HB.out)⟩
    · rw [if_neg c5] at H
      have c5b0 : (t119 == 0) = false := beq_eq_false_iff_ne.mpr c5
      have c5b1 : (t119 != 0) = true := bne_iff_ne.mpr c5
      obtain rfl := Option.some.inj H
      go_enter Try.func22, Try.ntmps22
      go_wp2_with (first | ((with_reducible refine gate_dst (N := 9) rfl ?_); (try (refine gate_guard (by rfl) ?_; dsimp only)); refine Kd.R_lit k54 _ 54 ?hg (N := 9) ?hd (xs := ([(⟨(⟨#[97]⟩ : ByteArray), 5⟩ : S54)] : List (S54))) (inner := [.string (⟨#[97]⟩ : ByteArray), .int .i64 5]) (ok := fun _ => True) (okp := fun _ => True) ?hr ?hp (fun _ hk => hk) trivial (Below.refl _ _) (Nat.le_refl _) (by simp) ?_; (case hd => rfl); (case hg => rfl); (case hr => first | (go_simp; done) | (go_simp; rfl)); (case hp => exact (Reps.c2 (show Kd.M k54 _ _ _ (⟨(⟨#[97]⟩ : ByteArray), 5⟩ : S54) [.string (⟨#[97]⟩ : ByteArray), .int .i64 5] from (k54_mkM _ _ _ (⟨(⟨#[97]⟩ : ByteArray), 5⟩ : S54) )) (Reps.none _ _))); intro v112 w84 ho85 hb hg_ hnew_; clear hg_ hnew_; (first | rw [← Ny111.out] at ho85 | (simp only [Int.reduceToNat] at ho85; rw [← Ny111.out] at ho85)); have n0_ := Aside0.mk (Kd.R_lower ho85 (below_size (by repeat (first | (with_reducible first | exact HB.out | apply below_alloc | apply pw_below_drewN | apply below_drew1) | exact HB.out)))); have n1_ := Aside0.mk (below_step (by repeat (first | (with_reducible first | exact HB.out | apply below_alloc | apply pw_below_drewN | apply below_drew1) | exact HB.out)) hb); clear HB; have HO113 := n0_; have HB := n1_; clear n0_ n1_; clear hb ho85; obtain ⟨Ao86, co86, eo86⟩ := Kd.R_slice HO113.out; subst eo86) | ((with_reducible refine gate_callee (f := 23) rfl ?_); refine goesL_ (some 10) rfl rfl Try.func23 (by kernel_rfl) rfl #[.slice Ao86 y111.length co86] rfl (by (try simp only [List.map_toArray, List.map_cons, List.map_nil]); first | done | rfl | (simp only [List.length_drop, List.length_take]; rfl)) ?_; (with_reducible refine (leaf_Encode.calls k _ _ y111 t114 t115 _ ?side1 ?side2 A1.out).mono ?_); (case side1 => repeat (first | exact (Kd.R_reads' HO113.out).2.2 | (with_reducible refine Kd.C_alloc ?_ _) | (with_reducible refine Kd.C_drewN ?_ _) | (with_reducible refine Kd.C_drew ?_))); (case side2 => exact (Kd.R_reads' HO113.out).2.1); rintro e w87 ⟨v116, rfl, ho0, hb⟩; refine ⟨_, rfl, ?_⟩; have n0_ := Aside0.mk (Kd.R_below (by (with_reducible repeat (first | apply Kd.R_alloc | apply Kd.R_drewN | apply Kd.R_drew)); exact HO113.out) hb); have n1_ := Aside0.mk (Kd.R_lower ho0 (below_size (by repeat (first | (with_reducible first | exact HB.out | apply below_alloc | apply pw_below_drewN | apply below_drew1) | exact HB.out)))); have n2_ := Aside0.mk (below_step (by repeat (first | (with_reducible first | exact HB.out | apply below_alloc | apply pw_below_drewN | apply below_drew1) | exact HB.out)) hb); clear HO113; clear HB; have HO113 := n0_; have HO117 := n1_; have HB := n2_; clear n0_ n1_ n2_; (try clear hb); (try clear hb2); (try clear hk); (try clear hi); (try clear ho0); obtain ⟨Ao88, co88, eo88⟩ := Kd.R_slice HO117.out; subst eo88) | ((with_reducible refine gate_callee (f := 30) rfl ?_); refine goesL_ (some 15) rfl rfl Try.func30 (by kernel_rfl) rfl #[.slice Ao88 t114.length co88] rfl (by (try simp only [List.map_toArray, List.map_cons, List.map_nil]); first | done | rfl | (simp only [List.length_drop, List.length_take]; rfl)) ?_; (with_reducible refine (leaf_Decode.calls k _ _ t114 t118 t119 _ ?side1 ?side2 A2.out).mono ?_); (case side1 => repeat (first | exact (Kd.R_reads' HO117.out).2.2 | (with_reducible refine Kd.C_alloc ?_ _) | (with_reducible refine Kd.C_drewN ?_ _) | (with_reducible refine Kd.C_drew ?_))); (case side2 => exact (Kd.R_reads' HO117.out).2.1); rintro e w89 ⟨v120, rfl, ho0, hb⟩; refine ⟨_, rfl, ?_⟩; have n0_ := Aside0.mk (Kd.R_elder' (by (with_reducible repeat (first | apply Kd.R_alloc | apply Kd.R_drewN | apply Kd.R_drew)); exact HO113.out) (Kd.R_base ho0) hb); have n1_ := Aside0.mk (Kd.R_below (by (with_reducible repeat (first | apply Kd.R_alloc | apply Kd.R_drewN | apply Kd.R_drew)); exact HO117.out) hb); have n2_ := Aside0.mk (Kd.R_lower (Kd.R_new' ho0 (Kd.R_lt (by (with_reducible repeat (first | apply Kd.R_alloc | apply Kd.R_drewN | apply Kd.R_drew)); exact HO113.out))) (below_size (by repeat (first | (with_reducible first | exact HB.out | apply below_alloc | apply pw_below_drewN | apply below_drew1) | exact HB.out)))); have n3_ := Aside0.mk (below_step (by repeat (first | (with_reducible first | exact HB.out | apply below_alloc | apply pw_below_drewN | apply below_drew1) | exact HB.out)) hb); clear HO113; clear HO117; clear HB; have HO113 := n0_; have HO117 := n1_; have HO121 := n2_; have HB := n3_; clear n0_ n1_ n2_ n3_; (try clear hb); (try clear hb2); (try clear hk); (try clear hi); (try clear ho0); obtain ⟨Ao90, co90, eo90⟩ := Kd.R_slice HO121.out; subst eo90) | ((with_reducible refine gate_callee (f := 25) rfl ?_); refine goesL_ (some 20) rfl rfl Try.func25 (by kernel_rfl) rfl #[.slice Ao90 t118.length co90] rfl (by (try simp only [List.map_toArray, List.map_cons, List.map_nil]); first | done | rfl | (simp only [List.length_drop, List.length_take]; rfl)) ?_; (with_reducible refine (leaf_Size.calls k _ _ t118 t122 t123 _ ?side1 ?side2 A3.out).mono ?_); (case side1 => repeat (first | exact (Kd.R_reads' HO121.out).2.2 | (with_reducible refine Kd.C_alloc ?_ _) | (with_reducible refine Kd.C_drewN ?_ _) | (with_reducible refine Kd.C_drew ?_))); (case side2 => exact (Kd.R_reads' HO121.out).2.1); rintro e w91 ⟨rfl, hb⟩; refine ⟨_, rfl, ?_⟩; have n0_ := Aside0.mk (Kd.R_below (by (with_reducible repeat (first | apply Kd.R_alloc | apply Kd.R_drewN | apply Kd.R_drew)); exact HO113.out) hb); have n1_ := Aside0.mk (Kd.R_below (by (with_reducible repeat (first | apply Kd.R_alloc | apply Kd.R_drewN | apply Kd.R_drew)); exact HO117.out) hb); have n2_ := Aside0.mk (Kd.R_below (by (with_reducible repeat (first | apply Kd.R_alloc | apply Kd.R_drewN | apply Kd.R_drew)); exact HO121.out) hb); have n3_ := Aside0.mk (below_step (by repeat (first | (with_reducible first | exact HB.out | apply below_alloc | apply pw_below_drewN | apply below_drew1) | exact HB.out)) hb); clear HO113; clear HO117; clear HO121; clear HB; have HO113 := n0_; have HO117 := n1_; have HO121 := n2_; have HB := n3_; clear n0_ n1_ n2_ n3_; (try clear hb); (try clear hb2); (try clear hk); (try clear hi)))
      go_ret
      exact ⟨by first | rfl | (simp [errW_none, errW_some] <;> rfl) | (simp [*, errW_none, errW_some] <;> rfl), by repeat (first | (with_reducible first | exact HB.out | apply below_alloc | apply pw_below_drewN | apply below_drew1) | exact HB.out)⟩
  · rw [if_neg c4] at H
    have c4b0 : (t115 == 0) = false := beq_eq_false_iff_ne.mpr c4
    have c4b1 : (t115 != 0) = true := bne_iff_ne.mpr c4
    obtain rfl := Option.some.inj H
    go_enter Try.func22, Try.ntmps22
    go_wp2_with (first | ((with_reducible refine gate_dst (N := 9) rfl ?_); (try (refine gate_guard (by rfl) ?_; dsimp only)); refine Kd.R_lit k54 _ 54 ?hg (N := 9) ?hd (xs := ([(⟨(⟨#[97]⟩ : ByteArray), 5⟩ : S54)] : List (S54))) (inner := [.string (⟨#[97]⟩ : ByteArray), .int .i64 5]) (ok := fun _ => True) (okp := fun _ => True) ?hr ?hp (fun _ hk => hk) trivial (Below.refl _ _) (Nat.le_refl _) (by simp) ?_; (case hd => rfl); (case hg => rfl); (case hr => first | (go_simp; done) | (go_simp; rfl)); (case hp => exact (Reps.c2 (show Kd.M k54 _ _ _ (⟨(⟨#[97]⟩ : ByteArray), 5⟩ : S54) [.string (⟨#[97]⟩ : ByteArray), .int .i64 5] from (k54_mkM _ _ _ (⟨(⟨#[97]⟩ : ByteArray), 5⟩ : S54) )) (Reps.none _ _))); intro v112 w92 ho93 hb hg_ hnew_; clear hg_ hnew_; (first | rw [← Ny111.out] at ho93 | (simp only [Int.reduceToNat] at ho93; rw [← Ny111.out] at ho93)); have n0_ := Aside0.mk (Kd.R_lower ho93 (below_size (by repeat (first | (with_reducible first | exact HB.out | apply below_alloc | apply pw_below_drewN | apply below_drew1) | exact HB.out)))); have n1_ := Aside0.mk (below_step (by repeat (first | (with_reducible first | exact HB.out | apply below_alloc | apply pw_below_drewN | apply below_drew1) | exact HB.out)) hb); clear HB; have HO113 := n0_; have HB := n1_; clear n0_ n1_; clear hb ho93; obtain ⟨Ao94, co94, eo94⟩ := Kd.R_slice HO113.out; subst eo94) | ((with_reducible refine gate_callee (f := 23) rfl ?_); refine goesL_ (some 10) rfl rfl Try.func23 (by kernel_rfl) rfl #[.slice Ao94 y111.length co94] rfl (by (try simp only [List.map_toArray, List.map_cons, List.map_nil]); first | done | rfl | (simp only [List.length_drop, List.length_take]; rfl)) ?_; (with_reducible refine (leaf_Encode.calls k _ _ y111 t114 t115 _ ?side1 ?side2 A1.out).mono ?_); (case side1 => repeat (first | exact (Kd.R_reads' HO113.out).2.2 | (with_reducible refine Kd.C_alloc ?_ _) | (with_reducible refine Kd.C_drewN ?_ _) | (with_reducible refine Kd.C_drew ?_))); (case side2 => exact (Kd.R_reads' HO113.out).2.1); rintro e w95 ⟨v116, rfl, ho0, hb⟩; refine ⟨_, rfl, ?_⟩; have n0_ := Aside0.mk (Kd.R_below (by (with_reducible repeat (first | apply Kd.R_alloc | apply Kd.R_drewN | apply Kd.R_drew)); exact HO113.out) hb); have n1_ := Aside0.mk (Kd.R_lower ho0 (below_size (by repeat (first | (with_reducible first | exact HB.out | apply below_alloc | apply pw_below_drewN | apply below_drew1) | exact HB.out)))); have n2_ := Aside0.mk (below_step (by repeat (first | (with_reducible first | exact HB.out | apply below_alloc | apply pw_below_drewN | apply below_drew1) | exact HB.out)) hb); clear HO113; clear HB; have HO113 := n0_; have HO117 := n1_; have HB := n2_; clear n0_ n1_ n2_; (try clear hb); (try clear hb2); (try clear hk); (try clear hi); (try clear ho0); obtain ⟨Ao96, co96, eo96⟩ := Kd.R_slice HO117.out; subst eo96) | ((with_reducible refine gate_callee (f := 30) rfl ?_); refine goesL_ (some 15) rfl rfl Try.func30 (by kernel_rfl) rfl #[.slice Ao96 t114.length co96] rfl (by (try simp only [List.map_toArray, List.map_cons, List.map_nil]); first | done | rfl | (simp only [List.length_drop, List.length_take]; rfl)) ?_; (with_reducible refine (leaf_Decode.calls k _ _ t114 t118 t119 _ ?side1 ?side2 A2.out).mono ?_); (case side1 => repeat (first | exact (Kd.R_reads' HO117.out).2.2 | (with_reducible refine Kd.C_alloc ?_ _) | (with_reducible refine Kd.C_drewN ?_ _) | (with_reducible refine Kd.C_drew ?_))); (case side2 => exact (Kd.R_reads' HO117.out).2.1); rintro e w97 ⟨v120, rfl, ho0, hb⟩; refine ⟨_, rfl, ?_⟩; have n0_ := Aside0.mk (Kd.R_elder' (by (with_reducible repeat (first | apply Kd.R_alloc | apply Kd.R_drewN | apply Kd.R_drew)); exact HO113.out) (Kd.R_base ho0) hb); have n1_ := Aside0.mk (Kd.R_below (by (with_reducible repeat (first | apply Kd.R_alloc | apply Kd.R_drewN | apply Kd.R_drew)); exact HO117.out) hb); have n2_ := Aside0.mk (Kd.R_lower (Kd.R_new' ho0 (Kd.R_lt (by (with_reducible repeat (first | apply Kd.R_alloc | apply Kd.R_drewN | apply Kd.R_drew)); exact HO113.out))) (below_size (by repeat (first | (with_reducible first | exact HB.out | apply below_alloc | apply pw_below_drewN | apply below_drew1) | exact HB.out)))); have n3_ := Aside0.mk (below_step (by repeat (first | (with_reducible first | exact HB.out | apply below_alloc | apply pw_below_drewN | apply below_drew1) | exact HB.out)) hb); clear HO113; clear HO117; clear HB; have HO113 := n0_; have HO117 := n1_; have HO121 := n2_; have HB := n3_; clear n0_ n1_ n2_ n3_; (try clear hb); (try clear hb2); (try clear hk); (try clear hi); (try clear ho0); obtain ⟨Ao98, co98, eo98⟩ := Kd.R_slice HO121.out; subst eo98) | ((with_reducible refine gate_callee (f := 25) rfl ?_); refine goesL_ (some 20) rfl rfl Try.func25 (by kernel_rfl) rfl #[.slice Ao98 t118.length co98] rfl (by (try simp only [List.map_toArray, List.map_cons, List.map_nil]); first | done | rfl | (simp only [List.length_drop, List.length_take]; rfl)) ?_; (with_reducible refine (leaf_Size.calls k _ _ t118 t122 t123 _ ?side1 ?side2 A3.out).mono ?_); (case side1 => repeat (first | exact (Kd.R_reads' HO121.out).2.2 | (with_reducible refine Kd.C_alloc ?_ _) | (with_reducible refine Kd.C_drewN ?_ _) | (with_reducible refine Kd.C_drew ?_))); (case side2 => exact (Kd.R_reads' HO121.out).2.1); rintro e w99 ⟨rfl, hb⟩; refine ⟨_, rfl, ?_⟩; have n0_ := Aside0.mk (Kd.R_below (by (with_reducible repeat (first | apply Kd.R_alloc | apply Kd.R_drewN | apply Kd.R_drew)); exact HO113.out) hb); have n1_ := Aside0.mk (Kd.R_below (by (with_reducible repeat (first | apply Kd.R_alloc | apply Kd.R_drewN | apply Kd.R_drew)); exact HO117.out) hb); have n2_ := Aside0.mk (Kd.R_below (by (with_reducible repeat (first | apply Kd.R_alloc | apply Kd.R_drewN | apply Kd.R_drew)); exact HO121.out) hb); have n3_ := Aside0.mk (below_step (by repeat (first | (with_reducible first | exact HB.out | apply below_alloc | apply pw_below_drewN | apply below_drew1) | exact HB.out)) hb); clear HO113; clear HO117; clear HO121; clear HB; have HO113 := n0_; have HO117 := n1_; have HO121 := n2_; have HB := n3_; clear n0_ n1_ n2_ n3_; (try clear hb); (try clear hb2); (try clear hk); (try clear hi)))
    go_ret
    exact ⟨by first | rfl | (simp [errW_none, errW_some] <;> rfl) | (simp [*, errW_none, errW_some] <;> rfl), by repeat (first | (with_reducible first | exact HB.out | apply below_alloc | apply pw_below_drewN | apply below_drew1) | exact HB.out)⟩
end Go.Proofs.Ytffaggckhneakaa.Pr
end
section
namespace Go.Proofs.Ytffaggckhneakaa.Lf
open Go.RowKit Go.Proofs.YtffaggckhneakaaW.PrintWords Go.Proofs.YtffaggckhneakaaW.PrintMore Go.Proofs.Ytffaggckhneakaa.Pr Go.Proofs.Ytffaggckhneakaa.Od Go.Proofs.Ytffaggckhneakaa.Cr
set_option linter.unusedVariables false
set_option linter.unusedSimpArgs false
def Fits (l : List E) : Prop := l.length ≤ 5864062014634
theorem o54 : Op.Opens Try.prog 41 (Kd.slice 54 k54) Fits :=
  Op.opens_imp (Op.opens_slice Try.underlying41 (by kernel_rfl) (B := 24) (by kernel_rfl)
    (Op.opens_iso (T := fun _ : E => True) (fun x => ⟨x.1, x.2⟩) (fun _ => rfl) (fun _ _ => trivial)
      (Op.opens_struct Try.underlying54 (by kernel_rfl) (Op.opensAt_cons rfl (by kernel_rfl) (Op.opens_string Try.underlying9) (Op.opensAt_last rfl (by kernel_rfl) (Op.opens_int Try.underlying3))))))
    (fun l h => by unfold Fits; omega)
def one : List E := [⟨⟨#[97]⟩, 5⟩]
theorem one_ok : (encR one).2 = 0 := alive_list
theorem one_bytes : (encR one).1 = encP one ++ bytesN 4 (sumB (encP one)).toNat := by
  have hi := encR_iff.1 one_ok
  unfold encR; rw [if_pos hi.1, if_neg (by omega)]
theorem one_four : rd (encR one).1 4 = 5 := by
  rw [one_bytes]; rfl
theorem alive_ev : Ev (fun k => undercroftlaw11_alive.f k) true := by
  unfold undercroftlaw11_alive.f
  refine Ev.bind (enc_ev one (by decide)) ?_
  refine Ev.bind (dec_ev _ (encR_byte _)) ?_
  rw [dec_enc one_ok]
  refine Ev.bind (size_ev one (by decide)) ?_
  have e1 : sizeR one = (6, 0) := by unfold sizeR; rw [if_pos (encR_iff.1 one_ok).1]; rfl
  have e2 : (encR one).1.length = 256 := encR_len one_ok
  have e3 : rd_T54 one 0 = ⟨⟨#[97]⟩, 5⟩ := rfl
  have e4 : (⟨#[97]⟩ : ByteArray).toList = ([97] : List UInt8) := by rw [Lib.toList_data]
  have e5 : mayB ⟨#[97]⟩ = true := by decide
  have e6 : mayB ⟨#[46, 46]⟩ = false := by decide
  simp only [one_ok, e1, e2, e3, e4, one_four, if_true, may_some, e5, e6, Option.bind_some, Bool.not_false, show ((256 : Nat) : Int) = 256 from rfl, if_pos (show (4 : Int) < 256 by decide), show ((one.length : Nat) : Int) = 1 from rfl, if_pos (show (0 : Int) < 1 by decide)]
  exact Ev.now _
end Go.Proofs.Ytffaggckhneakaa.Lf
end
section
namespace Go.Proofs.Ytffaggckhneakaa.Cr
open Go.RowKit Go.Proofs.YtffaggckhneakaaW.PrintWords Go.Proofs.YtffaggckhneakaaW.PrintMore Go.Proofs.Ytffaggckhneakaa.Pr Go.Proofs.Ytffaggckhneakaa.Od
set_option linter.unusedVariables false
set_option linter.unusedSimpArgs false
def turnB (b : List Int) (j : Nat) : List Int := b.set (j / 8) (Go.bits .xor .u8 (rd b ((j / 8 : Nat) : Int)) (shl .u8 1 ((j % 8 : Nat) : Int)))
theorem xor8 (n m : Nat) (hn : n < 256) (hm : m < 8) : Go.bits .xor .u8 (n : Int) (shl .u8 1 (m : Int)) = ((n ^^^ 2 ^ m : Nat) : Int) ∧ n ^^^ 2 ^ m < 256 := by
  have h2 : 2 ^ m < 2 ^ 8 := Nat.pow_lt_pow_right (by decide) hm
  have hx : n ^^^ 2 ^ m < 2 ^ 8 := Nat.xor_lt_two_pow hn h2
  have es : shl .u8 1 (m : Int) = ((2 ^ m : Nat) : Int) := by
    unfold shl
    rw [u8w, show min (m : Int).toNat IntKind.u8.bits = m by (show min _ 8 = _); omega, Int.one_mul, show ((2 : Int) ^ m) = ((2 ^ m : Nat) : Int) by push_cast; rfl]
    exact Int.emod_eq_of_lt (Int.natCast_nonneg _) (Int.ofNat_lt.2 h2)
  refine ⟨?_, hx⟩
  rw [es]
  unfold Go.bits
  rw [u8w]
  show (((BitVec.ofInt 8 (n : Int) ^^^ BitVec.ofInt 8 ((2 ^ m : Nat) : Int)).toNat : Nat) : Int) % 256 = _
  rw [BitVec.toNat_xor, BitVec.toNat_ofInt, BitVec.toNat_ofInt]
  rw [show (((n : Nat) : Int) % ((2 ^ 8 : Nat) : Int)).toNat = n by omega, show ((((2 ^ m : Nat) : Nat) : Int) % ((2 ^ 8 : Nat) : Int)).toNat = 2 ^ m by rw [Int.emod_eq_of_lt (Int.natCast_nonneg _) (Int.ofNat_lt.2 h2), Int.toNat_natCast]]
  omega
theorem of_xor (n m : Nat) (hm : m < 8) : BitVec.ofInt 32 ((n ^^^ 2 ^ m : Nat) : Int) = BitVec.ofInt 32 (n : Int) ^^^ (1#32 <<< m) := by
  have e : BitVec.ofNat 32 (2 ^ m) = 1#32 <<< m := by
    apply BitVec.eq_of_toNat_eq
    rw [BitVec.toNat_shiftLeft, BitVec.toNat_ofNat, BitVec.toNat_ofNat, Nat.shiftLeft_eq]
    simp
  rw [ofInt_nat, ofInt_nat, ← e]
  apply BitVec.eq_of_getLsbD_eq
  intro i hi
  simp only [BitVec.getLsbD_ofNat, BitVec.getLsbD_xor, Nat.testBit_xor, hi, decide_true, Bool.true_and]
theorem turn_len (b : List Int) (j : Nat) : (turnB b j).length = b.length := by rw [turnB, List.length_set]
theorem turn_byte {b : List Int} (hb : ∀ x ∈ b, isByte x) {j : Nat} (hj : j / 8 < b.length) : ∀ x ∈ turnB b j, isByte x := by
  intro x hx
  rcases List.mem_or_eq_of_mem_set hx with h | rfl
  · exact hb x h
  · have h1 := hb _ (List.getElem_mem hj)
    unfold isByte at h1 ⊢
    rw [rd_get hj, show b[j / 8] = ((b[j / 8].toNat : Nat) : Int) by omega]
    obtain ⟨e, h2⟩ := xor8 b[j / 8].toNat (j % 8) (by omega) (Nat.mod_lt _ (by decide))
    rw [e]; omega
theorem turn_reg {b : List Int} (hb : ∀ x ∈ b, isByte x) (w : B32) {j : Nat} (hj : j / 8 < b.length) : regB w (turnB b j) = regB w b ^^^ Tn (8 * b.length - j) 1#32 := by
  have h1 := hb _ (List.getElem_mem hj)
  unfold isByte at h1
  have hm : j % 8 < 8 := Nat.mod_lt _ (by decide)
  have := regB_turn w b (j / 8) (j % 8) hj hm (Go.bits .xor .u8 (rd b ((j / 8 : Nat) : Int)) (shl .u8 1 ((j % 8 : Nat) : Int))) (by
    rw [rd_get hj]
    have e0 : b[j / 8] = ((b[j / 8].toNat : Nat) : Int) := by omega
    rw [e0, (xor8 b[j / 8].toNat (j % 8) (by omega) hm).1, of_xor _ _ hm, ← e0])
  rw [turnB, this, show 8 * (j / 8) + j % 8 = j by omega]
def Inv (b : List Int) (first i : Nat) (b' : List Int) (t : Bool) : Prop :=
  b'.length = 256 ∧ (∀ x ∈ b', isByte x) ∧ ∃ wd : B32, (∀ q, i ≤ q → wd.getLsbD q = false) ∧ regB (BitVec.allOnes 32) b' = regB (BitVec.allOnes 32) b ^^^ Tn (2048 - first) wd ∧ (t = true → wd ≠ 0#32) ∧ (t = false → b' = b)
theorem inv_start {b : List Int} (hl : b.length = 256) (hb : ∀ x ∈ b, isByte x) (first : Nat) : Inv b first 0 b false :=
  ⟨hl, hb, 0#32, fun _ _ => by simp, by rw [Tn_zero, BitVec.xor_zero], (fun h => by cases h), fun _ => rfl⟩
theorem inv_skip {b b' : List Int} {first i : Nat} {t : Bool} (h : Inv b first i b' t) : Inv b first (i + 1) b' t := by
  obtain ⟨h1, h2, wd, h3, h4⟩ := h
  exact ⟨h1, h2, wd, fun q hq => h3 q (by omega), h4⟩
theorem inv_turn {b b' : List Int} {first i : Nat} {t : Bool} (h : Inv b first i b' t) (hi : i < 32) (hf : first + i < 2048) : Inv b first (i + 1) (turnB b' (first + i)) true := by
  obtain ⟨h1, h2, wd, h3, h4, h5, h6⟩ := h
  have hj : (first + i) / 8 < b'.length := by omega
  refine ⟨by rw [turn_len, h1], turn_byte h2 hj, wd ^^^ (1#32 <<< i), fun q hq => ?_, ?_, fun _ he => ?_, (fun h => by cases h)⟩
  · rw [BitVec.getLsbD_xor, h3 q (by omega), BitVec.getLsbD_shiftLeft]
    have : ¬ (q - i = 0) := by omega
    simp [this]
  · rw [turn_reg h2 _ hj, h4, h1, Tn_xor, Tn_bit hi (by omega), BitVec.xor_assoc, show 8 * 256 - (first + i) = 2048 - first - i by omega]
  · have := congrArg (·.getLsbD i) he
    simp only [BitVec.getLsbD_xor, h3 i (Nat.le_refl _), BitVec.getLsbD_shiftLeft, BitVec.getLsbD_zero] at this
    simp [hi] at this
theorem inv_end {b b' : List Int} {first i : Nat} {t : Bool} (h : Inv b first i b' t) : (t = true → regB (BitVec.allOnes 32) b' ≠ regB (BitVec.allOnes 32) b) ∧ (t = false → b' = b) := by
  obtain ⟨h1, h2, wd, h3, h4, h5, h6⟩ := h
  refine ⟨fun ht he => h5 ht ?_, h6⟩
  rw [h4] at he
  have e : Tn (2048 - first) wd = 0#32 := by
    have := congrArg (regB (BitVec.allOnes 32) b ^^^ ·) he
    simp only [← BitVec.xor_assoc, BitVec.xor_self, BitVec.zero_xor] at this
    exact this
  exact Tn_eq_zero _ e
theorem place {first i : Nat} (hf : first < 2048) (hi : i < 32) : wrap64 ((first : Int) + (i : Int)) = ((first + i : Nat) : Int) ∧ wrap64 (Int.tdiv ((first + i : Nat) : Int) 8) = (((first + i) / 8 : Nat) : Int) ∧ Int.tmod ((first + i : Nat) : Int) 8 = (((first + i) % 8 : Nat) : Int) := by
  have h1 : Int.tdiv ((first + i : Nat) : Int) 8 = (((first + i) / 8 : Nat) : Int) := by
    rw [Int.tdiv_eq_ediv_of_nonneg (by omega)]; omega
  refine ⟨by rw [w64 (by omega) (by omega)]; omega, by rw [h1, w64 (by omega) (by omega)], ?_⟩
  rw [Int.tmod_eq_emod_of_nonneg (by omega)]; omega
end Go.Proofs.Ytffaggckhneakaa.Cr
end
section
namespace Go.Proofs.Ytffaggckhneakaa.Pr
open Go.RowKit Go.Proofs.YtffaggckhneakaaW.PrintWords Go.Proofs.YtffaggckhneakaaW.PrintLast Go.Proofs.YtffaggckhneakaaW.PrintMore
attribute [local go_sem] max2_int min2_int max_two min_two max_three min_three max_four min_four
attribute [local go_sem] Go.Proofs.Ytffaggckhneakaa.Hl.str_geq Go.Proofs.Ytffaggckhneakaa.Hl.str_gtr Go.Proofs.Ytffaggckhneakaa.Hl.str_leq
set_option linter.unusedVariables false
set_option linter.unusedSimpArgs false
theorem eqA54 (d : Nat) (w : World) (x0 y0 : ByteArray) (x1 y1 : Int) :
    (Op.equalIn (d + 2) 54 (.agg #[.string x0, .int .i64 x1]) (.agg #[.string y0, .int .i64 y1])).run Try.prog w = .ok (x0.toList == y0.toList && (x1 == y1)) w := by
  refine eqA_of Try.underlying54 (by kernel_rfl) ?_
  refine eqf_cons (by rfl) (by go_simp; rfl) (by go_simp; rfl) (by go_simp) ?_
  exact eqf_last (by rfl) (by go_simp; rfl) (by go_simp; rfl) (by go_simp)
end Go.Proofs.Ytffaggckhneakaa.Pr
end
section
namespace Go.Proofs.Ytffaggckhneakaa.Pr
open Go.RowKit Go.Proofs.YtffaggckhneakaaW.PrintWords Go.Proofs.YtffaggckhneakaaW.PrintLast Go.Proofs.YtffaggckhneakaaW.PrintMore
attribute [local go_sem] max2_int min2_int max_two min_two max_three min_three max_four min_four
attribute [local go_sem] Go.Proofs.Ytffaggckhneakaa.Hl.str_geq Go.Proofs.Ytffaggckhneakaa.Hl.str_gtr Go.Proofs.Ytffaggckhneakaa.Hl.str_leq
set_option linter.unusedVariables false
set_option linter.unusedSimpArgs false
attribute [local go_sem high] eqA54
def undercroftref11_Same.l0 : Nat → List (S54) → List (S54) → Int → Option (Bool)
  | 0, _, _, _ => none
  | k + 1, x0, x1, x5 => if x5 < (x0.length : Int) then (if 0 ≤ x5 then (if x5 < (x1.length : Int) then (if (!((((rd_T54 x0 x5).f0).toList) == (((rd_T54 x1 x5).f0).toList)) || (!(((rd_T54 x0 x5).f1) == ((rd_T54 x1 x5).f1)))) = true then (some false) else (undercroftref11_Same.l0 k x0 x1 (wrap64 (x5 + 1)))) else (none)) else (none)) else (some true)
def undercroftref11_Same.f (k : Nat) (l0 : List (S54)) (l1 : List (S54)) : Option (Bool) := if (l0.length : Int) = (l1.length : Int) then (undercroftref11_Same.l0 k l0 l1 0) else (some false)
set_option maxHeartbeats 8000000 in
set_option maxRecDepth 100000 in
theorem undercroftref11_Same.calls (k : Nat) (A0 : Option Addr) (c0 : Nat) (l0 : List (S54)) (A1 : Option Addr) (c1 : Nat) (l1 : List (S54)) (r : Bool) (w : World) (hr0 : Kd.C k54 w A0 l0.length l0) (hc0 : l0.length ≤ c0) (hr1 : Kd.C k54 w A1 l1.length l1) (hc1 : l1.length ≤ c1) (h : undercroftref11_Same.f k l0 l1 = some r) :
    Calls Try.prog 29 #[.slice A0 l0.length c0, .slice A1 l1.length c1] w fun e w' => e = .returned (.bool r) ∧ Drawn0 w w' := by
  have hu54 := Try.underlying54
  have HR0 := Aside0.mk hr0
  have HC0 := Aside0.mk hc0
  clear hr0 hc0
  have HR1 := Aside0.mk hr1
  have HC1 := Aside0.mk hc1
  clear hr1 hc1
  have H : (if (l0.length : Int) = (l1.length : Int) then (undercroftref11_Same.l0 k l0 l1 0) else (some false)) = some r := h
  clear h
  by_cases c3 : (l0.length : Int) = (l1.length : Int)
  · rw [if_pos c3] at H
    have c3b0 : ((l0.length : Int) == (l1.length : Int)) = true := beq_iff_eq.mpr c3
    have c3b1 : ((l0.length : Int) != (l1.length : Int)) = false := bne_eq_false_iff_eq.mpr c3
    have c3b2 : (l0.length == l1.length) = true := by first | simpa using c3 | (simp at c3 ⊢; omega)
    clear c3
    have H' := Aside0.mk H
    clear H
    go_enter Try.func29, Try.ntmps29
    go_wp2
    repeat (go_quiet (fail); try go_wp2)
    go_loopg [5] k (fun kq v5 w' => ∃ (x5_1 : Int), v5 = .int .i64 x5_1 ∧ Aside0 (undercroftref11_Same.l0 kq l0 l1 x5_1 = some r) ∧ Aside0 (kq ≤ k) ∧ Drawn0 w w')
    case atStart => exact ⟨(0), (by first | rfl | (simp; done) | (simp [*]; done)), H', ⟨Nat.le_refl _⟩, by repeat (first | exact Drawn0.refl _ | apply Drawn0.step)⟩
    case round =>
      clear H'
      try clear c1
      try clear c2
      try clear p2
      try clear c3
      try clear c3b0
      try clear c3b1
      try clear c3b2
      obtain ⟨x5_1, rfl, HA, HK1, ⟨m1, rfl⟩⟩ := hrel
      cases gk with
      | zero => exact absurd HA.out (by intro h_; cases h_)
      | succ k1 =>
        have H := HA.out
        clear HA
        simp only [undercroftref11_Same.l0] at H
        by_cases c4 : x5_1 < (l0.length : Int)
        · rw [if_pos c4] at H
          have c4b0 : decide (x5_1 < (l0.length : Int)) = true := decide_eq_true c4
          clear c4
          by_cases c5 : 0 ≤ x5_1
          · rw [if_pos c5] at H
            have c5b0 : decide (0 ≤ x5_1) = true := decide_eq_true c5
            clear c5
            by_cases c6 : x5_1 < (l1.length : Int)
            · rw [if_pos c6] at H
              have c6b0 : decide (x5_1 < (l1.length : Int)) = true := decide_eq_true c6
              clear c6
              by_cases c7 : (!((((rd_T54 l0 x5_1).f0).toList) == (((rd_T54 l1 x5_1).f0).toList)) || (!(((rd_T54 l0 x5_1).f1) == ((rd_T54 l1 x5_1).f1)))) = true
              · rw [if_pos c7] at H
                have c7b0 : (!((((rd_T54 l0 x5_1).f0).toList) == (((rd_T54 l1 x5_1).f0).toList)) || (!(((rd_T54 l0 x5_1).f1) == ((rd_T54 l1 x5_1).f1)))) = true := c7
                clear c7
                obtain rfl := Option.some.inj H
                have p179 : 0 ≤ (x5_1 : Int) := of_decide_eq_true (by first | (with_reducible assumption) | assumption)
                have q179 : x5_1 < (l0.length : Int) := of_decide_eq_true (by first | (with_reducible assumption) | assumption)
                obtain ⟨ad179, e179, hx179_0, hx179_1⟩ := at_T54 HR0.out x5_1 p179 q179
                cases e179
                replace p179 := eq_true p179
                replace q179 := eq_true q179
                have p180 : 0 ≤ (x5_1 : Int) := of_decide_eq_true (by first | (with_reducible assumption) | assumption)
                have q180 : x5_1 < (l1.length : Int) := of_decide_eq_true (by first | (with_reducible assumption) | assumption)
                obtain ⟨ad180, e180, hx180_0, hx180_1⟩ := at_T54 HR1.out x5_1 p180 q180
                cases e180
                replace p180 := eq_true p180
                replace q180 := eq_true q180
                go_wp2
                repeat (go_quiet (fail); try go_wp2)
                go_ret
                exact ⟨by first | rfl | (simp; done) | (simp [*]; done), by repeat (first | exact Drawn0.refl _ | apply Drawn0.step)⟩
              · rw [if_neg c7] at H
                have c7b0 : (!((((rd_T54 l0 x5_1).f0).toList) == (((rd_T54 l1 x5_1).f0).toList)) || (!(((rd_T54 l0 x5_1).f1) == ((rd_T54 l1 x5_1).f1)))) = false := by simpa using c7
                clear c7
                have H' := Aside0.mk H
                clear H
                have p179 : 0 ≤ (x5_1 : Int) := of_decide_eq_true (by first | (with_reducible assumption) | assumption)
                have q179 : x5_1 < (l0.length : Int) := of_decide_eq_true (by first | (with_reducible assumption) | assumption)
                obtain ⟨ad179, e179, hx179_0, hx179_1⟩ := at_T54 HR0.out x5_1 p179 q179
                cases e179
                replace p179 := eq_true p179
                replace q179 := eq_true q179
                have p180 : 0 ≤ (x5_1 : Int) := of_decide_eq_true (by first | (with_reducible assumption) | assumption)
                have q180 : x5_1 < (l1.length : Int) := of_decide_eq_true (by first | (with_reducible assumption) | assumption)
                obtain ⟨ad180, e180, hx180_0, hx180_1⟩ := at_T54 HR1.out x5_1 p180 q180
                cases e180
                replace p180 := eq_true p180
                replace q180 := eq_true q180
                go_wp2
                repeat (go_quiet (fail); try go_wp2)
                go_roundg k1
                case measure => have := HK1.out; omega
                case rel => exact ⟨(wrap64 (x5_1 + 1)), (by first | rfl | (simp; done) | (simp [*]; done)), H', ⟨by have := HK1.out; omega⟩, by repeat (first | exact Drawn0.refl _ | apply Drawn0.step)⟩
            · rw [if_neg c6] at H
              exact absurd H (by simp)
          · rw [if_neg c5] at H
            exact absurd H (by simp)
        · rw [if_neg c4] at H
          have c4b0 : decide (x5_1 < (l0.length : Int)) = false := decide_eq_false c4
          clear c4
          obtain rfl := Option.some.inj H
          go_wp2
          repeat (go_quiet (fail); try go_wp2)
          go_ret
          exact ⟨by first | rfl | (simp; done) | (simp [*]; done), by repeat (first | exact Drawn0.refl _ | apply Drawn0.step)⟩
  · rw [if_neg c3] at H
    have c3b0 : ((l0.length : Int) == (l1.length : Int)) = false := beq_eq_false_iff_ne.mpr c3
    have c3b1 : ((l0.length : Int) != (l1.length : Int)) = true := bne_iff_ne.mpr c3
    have c3b2 : (l0.length == l1.length) = false := by first | simpa using c3 | (simp at c3 ⊢; omega)
    obtain rfl := Option.some.inj H
    go_enter Try.func29, Try.ntmps29
    go_wp2
    repeat (go_quiet (fail); try go_wp2)
    go_ret
    exact ⟨by first | rfl | (simp; done) | (simp [*]; done), by repeat (first | exact Drawn0.refl _ | apply Drawn0.step)⟩
end Go.Proofs.Ytffaggckhneakaa.Pr
end
section
namespace Go.Proofs.Ytffaggckhneakaa.Pr
open Go.RowKit Go.Proofs.YtffaggckhneakaaW.PrintWords Go.Proofs.YtffaggckhneakaaW.PrintLast Go.Proofs.YtffaggckhneakaaW.PrintMore
attribute [local go_sem] max2_int min2_int max_two min_two max_three min_three max_four min_four
attribute [local go_sem] Go.Proofs.Ytffaggckhneakaa.Hl.str_geq Go.Proofs.Ytffaggckhneakaa.Hl.str_gtr Go.Proofs.Ytffaggckhneakaa.Hl.str_leq
set_option linter.unusedVariables false
set_option linter.unusedSimpArgs false
mutual
def undercroftlaw11_LeafBack.j0 : Nat → Int → Int → List Int → Bool → Option (Bool)
  | 0, _, _, _, _ => none
  | k + 1, x1, x2, x7, x44 => if x44 = true then (some false) else (undercroftlaw11_LeafBack.l0 k x2 x7 (wrap64 (Int.tmod (IntKind.u64.wrap (x1)) 2048)) false 0)
def undercroftlaw11_LeafBack.l0 : Nat → Int → List Int → Int → Bool → Int → Option (Bool)
  | 0, _, _, _, _, _ => none
  | k + 1, x2, x7, x11, x12, x13 => if x13 < 32 then (if 0 ≤ x13 then (if (Go.bits .and .u32 (shr .u32 x2 x13) 1) = 1 then (if (wrap64 (x11 + x13)) < 2048 then (if 0 ≤ (wrap64 (Int.tdiv (wrap64 (x11 + x13)) 8)) then (if (wrap64 (Int.tdiv (wrap64 (x11 + x13)) 8)) < (x7.length : Int) then (if 0 ≤ (Int.tmod (wrap64 (x11 + x13)) 8) then (undercroftlaw11_LeafBack.l0 k x2 (x7.set ((wrap64 (Int.tdiv (wrap64 (x11 + x13)) 8)) : Int).toNat (Go.bits .xor .u8 (rd x7 (wrap64 (Int.tdiv (wrap64 (x11 + x13)) 8))) (shl .u8 1 (Int.tmod (wrap64 (x11 + x13)) 8)))) x11 true (wrap64 (x13 + 1))) else (none)) else (none)) else (none)) else (undercroftlaw11_LeafBack.l0 k x2 x7 x11 x12 (wrap64 (x13 + 1)))) else (undercroftlaw11_LeafBack.l0 k x2 x7 x11 x12 (wrap64 (x13 + 1)))) else (none)) else ((leaf_Decode.f k x7).bind fun bt249 => (some ((bt249.2 == 13) == x12)))
end
def undercroftlaw11_LeafBack.f (k : Nat) (l0 : List (S54)) (a1 : Int) (a2 : Int) : Option (Bool) := (undercroftlaw11_alive.f k).bind fun t237 => (if t237 = true then ((leaf_Encode.f k l0).bind fun bt238 => (if bt238.2 = 0 then ((leaf_Decode.f k bt238.1).bind fun bt242 => (if bt242.2 = 0 then ((undercroftref11_Same.f k l0 bt242.1).bind fun t246 => (if t246 = true then (undercroftlaw11_LeafBack.j0 k a1 a2 bt238.1 ((bt238.1.length : Int) != 256)) else (undercroftlaw11_LeafBack.j0 k a1 a2 bt238.1 true))) else (undercroftlaw11_LeafBack.j0 k a1 a2 bt238.1 true))) else (some ((bt238.1.length : Int) == 0)))) else (some false))
def undercroftlaw11_LeafBack.T16 : Bool × List (List Nat × List Nat) := (true, [([], []), ([], []), ([1], [1]), ([0, 2], [0, 2]), ([3], [3]), ([], []), ([5], [5]), ([6], [6]), ([4, 7], [4, 7]), ([0, 2, 0, 1, 2, 3, 4, 5, 6, 7, 8], [0, 2]), ([9, 8, 0, 1, 2, 3, 4, 5, 6, 7, 8], [8, 9])])
def undercroftlaw11_LeafBack.B16 : List Nat := [0, 0, 2, 7, 15, 0, 32, 96, 255, 511, 1023]
theorem undercroftlaw11_LeafBack.tab16 : rtab .any (opsOf Try.f8 16) = undercroftlaw11_LeafBack.T16 := by kernel_rfl
theorem undercroftlaw11_LeafBack.bits16 : waitsOk undercroftlaw11_LeafBack.T16.2 undercroftlaw11_LeafBack.B16 = true := by kernel_rfl
set_option maxHeartbeats 8000000 in
set_option maxRecDepth 100000 in
theorem undercroftlaw11_LeafBack.calls (k : Nat) (A0 : Option Addr) (c0 : Nat) (l0 : List (S54)) (a1 : Int) (a2 : Int) (r : Bool) (w : World) (hr0 : Kd.C k54 w A0 l0.length l0) (hc0 : l0.length ≤ c0) (h : undercroftlaw11_LeafBack.f k l0 a1 a2 = some r) :
    Calls Try.prog 8 #[.slice A0 l0.length c0, .int .i64 a1, .int .u32 a2] w fun e w' => e = .returned (.bool r) ∧ Below w.heap.size w w' := by
  have HR0 := Aside0.mk hr0
  have HC0 := Aside0.mk hc0
  clear hr0 hc0
  have HB := Aside0.mk (Below.refl w.heap.size w)
  have H : ((undercroftlaw11_alive.f k).bind fun t237 => (if t237 = true then ((leaf_Encode.f k l0).bind fun bt238 => (if bt238.2 = 0 then ((leaf_Decode.f k bt238.1).bind fun bt242 => (if bt242.2 = 0 then ((undercroftref11_Same.f k l0 bt242.1).bind fun t246 => (if t246 = true then (undercroftlaw11_LeafBack.j0 k a1 a2 bt238.1 ((bt238.1.length : Int) != 256)) else (undercroftlaw11_LeafBack.j0 k a1 a2 bt238.1 true))) else (undercroftlaw11_LeafBack.j0 k a1 a2 bt238.1 true))) else (some ((bt238.1.length : Int) == 0)))) else (some false))) = some r := h
  clear h
  replace H := Option.bind_eq_some_iff.mp H
  obtain ⟨t237, A40, H⟩ := H
  replace H : (if t237 = true then ((leaf_Encode.f k l0).bind fun bt238 => (if bt238.2 = 0 then ((leaf_Decode.f k bt238.1).bind fun bt242 => (if bt242.2 = 0 then ((undercroftref11_Same.f k l0 bt242.1).bind fun t246 => (if t246 = true then (undercroftlaw11_LeafBack.j0 k a1 a2 bt238.1 ((bt238.1.length : Int) != 256)) else (undercroftlaw11_LeafBack.j0 k a1 a2 bt238.1 true))) else (undercroftlaw11_LeafBack.j0 k a1 a2 bt238.1 true))) else (some ((bt238.1.length : Int) == 0)))) else (some false)) = some r := H
  have A4 := Aside0.mk A40
  clear A40
  by_cases c5 : t237 = true
  · subst c5
    have H1 : ((leaf_Encode.f k l0).bind fun bt238 => (if bt238.2 = 0 then ((leaf_Decode.f k bt238.1).bind fun bt242 => (if bt242.2 = 0 then ((undercroftref11_Same.f k l0 bt242.1).bind fun t246 => (if t246 = true then (undercroftlaw11_LeafBack.j0 k a1 a2 bt238.1 ((bt238.1.length : Int) != 256)) else (undercroftlaw11_LeafBack.j0 k a1 a2 bt238.1 true))) else (undercroftlaw11_LeafBack.j0 k a1 a2 bt238.1 true))) else (some ((bt238.1.length : Int) == 0)))) = some r := by rw [if_pos rfl] at H; exact H
    clear H
    have H := H1
    clear H1
    replace H := Option.bind_eq_some_iff.mp H
    obtain ⟨⟨t238, t239⟩, A60, H⟩ := H
    replace H : (if t239 = 0 then ((leaf_Decode.f k t238).bind fun bt242 => (if bt242.2 = 0 then ((undercroftref11_Same.f k l0 bt242.1).bind fun t246 => (if t246 = true then (undercroftlaw11_LeafBack.j0 k a1 a2 t238 ((t238.length : Int) != 256)) else (undercroftlaw11_LeafBack.j0 k a1 a2 t238 true))) else (undercroftlaw11_LeafBack.j0 k a1 a2 t238 true))) else (some ((t238.length : Int) == 0))) = some r := H
    have A6 := Aside0.mk A60
    clear A60
    by_cases c7 : t239 = 0
    · rw [if_pos c7] at H
      have c7b0 : (t239 == 0) = true := beq_iff_eq.mpr c7
      have c7b1 : (t239 != 0) = false := bne_eq_false_iff_eq.mpr c7
      clear c7
      replace H := Option.bind_eq_some_iff.mp H
      obtain ⟨⟨t242, t243⟩, A80, H⟩ := H
      replace H : (if t243 = 0 then ((undercroftref11_Same.f k l0 t242).bind fun t246 => (if t246 = true then (undercroftlaw11_LeafBack.j0 k a1 a2 t238 ((t238.length : Int) != 256)) else (undercroftlaw11_LeafBack.j0 k a1 a2 t238 true))) else (undercroftlaw11_LeafBack.j0 k a1 a2 t238 true)) = some r := H
      have A8 := Aside0.mk A80
      clear A80
      have HC9 := Aside0.mk H
      clear H
      go_enter Try.func8, Try.ntmps8
      go_upto_region 7 with (first | ((with_reducible refine gate_callee (f := 22) rfl ?_); refine goesL_ (some 15) rfl rfl Try.func22 (by kernel_rfl) rfl #[] rfl (by (try simp only [List.map_toArray, List.map_cons, List.map_nil]); first | done | rfl | (simp only [List.length_drop, List.length_take]; rfl)) ?_; (with_reducible refine (undercroftlaw11_alive.calls k  true _ A4.out).mono ?_); rintro e w10 ⟨rfl, hb⟩; refine ⟨_, rfl, ?_⟩; have n0_ := Aside0.mk (below_step (by repeat (first | (with_reducible first | exact HB.out | apply below_alloc | apply pw_below_drewN | apply below_drew1) | exact HB.out)) hb); clear HB; have HB := n0_; clear n0_; (try clear hb); (try clear hb2); (try clear hk); (try clear hi)) | ((with_reducible refine gate_callee (f := 23) rfl ?_); refine goesL_ (some 19) rfl rfl Try.func23 (by kernel_rfl) rfl #[.slice A0 l0.length c0] rfl (by (try simp only [List.map_toArray, List.map_cons, List.map_nil]); first | done | rfl | (simp only [List.length_drop, List.length_take]; rfl)) ?_; (with_reducible refine (leaf_Encode.calls k _ _ l0 t238 t239 _ ?side1 ?side2 A6.out).mono ?_); (case side1 => repeat (first | exact (Kd.C_below HR0.out HB.out) | (with_reducible refine Kd.C_alloc ?_ _) | (with_reducible refine Kd.C_drewN ?_ _) | (with_reducible refine Kd.C_drew ?_))); (case side2 => exact HC0.out); rintro e w11 ⟨v240, rfl, ho0, hb⟩; refine ⟨_, rfl, ?_⟩; have n0_ := Aside0.mk (Kd.R_lower ho0 (below_size (by repeat (first | (with_reducible first | exact HB.out | apply below_alloc | apply pw_below_drewN | apply below_drew1) | exact HB.out)))); have n1_ := Aside0.mk (below_step (by repeat (first | (with_reducible first | exact HB.out | apply below_alloc | apply pw_below_drewN | apply below_drew1) | exact HB.out)) hb); clear HB; have HO241 := n0_; have HB := n1_; clear n0_ n1_; (try clear hb); (try clear hb2); (try clear hk); (try clear hi); (try clear ho0); obtain ⟨Ao12, co12, eo12⟩ := Kd.R_slice HO241.out; subst eo12) | ((with_reducible refine gate_callee (f := 30) rfl ?_); refine goesL_ (some 29) rfl rfl Try.func30 (by kernel_rfl) rfl #[.slice Ao12 t238.length co12] rfl (by (try simp only [List.map_toArray, List.map_cons, List.map_nil]); first | done | rfl | (simp only [List.length_drop, List.length_take]; rfl)) ?_; (with_reducible refine (leaf_Decode.calls k _ _ t238 t242 t243 _ ?side1 ?side2 A8.out).mono ?_); (case side1 => repeat (first | exact (Kd.R_reads' HO241.out).2.2 | (with_reducible refine Kd.C_alloc ?_ _) | (with_reducible refine Kd.C_drewN ?_ _) | (with_reducible refine Kd.C_drew ?_))); (case side2 => exact (Kd.R_reads' HO241.out).2.1); rintro e w13 ⟨v244, rfl, ho0, hb⟩; refine ⟨_, rfl, ?_⟩; have n0_ := Aside0.mk (Kd.R_below (by (with_reducible repeat (first | apply Kd.R_alloc | apply Kd.R_drewN | apply Kd.R_drew)); exact HO241.out) hb); have n1_ := Aside0.mk (Kd.R_lower ho0 (below_size (by repeat (first | (with_reducible first | exact HB.out | apply below_alloc | apply pw_below_drewN | apply below_drew1) | exact HB.out)))); have n2_ := Aside0.mk (below_step (by repeat (first | (with_reducible first | exact HB.out | apply below_alloc | apply pw_below_drewN | apply below_drew1) | exact HB.out)) hb); clear HO241; clear HB; have HO241 := n0_; have HO245 := n1_; have HB := n2_; clear n0_ n1_ n2_; (try clear hb); (try clear hb2); (try clear hk); (try clear hi); (try clear ho0)))
      (try simp only [Act.put, List.setIfInBounds_toArray, List.set_cons_zero, List.set_cons_succ])
      go_cut [44] (fun v44 wc => ∃ (kq : Nat) (x44_8 : Bool), v44 = .bool x44_8 ∧ Aside0 (undercroftlaw11_LeafBack.j0 kq a1 a2 t238 x44_8 = some r) ∧ Aside0 (kq ≤ k) ∧ Aside0 (Kd.R (Kd.int .u8) 5 wc w.heap.size (fun _ => True) (.slice Ao12 t238.length co12) t238) ∧ Aside0 (Below w.heap.size w wc))
      case first =>
        have H := HC9.out
        clear HC9
        by_cases c14 : t243 = 0
        · rw [if_pos c14] at H
          have c14b0 : (t243 == 0) = true := beq_iff_eq.mpr c14
          have c14b1 : (t243 != 0) = false := bne_eq_false_iff_eq.mpr c14
          clear c14
          (first | rw [c14b0] | (simp only [i64_w, i32_w]; rw [c14b0]) | skip)
          replace H := Option.bind_eq_some_iff.mp H
          obtain ⟨t246, A150, H⟩ := H
          replace H : (if t246 = true then (undercroftlaw11_LeafBack.j0 k a1 a2 t238 ((t238.length : Int) != 256)) else (undercroftlaw11_LeafBack.j0 k a1 a2 t238 true)) = some r := H
          have A15 := Aside0.mk A150
          clear A150
          by_cases c16 : t246 = true
          · subst c16
            have H1 : (undercroftlaw11_LeafBack.j0 k a1 a2 t238 ((t238.length : Int) != 256)) = some r := by rw [if_pos rfl] at H; exact H
            clear H
            have H := H1
            clear H1
            have H' := Aside0.mk H
            clear H
            obtain ⟨Ao17, co17, eo17⟩ := Kd.R_slice HO245.out
            subst eo17
            go_wp2_with (first | (go_at_call 29; (with_reducible refine (undercroftref11_Same.calls k _ _ l0 _ _ t242 true _ ?side1 ?side2 ?side3 ?side4 A15.out).mono ?_); (case side1 => repeat (first | exact (Kd.C_below HR0.out HB.out) | (with_reducible refine Kd.C_alloc ?_ _) | (with_reducible refine Kd.C_drewN ?_ _) | (with_reducible refine Kd.C_drew ?_))); (case side2 => exact HC0.out); (case side3 => repeat (first | exact (Kd.R_reads' HO245.out).2.2 | (with_reducible refine Kd.C_alloc ?_ _) | (with_reducible refine Kd.C_drewN ?_ _) | (with_reducible refine Kd.C_drew ?_))); (case side4 => exact (Kd.R_reads' HO245.out).2.1); rintro e w' ⟨rfl, ⟨nd, rfl⟩⟩))
            go_meet
            case rel => exact ⟨_, (((t238.length : Int) != 256)), (by first | rfl | (simp; done) | (simp [*]; done)), H', ⟨by first | omega | exact Nat.le_refl _⟩, ⟨by (with_reducible repeat (first | apply Kd.R_alloc | apply Kd.R_drewN | apply Kd.R_drew)); exact HO241.out⟩, ⟨by repeat (first | (with_reducible first | exact HB.out | apply below_alloc | apply pw_below_drewN | apply below_drew1) | exact HB.out)⟩⟩
          · replace c16 := Bool.eq_false_iff.mpr c16
            subst c16
            have H1 : (undercroftlaw11_LeafBack.j0 k a1 a2 t238 true) = some r := by rw [if_neg (show ¬ (false = true) by decide)] at H; exact H
            clear H
            have H := H1
            clear H1
            have H' := Aside0.mk H
            clear H
            obtain ⟨Ao18, co18, eo18⟩ := Kd.R_slice HO245.out
            subst eo18
            go_wp2_with (first | (go_at_call 29; (with_reducible refine (undercroftref11_Same.calls k _ _ l0 _ _ t242 false _ ?side1 ?side2 ?side3 ?side4 A15.out).mono ?_); (case side1 => repeat (first | exact (Kd.C_below HR0.out HB.out) | (with_reducible refine Kd.C_alloc ?_ _) | (with_reducible refine Kd.C_drewN ?_ _) | (with_reducible refine Kd.C_drew ?_))); (case side2 => exact HC0.out); (case side3 => repeat (first | exact (Kd.R_reads' HO245.out).2.2 | (with_reducible refine Kd.C_alloc ?_ _) | (with_reducible refine Kd.C_drewN ?_ _) | (with_reducible refine Kd.C_drew ?_))); (case side4 => exact (Kd.R_reads' HO245.out).2.1); rintro e w' ⟨rfl, ⟨nd, rfl⟩⟩))
            go_meet
            case rel => exact ⟨_, (true), (by first | rfl | (simp; done) | (simp [*]; done)), H', ⟨by first | omega | exact Nat.le_refl _⟩, ⟨by (with_reducible repeat (first | apply Kd.R_alloc | apply Kd.R_drewN | apply Kd.R_drew)); exact HO241.out⟩, ⟨by repeat (first | (with_reducible first | exact HB.out | apply below_alloc | apply pw_below_drewN | apply below_drew1) | exact HB.out)⟩⟩
        · rw [if_neg c14] at H
          have c14b0 : (t243 == 0) = false := beq_eq_false_iff_ne.mpr c14
          have c14b1 : (t243 != 0) = true := bne_iff_ne.mpr c14
          (first | rw [c14b0] | (simp only [i64_w, i32_w]; rw [c14b0]) | skip)
          have H' := Aside0.mk H
          clear H
          go_wp2
          go_meet
          case rel => exact ⟨_, (true), (by first | rfl | (simp; done) | (simp [*]; done)), H', ⟨by first | omega | exact Nat.le_refl _⟩, ⟨by (with_reducible repeat (first | apply Kd.R_alloc | apply Kd.R_drewN | apply Kd.R_drew)); exact HO241.out⟩, ⟨by repeat (first | (with_reducible first | exact HB.out | apply below_alloc | apply pw_below_drewN | apply below_drew1) | exact HB.out)⟩⟩
      case rest =>
        clear HC9
        try clear c1
        try clear c2
        try clear p2
        try clear c3
        try clear c5
        try clear c7
        try clear c7b0
        try clear c7b1
        try clear c8
        try clear c14
        try clear c14b0
        try clear c14b1
        try clear c16
        obtain ⟨kq, x44_8, rfl, HA, HJ8, HO_7, HB⟩ := hcut
        cases kq with
        | zero => exact absurd HA.out (by intro h_; cases h_)
        | succ kj8 =>
          have H := HA.out
          clear HA
          simp only [undercroftlaw11_LeafBack.j0] at H
          by_cases c19 : x44_8 = true
          · subst c19
            have H1 : (some false) = some r := by rw [if_pos rfl] at H; exact H
            clear H
            have H := H1
            clear H1
            obtain rfl := Option.some.inj H
            go_wp2
            go_ret
            exact ⟨by first | rfl | (simp [errW_none, errW_some] <;> rfl) | (simp [*, errW_none, errW_some] <;> rfl), by repeat (first | (with_reducible first | exact HB.out | apply below_alloc | apply pw_below_drewN | apply below_drew1) | exact HB.out)⟩
          · replace c19 := Bool.eq_false_iff.mpr c19
            subst c19
            have H1 : (undercroftlaw11_LeafBack.l0 kj8 a2 t238 (wrap64 (Int.tmod (IntKind.u64.wrap (a1)) 2048)) false 0) = some r := by rw [if_neg (show ¬ (false = true) by decide)] at H; exact H
            clear H
            have H := H1
            clear H1
            have H' := Aside0.mk H
            clear H
            go_wp2
            go_loopg [12, 13] kj8 (fun kq v12 v13 w' => ∃ (x7_2 : List Int) (x12_2 : Bool) (x13_2 : Int), v12 = .bool x12_2 ∧ v13 = .int .i64 x13_2 ∧ Aside0 (undercroftlaw11_LeafBack.l0 kq a2 x7_2 (wrap64 (Int.tmod (IntKind.u64.wrap (a1)) 2048)) x12_2 x13_2 = some r) ∧ Aside0 (kq ≤ kj8) ∧ Aside0 (Kd.R (Kd.int .u8) 5 w' w.heap.size (fun _ => True) (.slice Ao12 t238.length co12) x7_2) ∧ Aside0 (Below w.heap.size w w'))
            case atStart => exact ⟨(t238), (false), (0), (by first | rfl | (simp; done) | (simp [*]; done)), (by first | rfl | (simp; done) | (simp [*]; done)), H', ⟨Nat.le_refl _⟩, ⟨by (with_reducible repeat (first | apply Kd.R_alloc | apply Kd.R_drewN | apply Kd.R_drew)); exact HO_7.out⟩, ⟨by repeat (first | (with_reducible first | exact HB.out | apply below_alloc | apply pw_below_drewN | apply below_drew1) | exact HB.out)⟩⟩
            case round =>
              clear H'
              try clear c1
              try clear c2
              try clear p2
              try clear c3
              try clear c5
              try clear p6
              try clear c7
              try clear c7b0
              try clear c7b1
              try clear c8
              try clear c14
              try clear c14b0
              try clear c14b1
              try clear c16
              try clear c19
              try clear p2
              obtain ⟨x7_2, x12_2, x13_2, rfl, rfl, HA, HK2, HO_7, HB⟩ := hrel
              have hl7_2 := (Kd.R_reads' HO_7.out).1
              rw [hl7_2] at HO_7
              (try simp only [hl7_2])
              cases gk with
              | zero => exact absurd HA.out (by intro h_; cases h_)
              | succ k2 =>
                have H := HA.out
                clear HA
                simp only [undercroftlaw11_LeafBack.l0] at H
                by_cases c20 : x13_2 < 32
                · rw [if_pos c20] at H
                  have c20b0 : decide (x13_2 < 32) = true := decide_eq_true c20
                  clear c20
                  by_cases c21 : 0 ≤ x13_2
                  · rw [if_pos c21] at H
                    have c21b0 := eq_true c21
                    have c21b1 : decide (0 ≤ x13_2) = true := decide_eq_true c21
                    clear c21
                    obtain ⟨ji22, hji22⟩ : ∃ j_ : Int, (shr .u32 a2 x13_2) = j_ := ⟨_, rfl⟩
                    replace H : (if (Go.bits .and .u32 (ji22) 1) = 1 then (if (wrap64 ((wrap64 (Int.tmod (IntKind.u64.wrap (a1)) 2048)) + x13_2)) < 2048 then (if 0 ≤ (wrap64 (Int.tdiv (wrap64 ((wrap64 (Int.tmod (IntKind.u64.wrap (a1)) 2048)) + x13_2)) 8)) then (if (wrap64 (Int.tdiv (wrap64 ((wrap64 (Int.tmod (IntKind.u64.wrap (a1)) 2048)) + x13_2)) 8)) < (x7_2.length : Int) then (if 0 ≤ (Int.tmod (wrap64 ((wrap64 (Int.tmod (IntKind.u64.wrap (a1)) 2048)) + x13_2)) 8) then (undercroftlaw11_LeafBack.l0 k2 a2 (x7_2.set ((wrap64 (Int.tdiv (wrap64 ((wrap64 (Int.tmod (IntKind.u64.wrap (a1)) 2048)) + x13_2)) 8)) : Int).toNat (Go.bits .xor .u8 (rd x7_2 (wrap64 (Int.tdiv (wrap64 ((wrap64 (Int.tmod (IntKind.u64.wrap (a1)) 2048)) + x13_2)) 8))) (shl .u8 1 (Int.tmod (wrap64 ((wrap64 (Int.tmod (IntKind.u64.wrap (a1)) 2048)) + x13_2)) 8)))) (wrap64 (Int.tmod (IntKind.u64.wrap (a1)) 2048)) true (wrap64 (x13_2 + 1))) else (none)) else (none)) else (none)) else (undercroftlaw11_LeafBack.l0 k2 a2 x7_2 (wrap64 (Int.tmod (IntKind.u64.wrap (a1)) 2048)) x12_2 (wrap64 (x13_2 + 1)))) else (undercroftlaw11_LeafBack.l0 k2 a2 x7_2 (wrap64 (Int.tmod (IntKind.u64.wrap (a1)) 2048)) x12_2 (wrap64 (x13_2 + 1)))) = some r := by first | (rw [hji22] at H; exact H) | (simp only [hji22] at H ⊢; exact H)
                    have hji22_ : (a2 / 2 ^ min x13_2.toNat 32) = ji22 := hji22
                    have hji22z : x13_2 ≤ 32 → (a2 / 2 ^ x13_2.toNat) = ji22 := shr_small hji22
                    by_cases c23 : (Go.bits .and .u32 (ji22) 1) = 1
                    · rw [if_pos c23] at H
                      have c23b0 : ((Go.bits .and .u32 (ji22) 1) == 1) = true := beq_iff_eq.mpr c23
                      have c23b1 : ((Go.bits .and .u32 (ji22) 1) != 1) = false := bne_eq_false_iff_eq.mpr c23
                      clear c23
                      by_cases c24 : (wrap64 ((wrap64 (Int.tmod (IntKind.u64.wrap (a1)) 2048)) + x13_2)) < 2048
                      · rw [if_pos c24] at H
                        have c24b0 : decide ((wrap64 ((wrap64 (Int.tmod (IntKind.u64.wrap (a1)) 2048)) + x13_2)) < 2048) = true := decide_eq_true c24
                        clear c24
                        obtain ⟨ji25, hji25⟩ : ∃ j_ : Int, (wrap64 (Int.tdiv (wrap64 ((wrap64 (Int.tmod (IntKind.u64.wrap (a1)) 2048)) + x13_2)) 8)) = j_ := ⟨_, rfl⟩
                        replace H : (if 0 ≤ (ji25) then (if (ji25) < (x7_2.length : Int) then (if 0 ≤ (Int.tmod (wrap64 ((wrap64 (Int.tmod (IntKind.u64.wrap (a1)) 2048)) + x13_2)) 8) then (undercroftlaw11_LeafBack.l0 k2 a2 (x7_2.set ((ji25) : Int).toNat (Go.bits .xor .u8 (rd x7_2 (ji25)) (shl .u8 1 (Int.tmod (wrap64 ((wrap64 (Int.tmod (IntKind.u64.wrap (a1)) 2048)) + x13_2)) 8)))) (wrap64 (Int.tmod (IntKind.u64.wrap (a1)) 2048)) true (wrap64 (x13_2 + 1))) else (none)) else (none)) else (none)) = some r := by first | (rw [hji25] at H; exact H) | (simp only [hji25] at H ⊢; exact H)
                        have hji25w : (IntKind.i64.wrap (Int.tdiv (wrap64 ((wrap64 (Int.tmod (IntKind.u64.wrap (a1)) 2048)) + x13_2)) 8)) = ji25 := (i64_w _).trans hji25
                        (try rw [hji25] at c7b0)
                        (try rw [hji25] at c7b1)
                        (try rw [hji25] at c20b0)
                        (try rw [hji25] at c21b0)
                        (try rw [hji25] at c21b1)
                        (try rw [hji25] at c23b0)
                        (try rw [hji25] at c23b1)
                        (try rw [hji25] at c24b0)
                        by_cases c26 : 0 ≤ (ji25)
                        · rw [if_pos c26] at H
                          have c26b0 : decide (0 ≤ (ji25)) = true := decide_eq_true c26
                          clear c26
                          by_cases c27 : (ji25) < (x7_2.length : Int)
                          · rw [if_pos c27] at H
                            have c27b0 : decide ((ji25) < (x7_2.length : Int)) = true := decide_eq_true c27
                            clear c27
                            obtain ⟨ji28, hji28⟩ : ∃ j_ : Int, (Int.tmod (wrap64 ((wrap64 (Int.tmod (IntKind.u64.wrap (a1)) 2048)) + x13_2)) 8) = j_ := ⟨_, rfl⟩
                            replace H : (if 0 ≤ (ji28) then (undercroftlaw11_LeafBack.l0 k2 a2 (x7_2.set ((ji25) : Int).toNat (Go.bits .xor .u8 (rd x7_2 (ji25)) (shl .u8 1 (ji28)))) (wrap64 (Int.tmod (IntKind.u64.wrap (a1)) 2048)) true (wrap64 (x13_2 + 1))) else (none)) = some r := by first | (rw [hji28] at H; exact H) | (simp only [hji28] at H ⊢; exact H)
                            by_cases c29 : 0 ≤ (ji28)
                            · rw [if_pos c29] at H
                              have c29b0 := eq_true c29
                              have c29b1 : decide (0 ≤ (ji28)) = true := decide_eq_true c29
                              clear c29
                              obtain ⟨ji30, hji30⟩ : ∃ j_ : Int, (shl .u8 1 (ji28)) = j_ := ⟨_, rfl⟩
                              replace H : (undercroftlaw11_LeafBack.l0 k2 a2 (x7_2.set ((ji25) : Int).toNat (Go.bits .xor .u8 (rd x7_2 (ji25)) (ji30))) (wrap64 (Int.tmod (IntKind.u64.wrap (a1)) 2048)) true (wrap64 (x13_2 + 1))) = some r := by first | (rw [hji30] at H; exact H) | (simp only [hji30] at H ⊢; exact H)
                              have hji30_ : (IntKind.u8.wrap (1 * 2 ^ min (ji28).toNat 8)) = ji30 := hji30
                              have hji30z : (ji28) ≤ 8 → (IntKind.u8.wrap (1 * 2 ^ (ji28).toNat)) = ji30 := shl_small hji30
                              have hji30u : (IntKind.u8.wrap (2 ^ min (ji28).toNat 8)) = ji30 := by have h_ := hji30_; rw [Int.one_mul] at h_; exact h_
                              have hji30v : (ji28) ≤ 8 → (IntKind.u8.wrap (2 ^ (ji28).toNat)) = ji30 := fun hle_ => by have h_ := hji30z hle_; rw [Int.one_mul] at h_; exact h_
                              obtain ⟨y248, hy248⟩ : ∃ y_ : List Int, y_ = (x7_2.set ((ji25) : Int).toNat (Go.bits .xor .u8 (rd x7_2 (ji25)) (ji30))) := ⟨_, rfl⟩
                              replace H : (undercroftlaw11_LeafBack.l0 k2 a2 y248 (wrap64 (Int.tmod (IntKind.u64.wrap (a1)) 2048)) true (wrap64 (x13_2 + 1))) = some r := by first | (rw [hy248]; with_reducible exact H) | (have H2_ := (Option.bind_some _ _).symm.trans H; rw [hy248]; with_reducible exact H2_) | (have H2_ := (Option.bind_some _ _).symm.trans H; with_reducible exact H2_) | with_reducible exact H | (rw [hy248]; exact H) | exact H
                              have Ny248 := Aside0.mk hy248
                              clear hy248
                              have H' := Aside0.mk H
                              clear H
                              try go_wp2
                              have n0_ := Aside0.mk (Kd.R_drew HO_7.out)
                              have n1_ := Aside0.mk (below_drew1 HB.out)
                              clear HO_7
                              clear HB
                              have HO_7 := n0_
                              have HB := n1_
                              clear n0_ n1_
                              have p247 : 0 ≤ ((ji25) : Int) := of_decide_eq_true (by first | (with_reducible assumption) | assumption)
                              have q247 : (ji25) < (x7_2.length : Int) := of_decide_eq_true (by first | (with_reducible assumption) | assumption)
                              obtain ⟨ad247, e247, hx247_0⟩ := Kd.at_int (Kd.R_reads' HO_7.out).2.2 (ji25) p247 q247
                              cases e247
                              replace p247 := eq_true p247
                              replace q247 := eq_true q247
                              have p31 : 0 ≤ ((ji25) : Int) := of_decide_eq_true (by first | (with_reducible assumption) | assumption)
                              have q31 : ((ji25) : Int) < ((x7_2.length : Int) : Int) := of_decide_eq_true (by first | (with_reducible assumption) | assumption)
                              obtain ⟨go31, co31, eo31, gb31, gl31, cl31, HG31⟩ := Kd.R_form HO_7.out (by omega)
                              (first | cases eo31 | (injection eo31 with ea_ en_ ec_; (first | subst ea_ | (injection ea_ with ea_; subst ea_)); subst ec_; clear en_))
                              have GB31 := Aside0.mk gb31
                              have GG31 := Aside0.mk HG31
                              clear gb31 gl31 HG31
                              (first | simp only [add_plain] at hx247_0 | skip)
                              obtain ⟨hx31_0, hf31_0⟩ := Kd.R_celln 0 HO_7.out ((ji25) : Int) p31 q31
                              replace p31 := eq_true p31
                              replace q31 := eq_true q31
                              have HP33 := Kd.R_putn HO_7.out ((ji25) : Int) (Go.bits .xor .u8 (rd x7_2 (ji25)) (ji30))
                              rw [← Ny248.out] at HP33
                              have HQ33 := Aside0.mk HP33
                              clear HP33
                              refine start_ (n := 11) (S := fun w' => w'.cell? ⟨go31, ((ji25)).toNat, none⟩ = some (.int .u8 (rd x7_2 (ji25)))) (ds := [10]) #[false, false, false, false, false, false, false, false, false, false, false] (by kernel_rfl) rfl rfl (hx247_0) (fun hHeld => ?_); refine with_tabW undercroftlaw11_LeafBack.tab16 undercroftlaw11_LeafBack.bits16 (fun HT_ HW_ => ?_)
                              generalize wr.drew = w32 at HO_7 HB GG31 HQ33 hf31_0 hx247_0 hx31_0 hHeld ⊢
                              refine pure_ (i := 0) (N := some 65) (v := ?_) (a' := ?_) #[true, false, false, false, false, false, false, false, false, false, false] rfl rfl (any_of HT_.out (by kernel_rfl)) (fun _ _ _ h => h) (Or.inl ⟨by rfl, ?_⟩) ?_ ?_
                              rotate_left
                              · intro w'
                                go_simp
                                with_reducible rfl
                              rotate_left
                              · simp only [Act.put, List.setIfInBounds_toArray, List.set_cons_zero, List.set_cons_succ, i64_w, i32_w]
                                rfl
                              refine pure_ (i := 1) (N := some 66) (v := ?_) (a' := ?_) #[true, true, false, false, false, false, false, false, false, false, false] rfl rfl (any_of HT_.out (by kernel_rfl)) (fun _ _ _ h => h) (Or.inl ⟨by rfl, ?_⟩) ?_ ?_
                              rotate_left
                              · intro w'
                                go_simp
                                with_reducible rfl
                              rotate_left
                              · simp only [Act.put, List.setIfInBounds_toArray, List.set_cons_zero, List.set_cons_succ, i64_w, i32_w]
                                rfl
                              refine pure_ (i := 2) (N := some 67) (v := ?_) (a' := ?_) #[true, true, true, false, false, false, false, false, false, false, false] rfl rfl (any_of HT_.out (by kernel_rfl)) (fun _ _ _ h => h) (Or.inl ⟨by rfl, ?_⟩) ?_ ?_
                              rotate_left
                              · intro w'
                                go_simp
                                with_reducible rfl
                              rotate_left
                              · simp only [Act.put, List.setIfInBounds_toArray, List.set_cons_zero, List.set_cons_succ, i64_w, i32_w]
                                rfl
                              refine pure_ (i := 3) (N := some 68) (v := ?_) (a' := ?_) #[true, true, true, true, false, false, false, false, false, false, false] rfl rfl (any_of HT_.out (by kernel_rfl)) (fun _ _ _ h => h) (Or.inl ⟨by rfl, ?_⟩) ?_ ?_
                              rotate_left
                              · intro w'
                                go_simp
                                with_reducible rfl
                              rotate_left
                              · simp only [Act.put, List.setIfInBounds_toArray, List.set_cons_zero, List.set_cons_succ, i64_w, i32_w]
                                rfl
                              refine pure_ (i := 5) (N := some 70) (v := ?_) (a' := ?_) #[true, true, true, true, false, true, false, false, false, false, false] rfl rfl (any_of HT_.out (by kernel_rfl)) (fun _ _ _ h => h) (Or.inl ⟨by rfl, ?_⟩) ?_ ?_
                              rotate_left
                              · intro w'
                                go_simp
                                with_reducible rfl
                              rotate_left
                              · simp only [Act.put, List.setIfInBounds_toArray, List.set_cons_zero, List.set_cons_succ, i64_w, i32_w]
                                rfl
                              refine pure_ (i := 6) (N := some 71) (v := ?_) (a' := ?_) #[true, true, true, true, false, true, true, false, false, false, false] rfl rfl (any_of HT_.out (by kernel_rfl)) (fun _ _ _ h => h) (Or.inl ⟨by rfl, ?_⟩) ?_ ?_
                              rotate_left
                              · intro w'
                                go_simp
                                with_reducible rfl
                              rotate_left
                              · simp only [Act.put, List.setIfInBounds_toArray, List.set_cons_zero, List.set_cons_succ, i64_w, i32_w]
                                rfl
                              refine pure_ (i := 7) (N := some 72) (v := ?_) (a' := ?_) #[true, true, true, true, false, true, true, true, false, false, false] rfl rfl (any_of HT_.out (by kernel_rfl)) (fun _ _ _ h => h) (Or.inl ⟨by rfl, ?_⟩) ?_ ?_
                              rotate_left
                              · intro w'
                                go_simp
                                with_reducible rfl
                              rotate_left
                              · simp only [Act.put, List.setIfInBounds_toArray, List.set_cons_zero, List.set_cons_succ, i64_w, i32_w]
                                rfl
                              refine take_ (i := 4) (N := some 69) (v := ?_) (a' := ?_) #[true, true, true, true, true, true, true, true, false, false, false] rfl rfl (take_ofW HT_.out HW_.out (by kernel_rfl)) (fun _ _ _ h => h) (Or.inl ⟨by rfl, ?_⟩) hHeld ?_ ?_
                              rotate_left
                              · intro w' s0
                                go_simp
                                with_reducible rfl
                              rotate_left
                              · simp only [Act.put, List.setIfInBounds_toArray, List.set_cons_zero, List.set_cons_succ, i64_w, i32_w]
                                rfl
                              refine pure_ (i := 8) (N := some 73) (v := ?_) (a' := ?_) #[true, true, true, true, true, true, true, true, true, false, false] rfl rfl (any_of HT_.out (by kernel_rfl)) (fun _ _ _ h => h) (Or.inl ⟨by rfl, ?_⟩) ?_ ?_
                              rotate_left
                              · intro w'
                                go_simp
                                with_reducible rfl
                              rotate_left
                              · simp only [Act.put, List.setIfInBounds_toArray, List.set_cons_zero, List.set_cons_succ, i64_w, i32_w]
                                rfl
                              refine pure_ (i := 9) (N := some 74) (v := ?_) (a' := ?_) #[true, true, true, true, true, true, true, true, true, true, false] rfl rfl (any_of HT_.out (by kernel_rfl)) (fun _ _ _ h => h) (Or.inl ⟨by rfl, ?_⟩) ?_ ?_
                              rotate_left
                              · intro w'
                                go_simp
                                with_reducible rfl
                              rotate_left
                              · simp only [Act.put, List.setIfInBounds_toArray, List.set_cons_zero, List.set_cons_succ, i64_w, i32_w]
                                rfl
                              refine last_ (i := 10) (N := none) #[true, true, true, true, true, true, true, true, true, true, true] rfl rfl (one_of HT_.out (by kernel_rfl)) (by decide) (fun K hK => ?_)
                              refine skip_ (w1 := ?_) (by rfl) rfl ?_ ?_
                              rotate_left
                              · go_simp
                                rfl
                              refine hK.out _ _ ?_
                              clear hK K
                              refine done_ (done_of HT_.out (by kernel_rfl)) ?_
                              try go_wp2
                              (try simp only [← hl7_2])
                              go_roundg k2
                              case measure => have := HJ8.out; have := HK2.out; omega
                              case rel => exact ⟨(y248), (true), (wrap64 (x13_2 + 1)), (by first | rfl | (simp; done) | (simp [*]; done)), (by first | rfl | (simp; done) | (simp [*]; done)), H', ⟨by have := HJ8.out; have := HK2.out; omega⟩, ⟨by (try simp only [hl7_2]); (with_reducible repeat (first | apply Kd.R_alloc | apply Kd.R_drewN | apply Kd.R_drew)); exact HQ33.out⟩, ⟨by repeat (first | (with_reducible first | exact HB.out | apply below_alloc | apply pw_below_drewN | apply below_drew1 | refine below_set ?_ GB31.out) | exact HB.out)⟩⟩
                            · rw [if_neg c29] at H
                              exact absurd H (by simp)
                          · rw [if_neg c27] at H
                            exact absurd H (by simp)
                        · rw [if_neg c26] at H
                          exact absurd H (by simp)
                      · rw [if_neg c24] at H
                        have c24b0 : decide ((wrap64 ((wrap64 (Int.tmod (IntKind.u64.wrap (a1)) 2048)) + x13_2)) < 2048) = false := decide_eq_false c24
                        clear c24
                        have H' := Aside0.mk H
                        clear H
                        go_wp2
                        (try simp only [← hl7_2])
                        go_roundg k2
                        case measure => have := HJ8.out; have := HK2.out; omega
                        case rel => exact ⟨(x7_2), (x12_2), (wrap64 (x13_2 + 1)), (by first | rfl | (simp; done) | (simp [*]; done)), (by first | rfl | (simp; done) | (simp [*]; done)), H', ⟨by have := HJ8.out; have := HK2.out; omega⟩, ⟨by (try simp only [hl7_2]); (with_reducible repeat (first | apply Kd.R_alloc | apply Kd.R_drewN | apply Kd.R_drew)); exact HO_7.out⟩, ⟨by repeat (first | (with_reducible first | exact HB.out | apply below_alloc | apply pw_below_drewN | apply below_drew1) | exact HB.out)⟩⟩
                    · rw [if_neg c23] at H
                      have c23b0 : ((Go.bits .and .u32 (ji22) 1) == 1) = false := beq_eq_false_iff_ne.mpr c23
                      have c23b1 : ((Go.bits .and .u32 (ji22) 1) != 1) = true := bne_iff_ne.mpr c23
                      have H' := Aside0.mk H
                      clear H
                      go_wp2
                      (try simp only [← hl7_2])
                      go_roundg k2
                      case measure => have := HJ8.out; have := HK2.out; omega
                      case rel => exact ⟨(x7_2), (x12_2), (wrap64 (x13_2 + 1)), (by first | rfl | (simp; done) | (simp [*]; done)), (by first | rfl | (simp; done) | (simp [*]; done)), H', ⟨by have := HJ8.out; have := HK2.out; omega⟩, ⟨by (try simp only [hl7_2]); (with_reducible repeat (first | apply Kd.R_alloc | apply Kd.R_drewN | apply Kd.R_drew)); exact HO_7.out⟩, ⟨by repeat (first | (with_reducible first | exact HB.out | apply below_alloc | apply pw_below_drewN | apply below_drew1) | exact HB.out)⟩⟩
                  · rw [if_neg c21] at H
                    exact absurd H (by simp)
                · rw [if_neg c20] at H
                  have c20b0 : decide (x13_2 < 32) = false := decide_eq_false c20
                  clear c20
                  replace H := Option.bind_eq_some_iff.mp H
                  obtain ⟨⟨t249, t250⟩, A340, H⟩ := H
                  replace H : (some ((t250 == 13) == x12_2)) = some r := H
                  have A34 := Aside0.mk A340
                  clear A340
                  obtain rfl := Option.some.inj H
                  go_wp2_with (first | ((with_reducible refine gate_callee (f := 30) rfl ?_); refine goesL_ (some 77) rfl rfl Try.func30 (by kernel_rfl) rfl #[.slice Ao12 x7_2.length co12] rfl (by (try simp only [List.map_toArray, List.map_cons, List.map_nil]); first | done | rfl | (simp only [List.length_drop, List.length_take]; rfl)) ?_; (with_reducible refine (leaf_Decode.calls k2 _ _ x7_2 t249 t250 _ ?side1 ?side2 A34.out).mono ?_); (case side1 => repeat (first | exact (Kd.R_reads' HO_7.out).2.2 | (with_reducible refine Kd.C_alloc ?_ _) | (with_reducible refine Kd.C_drewN ?_ _) | (with_reducible refine Kd.C_drew ?_))); (case side2 => exact (Kd.R_reads' HO_7.out).2.1); rintro e w35 ⟨v251, rfl, ho0, hb⟩; refine ⟨_, rfl, ?_⟩; have n0_ := Aside0.mk (Kd.R_below (by (with_reducible repeat (first | apply Kd.R_alloc | apply Kd.R_drewN | apply Kd.R_drew)); exact HO_7.out) hb); have n1_ := Aside0.mk (Kd.R_lower ho0 (below_size (by repeat (first | (with_reducible first | exact HB.out | apply below_alloc | apply pw_below_drewN | apply below_drew1) | exact HB.out)))); have n2_ := Aside0.mk (below_step (by repeat (first | (with_reducible first | exact HB.out | apply below_alloc | apply pw_below_drewN | apply below_drew1) | exact HB.out)) hb); clear HO_7; clear HB; have HO_7 := n0_; have HO252 := n1_; have HB := n2_; clear n0_ n1_ n2_; (try clear hb); (try clear hb2); (try clear hk); (try clear hi); (try clear ho0)))
                  go_ret
                  exact ⟨by first | rfl | (simp [errW_none, errW_some] <;> rfl) | (simp [*, errW_none, errW_some] <;> rfl), by repeat (first | (with_reducible first | exact HB.out | apply below_alloc | apply pw_below_drewN | apply below_drew1) | exact HB.out)⟩
    · rw [if_neg c7] at H
      have c7b0 : (t239 == 0) = false := beq_eq_false_iff_ne.mpr c7
      have c7b1 : (t239 != 0) = true := bne_iff_ne.mpr c7
      obtain rfl := Option.some.inj H
      go_enter Try.func8, Try.ntmps8
      go_wp2_with (first | ((with_reducible refine gate_callee (f := 22) rfl ?_); refine goesL_ (some 15) rfl rfl Try.func22 (by kernel_rfl) rfl #[] rfl (by (try simp only [List.map_toArray, List.map_cons, List.map_nil]); first | done | rfl | (simp only [List.length_drop, List.length_take]; rfl)) ?_; (with_reducible refine (undercroftlaw11_alive.calls k  true _ A4.out).mono ?_); rintro e w36 ⟨rfl, hb⟩; refine ⟨_, rfl, ?_⟩; have n0_ := Aside0.mk (below_step (by repeat (first | (with_reducible first | exact HB.out | apply below_alloc | apply pw_below_drewN | apply below_drew1) | exact HB.out)) hb); clear HB; have HB := n0_; clear n0_; (try clear hb); (try clear hb2); (try clear hk); (try clear hi)) | ((with_reducible refine gate_callee (f := 23) rfl ?_); refine goesL_ (some 19) rfl rfl Try.func23 (by kernel_rfl) rfl #[.slice A0 l0.length c0] rfl (by (try simp only [List.map_toArray, List.map_cons, List.map_nil]); first | done | rfl | (simp only [List.length_drop, List.length_take]; rfl)) ?_; (with_reducible refine (leaf_Encode.calls k _ _ l0 t238 t239 _ ?side1 ?side2 A6.out).mono ?_); (case side1 => repeat (first | exact (Kd.C_below HR0.out HB.out) | (with_reducible refine Kd.C_alloc ?_ _) | (with_reducible refine Kd.C_drewN ?_ _) | (with_reducible refine Kd.C_drew ?_))); (case side2 => exact HC0.out); rintro e w37 ⟨v240, rfl, ho0, hb⟩; refine ⟨_, rfl, ?_⟩; have n0_ := Aside0.mk (Kd.R_lower ho0 (below_size (by repeat (first | (with_reducible first | exact HB.out | apply below_alloc | apply pw_below_drewN | apply below_drew1) | exact HB.out)))); have n1_ := Aside0.mk (below_step (by repeat (first | (with_reducible first | exact HB.out | apply below_alloc | apply pw_below_drewN | apply below_drew1) | exact HB.out)) hb); clear HB; have HO241 := n0_; have HB := n1_; clear n0_ n1_; (try clear hb); (try clear hb2); (try clear hk); (try clear hi); (try clear ho0); obtain ⟨Ao38, co38, eo38⟩ := Kd.R_slice HO241.out; subst eo38))
      go_ret
      exact ⟨by first | rfl | (simp [errW_none, errW_some] <;> rfl) | (simp [*, errW_none, errW_some] <;> rfl), by repeat (first | (with_reducible first | exact HB.out | apply below_alloc | apply pw_below_drewN | apply below_drew1) | exact HB.out)⟩
  · replace c5 := Bool.eq_false_iff.mpr c5
    subst c5
    have H1 : (some false) = some r := by rw [if_neg (show ¬ (false = true) by decide)] at H; exact H
    clear H
    have H := H1
    clear H1
    obtain rfl := Option.some.inj H
    go_enter Try.func8, Try.ntmps8
    go_wp2_with (first | ((with_reducible refine gate_callee (f := 22) rfl ?_); refine goesL_ (some 15) rfl rfl Try.func22 (by kernel_rfl) rfl #[] rfl (by (try simp only [List.map_toArray, List.map_cons, List.map_nil]); first | done | rfl | (simp only [List.length_drop, List.length_take]; rfl)) ?_; (with_reducible refine (undercroftlaw11_alive.calls k  false _ A4.out).mono ?_); rintro e w39 ⟨rfl, hb⟩; refine ⟨_, rfl, ?_⟩; have n0_ := Aside0.mk (below_step (by repeat (first | (with_reducible first | exact HB.out | apply below_alloc | apply pw_below_drewN | apply below_drew1) | exact HB.out)) hb); clear HB; have HB := n0_; clear n0_; (try clear hb); (try clear hb2); (try clear hk); (try clear hi)))
    go_ret
    exact ⟨by first | rfl | (simp [errW_none, errW_some] <;> rfl) | (simp [*, errW_none, errW_some] <;> rfl), by repeat (first | (with_reducible first | exact HB.out | apply below_alloc | apply pw_below_drewN | apply below_drew1) | exact HB.out)⟩
end Go.Proofs.Ytffaggckhneakaa.Pr
end
section
namespace Go.Proofs.Ytffaggckhneakaa.Lf
open Go.RowKit Go.Proofs.YtffaggckhneakaaW.PrintWords Go.Proofs.YtffaggckhneakaaW.PrintMore Go.Proofs.Ytffaggckhneakaa.Pr Go.Proofs.Ytffaggckhneakaa.Od Go.Proofs.Ytffaggckhneakaa.Cr
set_option linter.unusedVariables false
set_option linter.unusedSimpArgs false
theorem same_self (l : List E) (hl : l.length < 5864062014805) : Ev (fun k => undercroftref11_Same.f k l l) true := by
  unfold undercroftref11_Same.f
  simp only [if_true]
  have key : ∀ (n i : Nat), i + n = l.length → Ev (fun k => undercroftref11_Same.l0 k l l (i : Int)) true := by
    intro n
    induction n with
    | zero =>
      intro i hi
      refine Ev.succ ?_
      simp only [undercroftref11_Same.l0, if_neg (show ¬((i : Int) < (l.length : Int)) by omega)]
      exact Ev.now _
    | succ n ih =>
      intro i hi
      refine Ev.succ ?_
      have hil : i < l.length := by omega
      simp only [undercroftref11_Same.l0, if_pos (show ((i : Int) < (l.length : Int)) by omega), if_pos (show (0 : Int) ≤ (i : Int) by omega), beq_self_eq_true, Bool.not_true, Bool.or_self, Bool.false_eq_true, if_false, w64 (show -9223372036854775808 ≤ (i : Int) + 1 by omega) (by omega)]
      exact ih (i + 1) (by omega)
  exact key l.length 0 (by omega)
theorem LeafBack (l : List E) (a : Int) (u : Int) (hl : Fits l) : ∃ k, undercroftlaw11_LeafBack.f k l a u = some true := by
  refine Ev.rounds ?_
  unfold Fits at hl
  unfold undercroftlaw11_LeafBack.f
  refine Ev.bind alive_ev ?_
  simp only [if_true]
  refine Ev.bind (enc_ev l (by omega)) ?_
  by_cases h0 : (encR l).2 = 0
  · simp only [if_pos h0]
    refine Ev.bind (dec_ev _ (encR_byte l)) ?_
    rw [dec_enc h0]
    simp only [if_true]
    refine Ev.bind (same_self l (by omega)) ?_
    have hlen := encR_len h0
    simp only [if_true, hlen, show (((256 : Nat) : Int) != 256) = false from rfl]
    refine Ev.succ ?_
    simp only [undercroftlaw11_LeafBack.j0, Bool.false_eq_true, if_false]
    obtain ⟨first, hf, hf2⟩ : ∃ first : Nat, wrap64 (Int.tmod (IntKind.u64.wrap a) 2048) = (first : Int) ∧ first < 2048 := by
      have h1 : 0 ≤ IntKind.u64.wrap a := by rw [u64w]; omega
      rw [Int.tmod_eq_emod_of_nonneg h1]
      refine ⟨(IntKind.u64.wrap a % 2048).toNat, ?_, by omega⟩
      rw [w64 (by omega) (by omega)]; omega
    rw [hf]
    have key : ∀ (n i : Nat) (b' : List Int) (t : Bool), i + n = 32 → Inv (encR l).1 first i b' t → Ev (fun k => undercroftlaw11_LeafBack.l0 k u b' (first : Int) t (i : Int)) true := by
      intro n
      induction n with
      | zero =>
        intro i b' t hi hI
        refine Ev.succ ?_
        simp only [undercroftlaw11_LeafBack.l0, if_neg (show ¬((i : Int) < 32) by omega)]
        refine Ev.bind (dec_ev b' hI.2.1) ?_
        obtain ⟨e1, e2⟩ := inv_end hI
        cases t with
        | false =>
          rw [e2 rfl, dec_enc h0]
          exact Ev.now _
        | true =>
          have hne := e1 rfl
          rcases decR_code b' with h | h
          · obtain ⟨g1, g2⟩ := decR_ok h
            have := enc_done g1
            rw [g2] at this
            exact absurd (this.trans (enc_done h0).symm) hne
          · rw [h]
            exact Ev.now _
      | succ n ih =>
        intro i b' t hi hI
        refine Ev.succ ?_
        obtain ⟨p1, p2, p3⟩ := place (i := i) hf2 (by omega)
        simp only [undercroftlaw11_LeafBack.l0, if_pos (show ((i : Int) < 32) by omega), if_pos (show (0 : Int) ≤ (i : Int) by omega), p1, p2, p3, w64 (show -9223372036854775808 ≤ (i : Int) + 1 by omega) (by omega)]
        have hskip := ih (i + 1) b' t (by omega) (inv_skip hI)
        by_cases hbit : Go.bits .and .u32 (shr .u32 u (i : Int)) 1 = 1
        · simp only [if_pos hbit]
          by_cases hlt : first + i < 2048
          · have hl8 : (first + i) / 8 < b'.length := by rw [hI.1]; omega
            simp only [if_pos (show ((first + i : Nat) : Int) < 2048 by omega), if_pos (show (0 : Int) ≤ (((first + i) / 8 : Nat) : Int) by omega), if_pos (show (((first + i) / 8 : Nat) : Int) < (b'.length : Int) by omega), if_pos (show (0 : Int) ≤ (((first + i) % 8 : Nat) : Int) by omega), Int.toNat_natCast]
            exact ih (i + 1) (turnB b' (first + i)) true (by omega) (inv_turn hI (by omega) hlt)
          · simp only [if_neg (show ¬ ((first + i : Nat) : Int) < 2048 by omega)]
            exact hskip
        · simp only [if_neg hbit]
          exact hskip
    exact key 32 0 _ false rfl (inv_start hlen (encR_byte l) first)
  · simp only [if_neg h0]
    have : (encR l).1 = [] := by
      unfold encR at h0 ⊢
      by_cases hr : right none l = true
      · rw [if_pos hr] at h0 ⊢
        by_cases hs : sumL l > 248
        · rw [if_pos hs]
        · rw [if_neg hs] at h0; exact absurd rfl h0
      · rw [if_neg hr]
    rw [this]
    exact Ev.now _
end Go.Proofs.Ytffaggckhneakaa.Lf
end
section
namespace Go.Proofs.Ytffaggckhneakaa.leafBack
open Go.ChangeShapes Go.WideShapes Go.ChangeAt Go.RowKit Go.Proofs.YtffaggckhneakaaW.PrintWords Go.Proofs.Ytffaggckhneakaa.Pr Go.Proofs.Ytffaggckhneakaa.Op Go.Joins
open Go.ChangeMaps (open_string shut_string)
set_option linter.unusedVariables false
theorem own : ownKnob Try.prog.godebug = none := by kernel_rfl
theorem laidOut : laidOutB Try.prog = true := by kernel_rfl
set_option maxRecDepth 100000 in
theorem contract (H : Type) (enc : TypeId × Value → H) (W : World) (base : Nat) (args : Array Value) (ds gs : List (DataW H)) (before : List MemPlace)
    (hval : ∀ (j : Nat) t v, Try.f8.params[j]? = some t → args[j]? = some v → Value.okWide Try.prog W .any base t v)
    (hW : DataW.Whole enc Try.prog Try.f8.params.toList Rows.leafBackSpec.vars false W args.toList ds gs before)
    (hsz : (DataW.weightsEach Try.prog (Try.f8.params.toList ++ Rows.leafBackSpec.plain.varTypes Try.prog) (ds ++ gs)).all (· ≤ reachBytes) = true) :
    Calls Try.prog 8 args W fun e W' => ∃ v, e = .returned v ∧ Rows.leafBackSpec.post enc Try.prog Try.f8 false true false false W args v W' := by
  have hW' := hW
  obtain ⟨p, q, hA0, hV, rfl, hfz, hnd⟩ := hW
  have hA : DataW.TrodAll enc Try.prog W 0 (fun _ => true) true Try.f8.params.toList args.toList ds p := hA0
  rw [Try.params8] at hA hval hsz
  obtain ⟨v0, vs0, d0, ds0, p0, q0, hargs, rfl, rfl, h0, r0⟩ := trodAll_cons hA
  obtain ⟨v1, vs1, d1, ds1, p1, q1, rfl, rfl, rfl, h1, r1⟩ := trodAll_cons r0
  obtain ⟨v2, vs2, d2, ds2, p2, q2, rfl, rfl, rfl, h2, r2⟩ := trodAll_cons r1
  obtain ⟨rfl, rfl, rfl⟩ := trodAll_nil r2
  obtain rfl : args = #[v0, v1, v2] := by cases args; simp_all
  obtain ⟨rfl, rfl⟩ := trodVars_none hV
  have lt0 : ∀ x ∈ p0, x.block < W.heap.size := by obtain ⟨m, hm⟩ := h0; exact DataW.trod_lt m _ _ _ hm
  have k0 := h0
  obtain ⟨A0, l0, c0, rfl, hc0, hr0, hs0⟩ := arg_slice Try.underlying41 Lf.o54 (hval 0 41 v0 rfl rfl) h0 hsz (j := 0) (t := 41) rfl rfl
  have lt1 : ∀ x ∈ p1, x.block < W.heap.size := by obtain ⟨m, hm⟩ := h1; exact DataW.trod_lt m _ _ _ hm
  have k1 := h1
  obtain ⟨a1, rfl, rfl, rfl, w1⟩ := open_int Try.underlying3 (hval 1 3 v1 rfl rfl) h1
  have b1 := bounds_i64 w1
  have lt2 : ∀ x ∈ p2, x.block < W.heap.size := by obtain ⟨m, hm⟩ := h2; exact DataW.trod_lt m _ _ _ hm
  have k2 := h2
  obtain ⟨a2, rfl, rfl, rfl, w2⟩ := open_int Try.underlying51 (hval 2 51 v2 rfl rfl) h2
  have b2 := bounds_u32 w2
  clear hA0
  obtain ⟨k, hk⟩ := Lf.LeafBack l0 a1 a2 hs0
  refine (undercroftlaw11_LeafBack.calls k A0 c0 l0 a1 a2 true W hr0 hc0 hk).mono fun e W' ⟨he, bel⟩ => ?_
  subst he
  exact ⟨_, rfl, _, _, _, [], _, [], hW', trodAll_mk1 (shut_bool Try.underlying4 _), (trodAll_cons_mk (Below.trod laidOut (by kernel_rfl) (of_decide_eq_true (by kernel_rfl)) k0 bel lt0) (trodAll_cons_mk (Below.trod laidOut (by kernel_rfl) (of_decide_eq_true (by kernel_rfl)) k1 bel lt1) (trodAll_cons_mk (Below.trod laidOut (by kernel_rfl) (of_decide_eq_true (by kernel_rfl)) k2 bel lt2) trodAll_mk0))), rfl, bel.frame _, fun h => by cases h⟩
set_option maxRecDepth 100000 in
theorem lifted (os : Os) (started : os.Started) (H : Type) (enc : TypeId × Value → H) :
    ReturnsInHanded {} Try.checked os 8 .any (Rows.leafBackSpec.pre6 enc Try.prog Try.f8 Rows.leafBackRow.domain false) (Rows.leafBackSpec.post enc Try.prog Try.f8 false true false false) := by
  refine returnsInHanded_of_change_sized (C := Try.checked) own started (by kernel_rfl) Try.func8
    (ChangeSpec.witness6 (enc := enc) (C := Try.checked) false ⟨#[], #[.slice none 0 0, .int .i64 0, .int .u32 0], []⟩ 8 (by kernel_rfl) (by kernel_rfl) (by kernel_rfl) (by kernel_rfl)) ?_
  intro W base args ds gs before hval hW _ hsz _
  exact contract H enc W base args ds gs before hval hW hsz
theorem over : Rows.leafBackRow.holds Try.pinned (OpenSpec.ofChange Rows.leafBackSpec) :=
  OpenClaim.holds_of_wide 8 Try.f8 rfl rfl rfl rfl rfl rfl rfl ⟨rfl, rfl, rfl, rfl, rfl⟩ rfl rfl rfl rfl rfl (by kernel_rfl) Try.func8 (by kernel_rfl)
    (of_decide_eq_true (by kernel_rfl)) (by unfold Func.isWrapper; first | (rw [if_pos (by decide +kernel)]; kernel_rfl) | (rw [if_neg (by decide +kernel)]; exact ⟨rfl, rfl⟩))
    (fun os started H enc _ => lifted os started H enc)
theorem proved : Rows.LeafBackSaid := over
end Go.Proofs.Ytffaggckhneakaa.leafBack
namespace Go.Proofs.Ytffaggckhneakaa
theorem leafBack_holds : Rows.LeafBackSaid := leafBack.proved
end Go.Proofs.Ytffaggckhneakaa
end
