/- MBlocks: this session's texts for the one law, put together (part 3 of 6): what its program computes, function by function, and that this answers true; the row stands at the end of the last part. Conditions: those that each theorem names; the last theorem has none. -/
import Derived.Lib.AppendZerosOnto
import Derived.Lib.Overlaps
import Derived.Laws.Externs
import Derived.Laws.CopyRow
import Derived.Deep.DeepAppendWide
import Derived.WalkKit
import Derived.ProofKit
import Derived.OpenShut
import Derived.ShutString
import Derived.ChangeOld
import Derived.Below
import Derived.SizedLaws
import Derived.ChangeSlices
import Derived.Lib.SmallJoins
import Derived.Deep.Slices
import Derived.Test.YtopmjjnkolfciaaMBlocksB
section
namespace Go.Proofs.Ytopmjjnkolfciaa.Pr
open Go.RowKit Go.Proofs.YtopmjjnkolfciaaW.PrintWords Go.Proofs.YtopmjjnkolfciaaW.PrintLast Go.Proofs.YtopmjjnkolfciaaW.PrintMore
attribute [local go_sem] max2_int min2_int max_two min_two max_three min_three max_four min_four
attribute [local go_sem] Go.Proofs.Ytopmjjnkolfciaa.Hl.str_geq Go.Proofs.Ytopmjjnkolfciaa.Hl.str_gtr Go.Proofs.Ytopmjjnkolfciaa.Hl.str_leq
set_option linter.unusedVariables false
set_option linter.unusedSimpArgs false
def bse : Nat → List S24 → Int → Nat → Nat → Option Nat
 | 0, _, _, _, _ => none
 | k + 1, l, s, i, j => if i < j then (if (rd_T24 l (((i + j) / 2 : Nat) : Int)).f0 + (rd_T24 l (((i + j) / 2 : Nat) : Int)).f2 ≤ s then bse k l s ((i + j) / 2 + 1) j else bse k l s i ((i + j) / 2)) else some i
theorem bse_some (l : List S24) (s : Int) : ∀ (k i j : Nat), j - i < k → ∃ r, bse k l s i j = some r
 | 0, i, j, h => absurd h (Nat.not_lt_zero _)
 | k + 1, i, j, h => by
  unfold bse
  by_cases c : i < j
  ·rw [if_pos c]
   split
   ·exact bse_some l s k _ _ (by omega)
   ·exact bse_some l s k _ _ (by omega)
  ·rw [if_neg c]; exact ⟨i, rfl⟩
theorem bse_behind {l : List S24} (hr : riseL l) (hall : ∀ e ∈ l, mayE e = true) (s : Int) : ∀ (k i j r : Nat), bse k l s i j = some r → i ≤ behindN l s → behindN l s ≤ j → j ≤ l.length → r = behindN l s
 | 0, i, j, r, h, _, _, _ => by cases h
 | k + 1, i, j, r, h, h1, h2, h3 => by
  unfold bse at h
  by_cases c : i < j
  ·rw [if_pos c] at h
   have hm : (i + j) / 2 < l.length := by omega
   obtain ⟨m, hm'⟩ : ∃ m, (i + j) / 2 = m := ⟨_, rfl⟩
   rw [hm'] at h hm
   rw [rd_in hm] at h
   have key : (l[m].f0 + l[m].f2 ≤ s) ↔ m < behindN l s := by
    constructor
    ·intro hle
     by_cases hb : m < behindN l s
     ·exact hb
     ·exact absurd hle (behind_drop l s hr (fun e he => by have := mayE_facts (hall e he); omega) l[m] (List.mem_drop_iff_getElem.2 ⟨m - behindN l s, by omega, by congr 1; omega⟩))
    ·intro hb
     exact behind_take l s l[m] (List.mem_take_iff_getElem.2 ⟨m, by omega, rfl⟩)
   by_cases hle : l[m].f0 + l[m].f2 ≤ s
   ·rw [if_pos hle] at h
    exact bse_behind hr hall s k _ _ r h (by have := key.1 hle; omega) h2 h3
   ·rw [if_neg hle] at h
    exact bse_behind hr hall s k _ _ r h h1 (by have := mt key.2 hle; omega) (by omega)
  ·rw [if_neg c] at h
   injection h with h
   omega
set_option maxHeartbeats 8000000 in
set_option maxRecDepth 100000 in
theorem behind_cmp (e : S24) (s t : Int) (W : World) (ht : wrap64 (e.f0 + e.f2) = t) :
  Calls Try.prog 69 #[.agg #[.int .i64 e.f0, .int .i64 e.f1, .int .i64 e.f2, .bool e.f3], .int .i64 s] W fun r w' => r = .returned (.int .i64 (if t ≤ s then -1 else 1)) ∧ Below W.heap.size W w' := by
 have hu24 := Try.underlying24
 have HE := Aside0.mk (show extent_end.f e.f0 e.f1 e.f2 e.f3 = some t by unfold extent_end.f; rw [ht])
 have HB0 := Aside0.mk ((Below.refl W.heap.size W).alloc (Nat.le_refl _) (.cells #[.int .i64 e.f0, .int .i64 e.f1, .int .i64 e.f2, .bool e.f3] 24))
 clear ht
 by_cases c : t ≤ s
 ·have cb : decide (t ≤ s) = true := decide_eq_true c
  rw [if_pos c]
  clear c
  go_enter Try.func69, Try.ntmps69
  go_wp2_with (go_at_call 35; refine (extent_end.calls e.f0 e.f1 e.f2 e.f3 t _ HE.out).mono ?_; rintro r w2 ⟨rfl, hb2⟩; have HB2 := Aside0.mk (HB0.out.trans (hb2.mono HB0.out.size)); clear hb2)
  go_ret
  exact ⟨rfl, HB2.out⟩
 ·have cb : decide (t ≤ s) = false := decide_eq_false c
  rw [if_neg c]
  clear c
  go_enter Try.func69, Try.ntmps69
  go_wp2_with (go_at_call 35; refine (extent_end.calls e.f0 e.f1 e.f2 e.f3 t _ HE.out).mono ?_; rintro r w2 ⟨rfl, hb2⟩; have HB2 := Aside0.mk (HB0.out.trans (hb2.mono HB0.out.size)); clear hb2)
  go_ret
  exact ⟨rfl, HB2.out⟩
set_option maxHeartbeats 8000000 in
set_option maxRecDepth 100000 in
theorem bs_calls (k : Nat) (A0 : Option Addr) (c0 : Nat) (l : List S24) (s : Int) (r : Nat) (w : World) (hr0 : Kd.C k24 w A0 l.length l) (hc0 : l.length ≤ c0) (hl : l.length ≤ 60) (hall : ∀ e ∈ l, mayE e = true) (h : bse k l s 0 l.length = some r) :
  Calls Try.prog 68 #[.slice A0 l.length c0, .int .i64 s, .func (.func 69) #[] #[]] w fun e w' => ∃ b, e = .returned (.tuple #[.int .i64 (r : Int), .bool b]) ∧ Below w.heap.size w w' := by
 have HR0 := Aside0.mk hr0
 have HC0 := Aside0.mk hc0
 have HL := Aside0.mk hl
 have HM := Aside0.mk hall
 have HH := Aside0.mk h
 have hi24 := info24
 have hu24 := Try.underlying24
 clear hr0 hc0 hl h hall
 go_enter Try.func68, Try.ntmps68
 go_wp2
 go_loopg [9, 10] k (fun kq v9 v10 w' => ∃ (i j : Nat), v9 = .int .i64 (i : Int) ∧ v10 = .int .i64 (j : Int) ∧ Aside0 (bse kq l s i j = some r) ∧ Aside0 (kq ≤ k ∧ j ≤ l.length ∧ i ≤ l.length) ∧ Aside0 (Below w.heap.size w w'))
 case atStart => exact ⟨0, l.length, rfl, rfl, HH, ⟨Nat.le_refl _, Nat.le_refl _, Nat.zero_le _⟩, ⟨Below.refl _ _⟩⟩
 case round =>
  obtain ⟨i, j, rfl, rfl, HQ, HK, HB⟩ := hrel
  cases gk with
  | zero => exact absurd HQ.out (by intro h_; cases h_)
  | succ g =>
   have hl := HQ.out
   clear HQ
   simp only [bse] at hl
   by_cases hij : i < j
   ·rw [if_pos hij] at hl
    have hijb : decide (i < j) = true := decide_eq_true hij
    obtain ⟨m, hm⟩ : ∃ m, (i + j) / 2 = m := ⟨_, rfl⟩
    rw [hm] at hl
    have hml : m < l.length := by have := HK.out; omega
    have hmi : ((i : Int) + (j : Int)) / 2 = (m : Int) := by omega
    have HIJ := Aside0.mk (show i ≤ m ∧ m < j by omega)
    have hw1 : wrap64 ((i : Int) + (j : Int)) = (i : Int) + (j : Int) := by have := HL.out; have := HK.out; unfold wrap64; omega
    have hw2 : IntKind.u64.wrap ((i : Int) + (j : Int)) = (i : Int) + (j : Int) := by have := HL.out; have := HK.out; simp [IntKind.wrap, IntKind.signed, IntKind.bits]; omega
    have hw3 : wrap64 (m : Int) = (m : Int) := by have := HL.out; unfold wrap64; omega
    have hw4 : wrap64 ((m : Int) + 1) = ((m + 1 : Nat) : Int) := by have := HL.out; unfold wrap64; omega
    have hdv : ((i : Int) + (j : Int)) / 2 ^ (1 : Int).toNat = (m : Int) := hmi
    have hm0 : (0 : Int) ≤ (m : Int) := by omega
    have hml1 : (m : Int) < (l.length : Int) := by omega
    obtain ⟨ad, ead, hca, hcb, hcc, hcd⟩ := at_T24 HR0.out (m : Int) hm0 hml1
    cases ead
    simp only [Int.toNat_natCast] at hca hcb hcc hcd
    replace hca := (HB.out.cell (World.block_lt_of_cell? w _ hca)).trans hca
    replace hcb := (HB.out.cell (World.block_lt_of_cell? w _ hcb)).trans hcb
    replace hcc := (HB.out.cell (World.block_lt_of_cell? w _ hcc)).trans hcc
    replace hcd := (HB.out.cell (World.block_lt_of_cell? w _ hcd)).trans hcd
    have hmay : mayE (rd_T24 l (m : Int)) = true := by rw [rd_in hml]; exact HM.out _ (List.getElem_mem hml)
    obtain ⟨e, he⟩ : ∃ e, e = rd_T24 l (m : Int) := ⟨_, rfl⟩
    rw [← he] at hca hcb hcc hcd hmay hl
    obtain ⟨t, ht⟩ : ∃ t, e.f0 + e.f2 = t := ⟨_, rfl⟩
    rw [ht] at hl
    have HT := Aside0.mk (show wrap64 (e.f0 + e.f2) = t by have := mayE_facts hmay; rw [ht]; unfold wrap64; omega)
    have hmb : decide (m < l.length) = true := decide_eq_true hml
    clear he ht hmay hm hml hij
    by_cases hlt : t ≤ s
    ·rw [if_pos hlt] at hl
     have HLL := Aside0.mk hl
     have hv : (if t ≤ s then (-1 : Int) else 1) = -1 := if_pos hlt
     have HV := Aside0.mk hv
     clear hl hlt hv
     go_wp2_with (go_at_call 69; refine (behind_cmp e s t _ HT.out).mono ?_; rintro r2 w2 ⟨rfl, hb2⟩; rw [HV.out]; have HB2 := Aside0.mk (HB.out.trans (hb2.mono HB.out.size)); clear hb2)
     go_roundg g
     case measure => have := HK.out; omega
     case rel => exact ⟨m + 1, j, by first | (rw [hw4]; done) | (simp; done), rfl, HLL, ⟨by have := HK.out; omega, HK.out.2.1, by have := HK.out; have := HIJ.out; omega⟩, HB2⟩
    ·rw [if_neg hlt] at hl
     have HLL := Aside0.mk hl
     have hv : (if t ≤ s then (-1 : Int) else 1) = 1 := if_neg hlt
     have HV := Aside0.mk hv
     clear hl hlt hv
     go_wp2_with (go_at_call 69; refine (behind_cmp e s t _ HT.out).mono ?_; rintro r2 w2 ⟨rfl, hb2⟩; rw [HV.out]; have HB2 := Aside0.mk (HB.out.trans (hb2.mono HB.out.size)); clear hb2)
     go_roundg g
     case measure => have := HK.out; omega
     case rel => exact ⟨i, m, rfl, rfl, HLL, ⟨by have := HK.out; omega, by have := HK.out; have := HIJ.out; omega, HK.out.2.2⟩, HB2⟩
   ·rw [if_neg hij] at hl
    have hijb : decide (i < j) = false := decide_eq_false hij
    obtain rfl := Option.some.inj hl
    clear hl hij
    have hw3 : wrap64 (i : Int) = (i : Int) := by have := HL.out; have := HK.out; unfold wrap64; omega
    by_cases hil : i < l.length
    ·have hilb : decide (i < l.length) = true := decide_eq_true hil
     have hi0 : (0 : Int) ≤ (i : Int) := by omega
     have hi1 : (i : Int) < (l.length : Int) := by omega
     obtain ⟨ad, ead, hca, hcb, hcc, hcd⟩ := at_T24 HR0.out (i : Int) hi0 hi1
     cases ead
     simp only [Int.toNat_natCast] at hca hcb hcc hcd
     replace hca := (HB.out.cell (World.block_lt_of_cell? w _ hca)).trans hca
     replace hcb := (HB.out.cell (World.block_lt_of_cell? w _ hcb)).trans hcb
     replace hcc := (HB.out.cell (World.block_lt_of_cell? w _ hcc)).trans hcc
     replace hcd := (HB.out.cell (World.block_lt_of_cell? w _ hcd)).trans hcd
     have hmay : mayE (rd_T24 l (i : Int)) = true := by rw [rd_in hil]; exact HM.out _ (List.getElem_mem hil)
     obtain ⟨e, he⟩ : ∃ e, e = rd_T24 l (i : Int) := ⟨_, rfl⟩
     rw [← he] at hca hcb hcc hcd hmay
     obtain ⟨t, ht⟩ : ∃ t, e.f0 + e.f2 = t := ⟨_, rfl⟩
     have HT := Aside0.mk (show wrap64 (e.f0 + e.f2) = t by have := mayE_facts hmay; rw [ht]; unfold wrap64; omega)
     obtain ⟨q, hq⟩ : ∃ q : Int, (if t ≤ s then (-1 : Int) else 1) = q := ⟨_, rfl⟩
     have HV := Aside0.mk hq
     clear he ht hmay hil hq hw3
     go_wp2_with (go_at_call 69; refine (behind_cmp e s t _ HT.out).mono ?_; rintro r2 w2 ⟨rfl, hb2⟩; rw [HV.out]; have HB2 := Aside0.mk (HB.out.trans (hb2.mono HB.out.size)); clear hb2)
     go_ret2
     exact ⟨_, rfl, HB2.out⟩
    ·have hilb : decide (i < l.length) = false := decide_eq_false hil
     clear hil hw3;go_wp2
     go_ret2
     exact ⟨_, rfl, HB.out⟩
end Go.Proofs.Ytopmjjnkolfciaa.Pr
end
section
namespace Go.Proofs.Ytopmjjnkolfciaa.Pr
open Go.RowKit Go.Proofs.YtopmjjnkolfciaaW.PrintWords Go.Proofs.YtopmjjnkolfciaaW.PrintLast Go.Proofs.YtopmjjnkolfciaaW.PrintMore
attribute [local go_sem] max2_int min2_int max_two min_two max_three min_three max_four min_four
attribute [local go_sem] Go.Proofs.Ytopmjjnkolfciaa.Hl.str_geq Go.Proofs.Ytopmjjnkolfciaa.Hl.str_gtr Go.Proofs.Ytopmjjnkolfciaa.Hl.str_leq
set_option linter.unusedVariables false
set_option linter.unusedSimpArgs false
theorem behind_calls (A0 : Option Addr) (c0 : Nat) (l : List S24) (s : Int) (w : World) (hr0 : Kd.C k24 w A0 l.length l) (hc0 : l.length ≤ c0) (hok : l.length ≤ 60 ∧ l.all mayE = true ∧ riseL l) :
  Calls Try.prog 41 #[.slice A0 l.length c0, .int .i64 s] w fun e w' => e = .returned (.int .i64 (behindN l s : Int)) ∧ Below w.heap.size w w' := by
 have hall := List.all_eq_true.1 hok.2.1
 obtain ⟨r, hr⟩ := bse_some l s (l.length + 1) 0 l.length (by omega)
 have he := bse_behind hok.2.2 hall s _ _ _ r hr (Nat.zero_le _) (behindN_le l s) (Nat.le_refl _)
 have HC := Aside0.mk (bs_calls (l.length + 1) A0 c0 l s r w hr0 hc0 hok.1 hall hr)
 rw [← he]
 clear hr0 hc0 hok hall hr he
 go_enter Try.func41, Try.ntmps41
 go_wp2_with (go_at_call 68; refine HC.out.mono ?_; rintro e w2 ⟨b, rfl, hb⟩)
 go_ret
 exact ⟨rfl, hb⟩
end Go.Proofs.Ytopmjjnkolfciaa.Pr
end
section
namespace Go.Proofs.Ytopmjjnkolfciaa.Rw
open Go.RowKit Go.Proofs.YtopmjjnkolfciaaW.PrintWords Go.Proofs.YtopmjjnkolfciaaW.PrintLast Go.Proofs.YtopmjjnkolfciaaW.PrintMore Go.Proofs.Ytopmjjnkolfciaa.Pr
set_option linter.unusedVariables false
set_option linter.unusedSimpArgs false
abbrev E := S24
def cells2 (e : E) : List Value := [.int .i64 e.f0, .int .i64 e.f1, .int .i64 e.f2, .bool e.f3]
def flat (xs : List E) : List Value := xs.flatMap cells2
theorem flat_cons (e : E) (xs : List E) : flat (e :: xs) = cells2 e ++ flat xs := rfl
theorem flat_append (a b : List E) : flat (a ++ b) = flat a ++ flat b := by unfold flat; rw [List.flatMap_append]
theorem flat_len : ∀ xs : List E, (flat xs).length = xs.length * 4
  | [] => rfl
  | e :: xs => by rw [flat_cons, List.length_append, flat_len xs, List.length_cons]; simp [cells2]; omega
theorem flat_take : ∀ (xs : List E) (n : Nat), flat (xs.take n) = (flat xs).take (n * 4)
  | [], n => by simp [flat]
  | e :: xs, 0 => by simp [flat]
  | e :: xs, n + 1 => by
    rw [List.take_succ_cons, flat_cons, flat_cons, flat_take xs n, show (n + 1) * 4 = (cells2 e).length + n * 4 by simp [cells2]; omega, List.take_length_add_append]
theorem flat_drop : ∀ (xs : List E) (n : Nat), flat (xs.drop n) = (flat xs).drop (n * 4)
  | [], n => by simp [flat]
  | e :: xs, 0 => by simp
  | e :: xs, n + 1 => by
    rw [List.drop_succ_cons, flat_cons, flat_drop xs n, show (n + 1) * 4 = (cells2 e).length + n * 4 by simp [cells2]; omega, List.drop_length_add_append]
theorem flat_of : ∀ (xs : List E) (inner : List Value), inner.length = xs.length * 4 → (∀ j p, xs[j]? = some p → (inner.drop (j * 4)).take 4 = cells2 p) → inner = flat xs
  | [], inner, hl, _ => List.eq_nil_of_length_eq_zero (by simpa using hl)
  | e :: xs, inner, hl, h => by
    have h0 := h 0 e rfl
    rw [Nat.zero_mul, List.drop_zero] at h0
    have hr := flat_of xs (inner.drop 4) (by rw [List.length_drop, hl, List.length_cons]; omega) (fun j p hj => by
      have := h (j + 1) p (by simpa using hj)
      rw [List.drop_drop, show 4 + j * 4 = (j + 1) * 4 by omega]
      exact this)
    rw [flat_cons, ← h0, ← hr, List.take_append_drop]
theorem flat_at : ∀ (xs : List E) (j : Nat) (p : E), xs[j]? = some p → ((flat xs).drop (j * 4)).take 4 = cells2 p
  | e :: xs, 0, p, h => by
    simp only [List.getElem?_cons_zero, Option.some.injEq] at h
    subst h
    rw [Nat.zero_mul, List.drop_zero, flat_cons, List.take_append_of_le_length (by simp [cells2]), List.take_of_length_le (by simp [cells2])]
  | e :: xs, j + 1, p, h => by
    rw [← flat_drop, List.drop_succ_cons, flat_drop]
    exact flat_at xs j p (by simpa using h)
theorem flat_one : ∀ (xs : List E), ∀ v ∈ flat xs, v.oneCell' = true := by
  intro xs v hv
  obtain ⟨e, _, h⟩ := List.mem_flatMap.1 hv
  simp only [cells2, List.mem_cons, List.not_mem_nil, or_false] at h
  rcases h with rfl | rfl | rfl | rfl <;> rfl
theorem R_flat {w : World} {base : Nat} {ok : Nat → Prop} {v : Value} {xs : List E} (h : Kd.R k24 24 w base ok v xs) : w.ownsRow base 24 4 v xs.length (flat xs) := by
  obtain ⟨h0, inner, ho, hr⟩ := h
  have : inner = flat xs := flat_of xs inner hr.1 (fun j p hj => k24_openM (hr.2 j p hj))
  rw [← this]; exact ho
theorem flat_R {w : World} {base : Nat} {ok : Nat → Prop} {v : Value} {xs : List E} (ho : w.ownsRow base 24 4 v xs.length (flat xs)) (hok : ∀ k, v.ownBlock = some k → ok k) : Kd.R k24 24 w base ok v xs :=
  ⟨hok, flat xs, ho, flat_len xs, fun j p hj => by rw [show k24.sz = 4 from rfl, flat_at xs j p hj]; exact k24_mkM _ _ _ p⟩
theorem run_copy_cells {P : Program} (w : World) (dT sT ty elem : TypeId) (g o dLen dCap : Nat) (a : Addr) (sLen sCap : Nat) (cur : Array Value) (t : TypeId) (cs : List Value) (n sz : Nat)
    (hu : P.underlying dT = some (.slice elem)) (hs : (P.info? elem).map (·.size) = some sz)
    (hg : w.heap[g]? = some (.cells cur t (0, 0))) (hn : n = Nat.min sLen dLen) (hcl : cs.length = n * sz)
    (hsrc : ∀ j v, cs[j]? = some v → w.cell? (a.add j) = some v) (hfit : o + cs.length ≤ cur.size) (h1 : ∀ v ∈ cs, v.oneCell' = true) :
    (Builtin.copy_ #[dT, sT] ty #[.slice (some ⟨g, o, none⟩) dLen dCap, .slice (some a) sLen sCap]).run P w =
      .ok (goInt n) (w.setRow g (cur.toList.take o ++ cs ++ cur.toList.drop (o + cs.length)).toArray) := by
  have hl := run_loadCells_list (P := P) w a cs hsrc
  have hst := run_storeCells_at P g o t cs 0 cur w hg (by simpa using hfit) h1
  cases hq : P.info? elem with
  | none => simp [hq] at hs
  | some i =>
    have hi : i.size = sz := by simpa [hq] using hs
    rw [hcl] at hl
    simp [Builtin.copy_, run_underlying hu, Builtin.lenOf, Builtin.firstCells, sizeOf, typeInfo, hq, hi, ← hn, hl, hst]
section
variable {P : Program} {ops : Array Oper} {rest : List Oper} {o : Oper} {a : Act} {Q : Exit → Act → World → Prop} {Kc : Act → World → Prop}
theorem copy_step (w : World) (hw : Region.wanted o (yielded ops a.tmps) = true) (d s : Operand) (t t' : TypeId) (ho : o.op = .call { callee := .builtin .copy, args := #[d, s], argTypes := #[t, t'] }) (v u : Value) (hd : a.eval d = v) (hs : a.eval s = u) {v' : Value} {w' : World}
    (hr : (Builtin.copy_ #[t, t'] o.type #[v, u]).run P w = .ok v' w') (h : Kc (a.put o.dst v') w') : if Region.wanted o (yielded ops a.tmps) = true then Oper.wp P o a w Kc Q else Kc (a.put o.dst undef) w := by
  rw [if_pos hw]
  unfold Oper.wp execOp
  simp only [ho, resolve, invoke, builtin, Sem.run_bind, Sem.run_pure, Result.andThen_ok, List.map_toArray, List.map_cons, List.map_nil, hd, hs, hr]
  exact h
theorem append_ev (w : World) (hgd : o.guard = none) (d s : Operand) (t t' : TypeId) (ho : o.op = .call { callee := .builtin .append, args := #[d, s], argTypes := #[t, t'] }) (v u : Value) (hd : a.eval d = v) (hs : a.eval s = u) {v' : Value} {w' : World}
    (hr : (Builtin.append_ #[t, t'] o.type #[v, u]).run P w = .ok v' w') (h : wpList P ops Q rest (a.put o.dst v') w') : wpList P ops Q (o :: rest) a w := by
  refine wpList_plain hgd fun K hK => ?_
  unfold Oper.wp execOp
  simp only [ho, resolve, invoke, builtin, Sem.run_bind, Sem.run_pure, Result.andThen_ok, List.map_toArray, List.map_cons, List.map_nil, hd, hs, hr]
  exact hK _ _ h
end
theorem own_open {w : World} {base : Nat} {v : Value} {n : Nat} {cs : List Value} {e sz : Nat} (ho : w.ownsRow base e sz v n cs) (hp : 0 < n) :
    ∃ g cap cur, v = .slice (some ⟨g, 0, none⟩) n cap ∧ base ≤ g ∧ w.heap[g]? = some (.cells cur e (0, 0)) ∧ n ≤ cap ∧ cap ≤ maxLen ∧ cur.size = cap * sz ∧ cur.toList.take (n * sz) = cs := by
  rcases ho.2 with ⟨_, h0⟩ | h
  · omega
  · exact h
theorem below_turn {B g : Nat} {w0 w : World} (hb : Below B w0 w) (hBg : B ≤ g) (cs : Array Value) : Below B w0 (w.setRow g cs) :=
  hb.trans ⟨rfl, rfl, rfl, by simp [World.setRow], fun k hk => setRow_other w g k cs (by omega)⟩
theorem zero_len (q : Nat) : (Builtin.zeroCells (Value.agg #[(.int .i64 0), (.int .i64 0), (.int .i64 0), (.bool false)]).cells q).size = q * 4 := by simp [Builtin.zeroCells, Value.cells]
end Go.Proofs.Ytopmjjnkolfciaa.Rw
end
section
namespace Go.Proofs.Ytopmjjnkolfciaa.Pr
open Go.RowKit Go.Proofs.YtopmjjnkolfciaaW.PrintWords Go.Proofs.YtopmjjnkolfciaaW.PrintLast Go.Proofs.YtopmjjnkolfciaaW.PrintMore
attribute [local go_sem] max2_int min2_int max_two min_two max_three min_three max_four min_four
attribute [local go_sem] Go.Proofs.Ytopmjjnkolfciaa.Hl.str_geq Go.Proofs.Ytopmjjnkolfciaa.Hl.str_gtr Go.Proofs.Ytopmjjnkolfciaa.Hl.str_leq
set_option linter.unusedVariables false
set_option linter.unusedSimpArgs false
theorem ins_row (W : World) (vb : Nat) (p : S24) (hV : W.heap[vb]? = some (.cells #[.int .i64 p.f0, .int .i64 p.f1, .int .i64 p.f2, .bool p.f3] 24 (0, 0))) : Kd.C k24 W (some ⟨vb, 0, none⟩) 1 [p] := by
 refine ⟨rfl, by simp, fun _ => ⟨_, rfl, fun j q hj => ?_⟩⟩
 cases j with
 | zero =>
  simp only [List.getElem?_cons_zero, Option.some.injEq] at hj
  subst hj
  refine ⟨[.int .i64 p.f0, .int .i64 p.f1, .int .i64 p.f2, .bool p.f3], rfl, k24_mk _ p, fun i u hu => ?_⟩
  rw [add_plain]
  have e : 0 * k24.sz + i = i := by rw [show k24.sz = 4 from rfl]; omega
  rw [e, blk_cell hV i]
  simpa using hu
 | succ j => simp at hj
def flat2 (xs : List S24) (i : Nat) : List Value := (Rw.flat xs).drop (i * 4)
set_option maxHeartbeats 8000000 in
set_option maxRecDepth 100000 in
theorem ins_calls (W : World) (base : Nat) (v : Value) (xs : List S24) (p : S24) (vb i n : Nat) (hn : xs.length = n) (hO : Kd.R k24 24 W base (fun _ => True) v xs) (hV : W.heap[vb]? = some (.cells #[.int .i64 p.f0, .int .i64 p.f1, .int .i64 p.f2, .bool p.f3] 24 (0, 0)))
  (hne : ∀ g, v.ownBlock = some g → g ≠ vb) (hbase : base ≤ W.heap.size) (hi : i ≤ n) (hl : n < 4398046511103) :
  Calls Try.prog 42 #[v, .int .i64 i, .slice (some ⟨vb, 0, none⟩) 1 1] W fun e w' => ∃ v', e = .returned v' ∧ Kd.R k24 24 w' base (fun _ => True) v' (xs.take i ++ p :: xs.drop i) ∧ Below base W w' := by
 have hw : ∀ z : Int, 0 ≤ z → z < 9223372036854775807 → wrap64 z = z := fun z _ _ => by unfold wrap64; omega
 have hu26 := Try.underlying24
 have hi26 := info24
 obtain ⟨A, c, rfl⟩ := Kd.R_slice hO
 rw [hn] at hO
 by_cases hin : i = n
 ·subst hin
  have HO := Aside0.mk hO
  have HL := Aside0.mk hl
  have HN := Aside0.mk hn
  have hCV := Aside0.mk (ins_row W vb p hV)
  have h0 : (0 : Int) ≤ (i : Int) := by omega
  have h1 : (i : Int) ≤ (i : Int) := by omega
  rw [hn]
  clear hO hl hn hV hne hw
  cases A with
  | none =>
   obtain ⟨rfl, rfl⟩ : i = 0 ∧ c = 0 := by
    rcases (Rw.R_flat HO.out).2 with ⟨h, _⟩ | ⟨g', c', cur', h, _⟩
    ·injection h with h1 h2 h3
     exact ⟨h2, h3⟩
    ·cases h
   go_enter Try.func42, Try.ntmps42
   go_wp2_with ((with_reducible refine gate_builtin (b := .append) (xs := #[.tmp 23, .tmp 24]) rfl ?_); at_builtin; refine Kd.R_append_rows k24 (w0 := W) base rfl (.tmp 23) (.tmp 24) 22 24 (.agg #[(.int .i64 0), (.int .i64 0), (.int .i64 0), (.bool false)]) 32 rfl Try.underlying22 info24 rfl (by decide) (by omega) _ xs [p] _ _ _ (fun _ => True) (fun _ => False) rfl rfl HO.out hCV.out (fun _ _ h => h) (fun _ h => h.elim) (fun _ _ => trivial) (Below.refl _ _) hbase (by have := HL.out; have := HN.out; omega) ?_; intro v2 w2 ho2 hb2 hg2 hat2; have HO2 := Aside0.mk ho2; have HB2 := Aside0.mk hb2; clear ho2 hb2 hg2 hat2)
   go_ret
   have e1 : ∀ j, xs.length = j → xs.take j ++ p :: xs.drop j = xs ++ [p] := fun j h => by rw [List.take_of_length_le (by omega), List.drop_of_length_le (by omega)]
   rw [e1 _ HN.out]
   exact ⟨_, rfl, HO2.out, HB2.out⟩
  | some ad =>
   by_cases hci : c = i
   ·subst hci
    go_enter Try.func42, Try.ntmps42
    go_wp2_with ((with_reducible refine gate_builtin (b := .append) (xs := #[.tmp 23, .tmp 24]) rfl ?_); at_builtin; refine Kd.R_append_rows k24 (w0 := W) base rfl (.tmp 23) (.tmp 24) 22 24 (.agg #[(.int .i64 0), (.int .i64 0), (.int .i64 0), (.bool false)]) 32 rfl Try.underlying22 info24 rfl (by decide) (by omega) _ xs [p] _ _ _ (fun _ => True) (fun _ => False) rfl rfl HO.out hCV.out (fun _ _ h => h) (fun _ h => h.elim) (fun _ _ => trivial) (Below.refl _ _) hbase (by have := HL.out; have := HN.out; omega) ?_; intro v2 w2 ho2 hb2 hg2 hat2; have HO2 := Aside0.mk ho2; have HB2 := Aside0.mk hb2; clear ho2 hb2 hg2 hat2)
    go_ret
    have e1 : ∀ j, xs.length = j → xs.take j ++ p :: xs.drop j = xs ++ [p] := fun j h => by rw [List.take_of_length_le (by omega), List.drop_of_length_le (by omega)]
    rw [e1 _ HN.out]
    exact ⟨_, rfl, HO2.out, HB2.out⟩
   ·skip
    go_enter Try.func42, Try.ntmps42
    go_wp2_with ((with_reducible refine gate_builtin (b := .append) (xs := #[.tmp 23, .tmp 24]) rfl ?_); at_builtin; refine Kd.R_append_rows k24 (w0 := W) base rfl (.tmp 23) (.tmp 24) 22 24 (.agg #[(.int .i64 0), (.int .i64 0), (.int .i64 0), (.bool false)]) 32 rfl Try.underlying22 info24 rfl (by decide) (by omega) _ xs [p] _ _ _ (fun _ => True) (fun _ => False) rfl rfl HO.out hCV.out (fun _ _ h => h) (fun _ h => h.elim) (fun _ _ => trivial) (Below.refl _ _) hbase (by have := HL.out; have := HN.out; omega) ?_; intro v2 w2 ho2 hb2 hg2 hat2; have HO2 := Aside0.mk ho2; have HB2 := Aside0.mk hb2; clear ho2 hb2 hg2 hat2)
    go_ret
    have e1 : ∀ j, xs.length = j → xs.take j ++ p :: xs.drop j = xs ++ [p] := fun j h => by rw [List.take_of_length_le (by omega), List.drop_of_length_le (by omega)]
    rw [e1 _ HN.out]
    exact ⟨_, rfl, HO2.out, HB2.out⟩
 ·have hlt : i < n := by omega
  have hp0 : 0 < xs.length := by omega
  have h0 : (0 : Int) ≤ (i : Int) := by omega
  have h1 : (i : Int) ≤ (n : Int) := by omega
  have hne1 : ((i : Int) == (n : Int)) = false := beq_eq_false_iff_ne.2 (by omega)
  have hn63 : (n : Int) + 1 < 9223372036854775807 := by omega
  have hi63 : (i : Int) + 1 < 9223372036854775807 := by omega
  have HW1 := Aside0.mk (hw ((n : Int) + 1) (by omega) hn63)
  have HW3 := Aside0.mk (hw ((i : Int) + 1) (by omega) hi63)
  have hXl : (flat2 xs i).length = (n - i) * 4 := by unfold flat2; rw [List.length_drop, Rw.flat_len, hn]; omega
  have hflen : (xs.take i ++ p :: xs.drop i).length = n + 1 := by rw [List.length_append, List.length_cons, List.length_take, List.length_drop, hn]; omega
  have HW4 := Aside0.mk ((hw ((n : Int) + 1 - (i : Int)) (by omega) (by omega)).trans (by omega : (n : Int) + 1 - (i : Int) = ((n + 1 - i : Nat) : Int)))
  clear hw hn63 hi63
  obtain ⟨g, c', cur, hv, hbg, hg, hnc, hcm, hcs, htk⟩ := Rw.own_open (Rw.R_flat hO) hp0
  have HCM := Aside0.mk hcm
  clear hcm
  injection hv with hv1 hv2 hv3
  subst hv1
  subst hv3
  clear hv2
  rw [hn] at hnc htk ⊢
  have hgv : g ≠ vb := hne g rfl
  have hglt : g < W.heap.size := blk_lt hg
  have hvlt : vb < W.heap.size := blk_lt hV
  have hcl : cur.toList.length = c * 4 := by rw [Array.length_toList, hcs]
  have hci : ¬ (c = i) := fun e => absurd hlt (by rw [← e]; exact Nat.not_lt.2 hnc)
  have hcells : ∀ j u, (flat2 xs i)[j]? = some u → W.cell? ⟨g, i * 4 + j, none⟩ = some u := by
   intro j u hj
   rw [blk_cell hg, ← Array.getElem?_toList]
   unfold flat2 at hj
   rw [List.getElem?_drop, ← htk, List.getElem?_take] at hj
   split at hj
   ·exact hj
   ·cases hj
  have hadd : ∀ b o j : Nat, (⟨b, o, none⟩ : Addr).add j = ⟨b, o + j, none⟩ := fun b o j => by unfold Addr.add; split <;> simp_all
  have hfl1 : ∀ v ∈ flat2 xs i, v.oneCell' = true := fun v hv => Rw.flat_one xs v (List.mem_of_mem_drop hv)
  have hpl1 : ∀ v ∈ Rw.cells2 p, v.oneCell' = true := by intro v hv; simp only [Rw.cells2, List.mem_cons, List.not_mem_nil, or_false] at hv; rcases hv with rfl | rfl | rfl | rfl <;> rfl
  have hfin : Rw.flat (xs.take i ++ p :: xs.drop i) = (Rw.flat xs).take (i * 4) ++ Rw.cells2 p ++ flat2 xs i := by
   rw [Rw.flat_append, Rw.flat_cons, Rw.flat_take, Rw.flat_drop, ← List.append_assoc]; rfl
  by_cases hcap : (n : Int) + 1 > (c : Int)
  ·
   obtain ⟨i0, hi0, hz3⟩ := Option.map_eq_some_iff.1 info24
   simp only [Prod.mk.injEq] at hz3
   obtain ⟨kk, hkk⟩ : ∃ kk, kk = n + 1 - i := ⟨_, rfl⟩
   have hol : ((Rw.flat xs).take (i * 4)).length = i * 4 := by rw [List.length_take, Rw.flat_len, hn]; omega
   have hocell : ∀ j u, ((Rw.flat xs).take (i * 4))[j]? = some u → W.cell? ⟨g, 0 + j, none⟩ = some u := by
    intro j u hj
    rw [Nat.zero_add, blk_cell hg, ← Array.getElem?_toList]
    rw [List.getElem?_take] at hj
    split at hj
    ·rw [← htk, List.getElem?_take] at hj
     split at hj
     ·exact hj
     ·cases hj
    ·cases hj
   have hap := Lib.run_append_grow_zeros (P := Try.prog) W 22 3 22 24 i0 (.agg #[(.int .i64 0), (.int .i64 0), (.int .i64 0), (.bool false)]) .i64 .i64 Try.underlying22 Try.underlying3 hi0 hz3.1 (some ⟨g, 0, none⟩) i c ((Rw.flat xs).take (i * 4)) (by
     have h := run_loadCells_list (P := Try.prog) W.drew ⟨g, 0, none⟩ ((Rw.flat xs).take (i * 4)) (fun j u hj => by rw [hadd]; exact hocell j u hj)
     rw [hol] at h
     rw [hz3.2.1]
     exact h) kk (by omega) (by rw [hz3.2.1]; decide) (by omega) (by omega) (by rw [hz3.2.2]; omega) (by rw [hz3.2.2]; exact growslice_fits_wide (by omega) (by omega))
   have hsum : i + kk = n + 1 := by omega
   rw [hsum] at hap
   obtain ⟨C2, hC2⟩ : ∃ C2, C2 = grownCap W (n + 1) c 24 := ⟨_, rfl⟩
   have hC2n : n + 1 ≤ C2 := by rw [hC2]; exact grownCap_ge _ _ _ _
   have hC2m : C2 ≤ maxLen := by rw [hC2]; exact grownCap_le_maxLen _ _ _ _ (by unfold maxLen; omega)
   rw [← hC2] at hap
   obtain ⟨N0, hN0⟩ : ∃ N0 : Array Value, N0 = ((Rw.flat xs).take (i * 4)).toArray ++ Builtin.zeroCells (Value.agg #[(.int .i64 0), (.int .i64 0), (.int .i64 0), (.bool false)]).cells kk ++ Builtin.zeroCells (Value.agg #[(.int .i64 0), (.int .i64 0), (.int .i64 0), (.bool false)]).cells (C2 - (n + 1)) := ⟨_, rfl⟩
   rw [← hN0] at hap
   have hN0s : N0.size = C2 * 4 := by rw [hN0, Array.size_append, Array.size_append, List.size_toArray, hol, Rw.zero_len, Rw.zero_len]; omega
   have hN0l : N0.toList.length = C2 * 4 := by rw [Array.length_toList, hN0s]
   have hN0t : N0.toList.take (i * 4) = (Rw.flat xs).take (i * 4) := by
    rw [hN0, Array.toList_append, Array.toList_append, List.toList_toArray, List.append_assoc, List.take_append_of_le_length (by rw [hol]; exact Nat.le_refl _), List.take_of_length_le (by rw [hol]; exact Nat.le_refl _)]
   have hb0 : (W.alloc (.cells N0 24)).drew.heap[W.heap.size]? = some (.cells N0 24 (0, 0)) := blk_drew (blk_new W _)
   have hl2 : (Rw.cells2 p).length = 4 := rfl
   obtain ⟨N1, hN1⟩ : ∃ N1 : Array Value, N1 = (N0.toList.take (i * 4) ++ Rw.cells2 p ++ N0.toList.drop (i * 4 + (Rw.cells2 p).length)).toArray := ⟨_, rfl⟩
   have hN1s : N1.size = C2 * 4 := by rw [hN1]; simp only [List.size_toArray, List.length_append, List.length_take, List.length_drop, hN0l, hl2]; omega
   have hN1l : N1.toList.length = C2 * 4 := by rw [Array.length_toList, hN1s]
   have hr1 := Rw.run_copy_cells (P := Try.prog) (W.alloc (.cells N0 24)).drew 22 22 3 24 W.heap.size (i * 4) (n + 1 - i) (C2 - i) ⟨vb, 0, none⟩ 1 1 N0 24 (Rw.cells2 p) 1 4 Try.underlying22 (by kernel_rfl) hb0 (by show 1 = min _ _; omega) rfl (fun j u hj => by
     rw [hadd, Nat.zero_add, blk_cell (blk_drew (blk_alloc hV _))]
     simpa [Rw.cells2] using hj) (by rw [hN0s, hl2]; omega) hpl1
   rw [← hN1] at hr1
   obtain ⟨N2, hN2⟩ : ∃ N2 : Array Value, N2 = (N1.toList.take ((i + 1) * 4) ++ flat2 xs i ++ N1.toList.drop ((i + 1) * 4 + (flat2 xs i).length)).toArray := ⟨_, rfl⟩
   have hN2s : N2.size = C2 * 4 := by rw [hN2]; simp only [List.size_toArray, List.length_append, List.length_take, List.length_drop, hN1l, hXl]; omega
   have hgne : g ≠ W.heap.size := by omega
   have hb1 : ((W.alloc (.cells N0 24)).drew.setRow W.heap.size N1).heap[W.heap.size]? = some (.cells N1 24 (0, 0)) := setRow_heap _ _ N0 _ 24 (0, 0) hb0
   have hg1 : ((W.alloc (.cells N0 24)).drew.setRow W.heap.size N1).heap[g]? = some (.cells cur 24 (0, 0)) := by
    rw [setRow_other _ _ _ _ hgne]; exact blk_drew (blk_alloc hg _)
   have hr2 := Rw.run_copy_cells (P := Try.prog) ((W.alloc (.cells N0 24)).drew.setRow W.heap.size N1).drew 22 22 3 24 W.heap.size ((i + 1) * 4) (n - i) (C2 - (i + 1)) ⟨g, i * 4, none⟩ (n - i) (c - i) N1 24 (flat2 xs i) (n - i) 4 Try.underlying22 (by kernel_rfl) (blk_drew hb1) (by show n - i = min _ _; omega) hXl (fun j u hj => by
     rw [hadd, blk_cell (blk_drew hg1), ← blk_cell hg]
     exact hcells j u hj) (by rw [hN1s, hXl]; omega) hfl1
   rw [← hN2] at hr2
   have e1 : N1.toList.take ((i + 1) * 4) = (Rw.flat xs).take (i * 4) ++ Rw.cells2 p := by
    have hl3 : ((Rw.flat xs).take (i * 4) ++ Rw.cells2 p).length = (i + 1) * 4 := by rw [List.length_append, hol, hl2]; omega
    rw [hN1, List.toList_toArray, hN0t, ← hl3, List.take_left]
   have hNew : N2.toList.take ((n + 1) * 4) = Rw.flat (xs.take i ++ p :: xs.drop i) := by
    have hln : ((Rw.flat xs).take (i * 4) ++ Rw.cells2 p ++ flat2 xs i).length = (n + 1) * 4 := by
     rw [List.length_append, List.length_append, hol, hXl, hl2]; omega
    rw [hN2, List.toList_toArray, e1, hfin, ← hln, List.take_left]
   have HFR := Aside0.mk (Rw.flat_R (w := ((W.alloc (.cells N0 24)).drew.setRow W.heap.size N1).drew.setRow W.heap.size N2) (base := base) (ok := fun _ => True) (v := .slice (some ⟨W.heap.size, 0, none⟩) (n + 1) C2) (xs := xs.take i ++ p :: xs.drop i) ⟨Rw.flat_len _, .inr ⟨W.heap.size, C2, N2, by rw [hflen], hbase, setRow_heap _ _ N1 _ 24 (0, 0) (blk_drew hb1), by rw [hflen]; exact hC2n, hC2m, hN2s, by rw [hflen]; exact hNew⟩⟩ (fun _ _ => trivial))
   have HBE := Aside0.mk (Rw.below_turn (below_drew1 (Rw.below_turn (below_drew1 ((Below.refl base W).alloc hbase (.cells N0 24))) hbase N1)) hbase N2)
   have hcb : decide ((c : Int) < (n : Int) + 1) = true := decide_eq_true (by omega)
   have hci2 : ¬ (C2 = i) := by omega
   have hci3 : ¬ (C2 = i + 1) := by omega
   have hic : i ≤ c := by omega
   have g3 : (0 : Int) ≤ (i : Int) + 1 := by omega
   have g4 : ((i : Int) + 1).toNat = i + 1 := by omega
   have g5 : (i : Int) + 1 ≤ (n : Int) + 1 := by omega
   have g6 : i ≤ n + 1 := by omega
   have g12 : (i : Int) ≤ (n : Int) + 1 := by omega
   have g8 := HW1.out
   have g9 := HW3.out
   have g13' : wrap64 ((n : Int) + 1 - (i : Int)) = (kk : Int) := by rw [hkk]; exact HW4.out
   have G13 := Aside0.mk g13'
   clear g13'
   have G11 := Aside0.mk hr2
   have HAP := Aside0.mk hap
   clear hap hr2 e1 hNew hN0 hN1 hN2 hN0s hN1s hN2s hN0l hN1l hN0t hb0 hb1 hg1 hgne hl2 hcap hfin hflen hXl hfl1 hpl1 hadd hcells hcl hcs htk hg hV hO hne hl hlt hp0 hi hn hin hnc hglt hvlt hgv hbg hC2 hC2n hC2m hsum hkk hol hocell hi0 hz3
   go_enter Try.func42, Try.ntmps42
   go_wp2_with ((with_reducible refine gate_builtin (b := .append) (xs := #[.tmp 34, .tmp 39]) rfl ?_); at_builtin; refine Rw.append_ev W rfl (.tmp 34) (.tmp 39) 22 3 rfl (.slice (some ⟨g, 0, none⟩) i c) (.int .i64 (kk : Int)) rfl (congrArg (Value.int .i64) G13.out) HAP.out ?_)
   refine start_ (n := 9) (S := fun w' => True) (ds := []) #[false, false, false, false, false, false, false, false, false] (by kernel_rfl) rfl rfl trivial (fun hHeld => ?_)
   refine pure_ (i := 0) (N := some 46) (v := ?_) (a' := ?_) #[true, false, false, false, false, false, false, false, false] rfl rfl (by kernel_rfl) (fun _ _ _ h => h) (Or.inl ⟨by rfl, ?_⟩) ?_ ?_;rotate_left;(intro w';go_simp;with_reducible rfl);rotate_left;(simp only [Act.put, sIb, sC0, sCs, i64_w, i32_w];rfl);refine pure_ (i := 1) (N := some 47) (v := ?_) (a' := ?_) #[true, true, false, false, false, false, false, false, false] rfl rfl (by kernel_rfl) (fun _ _ _ h => h) (Or.inl ⟨by rfl, ?_⟩) ?_ ?_;rotate_left;(intro w';go_simp;with_reducible rfl);rotate_left;(simp only [Act.put, sIb, sC0, sCs, i64_w, i32_w];rfl);refine pure_ (i := 2) (N := some 48) (v := ?_) (a' := ?_) #[true, true, true, false, false, false, false, false, false] rfl rfl (by kernel_rfl) (fun _ _ _ h => h) (Or.inl ⟨by rfl, ?_⟩) ?_ ?_;rotate_left;(intro w';go_simp;with_reducible rfl);rotate_left;(simp only [Act.put, sIb, sC0, sCs, i64_w, i32_w];rfl);refine pure_ (i := 3) (N := some 49) (v := ?_) (a' := ?_) #[true, true, true, true, false, false, false, false, false] rfl rfl (by kernel_rfl) (fun _ _ _ h => h) (Or.inl ⟨by rfl, ?_⟩) ?_ ?_;rotate_left;(intro w';go_simp;with_reducible rfl);rotate_left;(simp only [Act.put, sIb, sC0, sCs, i64_w, i32_w];rfl);refine pure_ (i := 4) (N := some 50) (v := ?_) (a' := ?_) #[true, true, true, true, true, false, false, false, false] rfl rfl (by kernel_rfl) (fun _ _ _ h => h) (Or.inl ⟨by rfl, ?_⟩) ?_ ?_;rotate_left;(intro w';go_simp;with_reducible rfl);rotate_left;(simp only [Act.put, sIb, sC0, sCs, i64_w, i32_w];rfl);refine pure_ (i := 5) (N := some 51) (v := ?_) (a' := ?_) #[true, true, true, true, true, true, false, false, false] rfl rfl (by kernel_rfl) (fun _ _ _ h => h) (Or.inl ⟨by rfl, ?_⟩) ?_ ?_;rotate_left;(intro w';go_simp;with_reducible rfl);rotate_left;(simp only [Act.put, sIb, sC0, sCs, i64_w, i32_w];rfl);refine pure_ (i := 6) (N := some 52) (v := ?_) (a' := ?_) #[true, true, true, true, true, true, true, false, false] rfl rfl (by kernel_rfl) (fun _ _ _ h => h) (Or.inl ⟨by rfl, ?_⟩) ?_ ?_;rotate_left;(intro w';go_simp;with_reducible rfl);rotate_left;(simp only [Act.put, sIb, sC0, sCs, i64_w, i32_w];rfl);refine pure_ (i := 7) (N := some 53) (v := ?_) (a' := ?_) #[true, true, true, true, true, true, true, true, false] rfl rfl (by kernel_rfl) (fun _ _ _ h => h) (Or.inl ⟨by rfl, ?_⟩) ?_ ?_;rotate_left;(intro w';go_simp;with_reducible rfl);rotate_left;(simp only [Act.put, sIb, sC0, sCs, i64_w, i32_w];rfl)
   refine one_ (i := 8) (N := some 54) #[true, true, true, true, true, true, true, true, true] rfl rfl (by kernel_rfl) (by decide) (fun K hK => ?_)
   refine Rw.copy_step ((W.alloc (.cells N0 24)).drew.setRow W.heap.size N1).drew (by rfl) (.tmp 50) (.tmp 53) 22 22 rfl (.slice (some ⟨W.heap.size, (i + 1) * 4, none⟩) (n - i) (C2 - (i + 1))) (.slice (some ⟨g, i * 4, none⟩) (n - i) (c - i)) rfl rfl (v' := goInt ((n - i : Nat) : Int)) (w' := ((W.alloc (.cells N0 24)).drew.setRow W.heap.size N1).drew.setRow W.heap.size N2) G11.out ?_
   refine hK.out _ _ trivial (fun hHeld => ?_)
   clear hK K;refine norm_ (a' := ?_) ?_ ?_;rotate_left
   ·show Act.put _ (some 54) _ = _
    simp only [Act.put, sIb, sC0, sCs, i64_w, i32_w];rfl
   refine done_ (by kernel_rfl) ?_
   go_wp2;go_ret
   exact ⟨_, rfl, HFR.out, HBE.out⟩
  ·have hcap' : n + 1 ≤ c := by omega
   obtain ⟨N1, hN1⟩ : ∃ N1 : Array Value, N1 = (cur.toList.take ((i + 1) * 4) ++ flat2 xs i ++ cur.toList.drop ((i + 1) * 4 + (flat2 xs i).length)).toArray := ⟨_, rfl⟩
   have hN1s : N1.size = cur.size := by rw [hN1]; simp only [List.size_toArray, List.length_append, List.length_take, List.length_drop, hXl, hcl, hcs]; omega
   have hN1l : N1.toList.length = c * 4 := by rw [Array.length_toList, hN1s, hcs]
   have hr1 : ∀ W2 : World, W2.heap = W.heap → ∀ c1 c2, (Builtin.copy_ #[22, 22] 3 #[.slice (some ⟨g, (i + 1) * 4, none⟩) (n - i) c1, .slice (some ⟨g, i * 4, none⟩) (n + 1 - i) c2]).run Try.prog W2 = .ok (goInt ((n - i : Nat) : Int)) (W2.setRow g N1) := by
    intro W2 hW2 c1 c2
    have h := Rw.run_copy_cells (P := Try.prog) W2 22 22 3 24 g ((i + 1) * 4) (n - i) c1 ⟨g, i * 4, none⟩ (n + 1 - i) c2 cur 24 (flat2 xs i) (n - i) 4 Try.underlying22 (by kernel_rfl) (by rw [hW2]; exact hg) (by show n - i = min _ _; omega) hXl (fun j u hj => by
     rw [hadd]
     have := hcells j u hj
     unfold World.cell? at this ⊢
     rw [hW2]; exact this) (by rw [hXl, hcs]; omega) hfl1
    rw [← hN1] at h
    exact h
   obtain ⟨N2, hN2⟩ : ∃ N2 : Array Value, N2 = (N1.toList.take (i * 4) ++ Rw.cells2 p ++ N1.toList.drop (i * 4 + (Rw.cells2 p).length)).toArray := ⟨_, rfl⟩
   have hN2s : N2.size = cur.size := by rw [hN2]; simp only [List.size_toArray, List.length_append, List.length_take, List.length_drop, hN1l, hcs]; simp only [Rw.cells2, List.length_cons, List.length_nil]; omega
   have hr2 : ∀ W2 : World, W2.heap = W.heap → ∀ c1, (Builtin.copy_ #[22, 22] 3 #[.slice (some ⟨g, i * 4, none⟩) (n + 1 - i) c1, .slice (some ⟨vb, 0, none⟩) 1 1]).run Try.prog (W2.setRow g N1) = .ok (goInt 1) ((W2.setRow g N1).setRow g N2) := by
    intro W2 hW2 c1
    have h := Rw.run_copy_cells (P := Try.prog) (W2.setRow g N1) 22 22 3 24 g (i * 4) (n + 1 - i) c1 ⟨vb, 0, none⟩ 1 1 N1 24 (Rw.cells2 p) 1 4 Try.underlying22 (by kernel_rfl) (setRow_heap _ _ cur _ 24 (0, 0) (by rw [hW2]; exact hg)) (by show 1 = min _ _; omega) rfl (fun j u hj => by
     rw [hadd]
     have hv2 : (W2.setRow g N1).heap[vb]? = some (.cells #[.int .i64 p.f0, .int .i64 p.f1, .int .i64 p.f2, .bool p.f3] 24 (0, 0)) := by rw [setRow_other _ _ _ _ (fun e => hgv e.symm), hW2]; exact hV
     rw [Nat.zero_add, blk_cell hv2]
     simpa [Rw.cells2] using hj) (by rw [hN1s, hcs]; simp only [Rw.cells2, List.length_cons, List.length_nil]; omega) hpl1
    rw [← hN2] at h
    exact h
   have e1 : N1.toList.take (i * 4) = (Rw.flat xs).take (i * 4) := by
    rw [hN1, List.toList_toArray, List.append_assoc, List.take_append_of_le_length (by rw [List.length_take, hcl]; omega), List.take_take, Nat.min_eq_left (by omega), ← htk, List.take_take, Nat.min_eq_left (by omega)]
   have e2 : N1.toList.drop (i * 4 + 4) = flat2 xs i ++ cur.toList.drop ((i + 1) * 4 + (flat2 xs i).length) := by
    have hl2 : (cur.toList.take ((i + 1) * 4)).length = i * 4 + 4 := by rw [List.length_take, hcl]; omega
    rw [hN1, List.toList_toArray, List.append_assoc, ← hl2, List.drop_left]
   have hNew : N2.toList.take ((n + 1) * 4) = Rw.flat (xs.take i ++ p :: xs.drop i) := by
    have hln : ((Rw.flat xs).take (i * 4) ++ Rw.cells2 p ++ flat2 xs i).length = (n + 1) * 4 := by
     rw [List.length_append, List.length_append, List.length_take, Rw.flat_len, hXl, hn, show (Rw.cells2 p).length = 4 from rfl]; omega
    rw [hN2, List.toList_toArray, e1, show (Rw.cells2 p).length = 4 from rfl, e2, ← List.append_assoc, hfin, ← hln, List.take_left]
   have hov : ∀ lb cb, (callFunc 70 #[.slice (some ⟨vb, 0, none⟩) 1 1, .slice (some ⟨g, (i + 1) * 4, none⟩) lb cb]).run Try.prog W = .ok (.value (.bool false)) W := fun lb cb => by
    rw [run_callFunc_extern Try.func70 (by kernel_rfl) (by kernel_rfl) (by kernel_rfl) (e := Extern.SlicesOverlaps.overlaps #[22, 22] #[4]) (by kernel_rfl),
     Lib.run_overlaps_apart W 22 4 24 Try.underlying22 4 Try.sizeOf24 ⟨vb, 0, none⟩ ⟨g, (i + 1) * 4, none⟩ 1 1 lb cb (fun e => hgv e.symm) 24 24 4 cur.size (by simp [World.shape?, hV]) (by simp [World.shape?, hg]) (by rw [hcs]; omega) (blk_frozen hV 0) (blk_frozen hV 4)]
    rfl
   have HFR := Aside0.mk (Rw.flat_R (w := (W.drew.setRow g N1).setRow g N2) (base := base) (ok := fun _ => True) (v := .slice (some ⟨g, 0, none⟩) (n + 1) c) (xs := xs.take i ++ p :: xs.drop i) ⟨Rw.flat_len _, .inr ⟨g, c, N2, by rw [hflen], hbg, setRow_heap _ _ N1 _ 24 (0, 0) (setRow_heap _ _ cur _ 24 (0, 0) hg), by rw [hflen]; exact hcap', HCM.out, by rw [hN2s, hcs], by rw [hflen]; exact hNew⟩⟩ (fun _ _ => trivial))
   have HBE := Aside0.mk (Rw.below_turn (Rw.below_turn (below_drew1 (Below.refl base W)) hbg N1) hbg N2)
   have hcb : decide ((c : Int) < (n : Int) + 1) = false := decide_eq_false (by omega)
   have hci1 : ¬ (c = i + 1) := by omega
   have g1 : (0 : Int) ≤ (n : Int) + 1 := by omega
   have g2 : ((n : Int) + 1).toNat = n + 1 := by omega
   have g3 : (0 : Int) ≤ (i : Int) + 1 := by omega
   have g4 : ((i : Int) + 1).toNat = i + 1 := by omega
   have g5 : (i : Int) + 1 ≤ (n : Int) + 1 := by omega
   have g6 : i ≤ n + 1 := by omega
   have g12 : (i : Int) ≤ (n : Int) + 1 := by omega
   have g7 : (n : Int) + 1 ≤ (c : Int) := by omega
   have g8 := HW1.out
   have g9 := HW3.out
   have g10 := hr1 W.drew rfl
   have g11 := hr2 W.drew rfl
   clear e1 e2 hNew hN1 hN2 hN1s hN2s hN1l hr1 hr2 hcap hfin hflen hXl hfl1 hpl1 hadd hcells hcl hcs htk hg hV hO hne hl hlt hp0 hi hn hin hnc hglt hvlt hgv hbg
   go_enter Try.func42, Try.ntmps42
   go_wp2
   have G10 := Aside0.mk g10
   have G11 := Aside0.mk g11
   clear g10 g11
   refine start_ (n := 9) (S := fun w' => True) (ds := []) #[false, false, false, false, false, false, false, false, false] (by kernel_rfl) rfl rfl trivial (fun hHeld => ?_)
   refine pure_ (i := 0) (N := some 69) (v := ?_) (a' := ?_) #[true, false, false, false, false, false, false, false, false] rfl rfl (by kernel_rfl) (fun _ _ _ h => h) (Or.inl ⟨by rfl, ?_⟩) ?_ ?_;rotate_left;(intro w';go_simp;with_reducible rfl);rotate_left;(simp only [Act.put, sIb, sC0, sCs, i64_w, i32_w];rfl);refine pure_ (i := 1) (N := some 70) (v := ?_) (a' := ?_) #[true, true, false, false, false, false, false, false, false] rfl rfl (by kernel_rfl) (fun _ _ _ h => h) (Or.inl ⟨by rfl, ?_⟩) ?_ ?_;rotate_left;(intro w';go_simp;with_reducible rfl);rotate_left;(simp only [Act.put, sIb, sC0, sCs, i64_w, i32_w];rfl);refine pure_ (i := 2) (N := some 71) (v := ?_) (a' := ?_) #[true, true, true, false, false, false, false, false, false] rfl rfl (by kernel_rfl) (fun _ _ _ h => h) (Or.inl ⟨by rfl, ?_⟩) ?_ ?_;rotate_left;(intro w';go_simp;with_reducible rfl);rotate_left;(simp only [Act.put, sIb, sC0, sCs, i64_w, i32_w];rfl);refine pure_ (i := 3) (N := some 72) (v := ?_) (a' := ?_) #[true, true, true, true, false, false, false, false, false] rfl rfl (by kernel_rfl) (fun _ _ _ h => h) (Or.inl ⟨by rfl, ?_⟩) ?_ ?_;rotate_left;(intro w';go_simp;with_reducible rfl);rotate_left;(simp only [Act.put, sIb, sC0, sCs, i64_w, i32_w];rfl);refine pure_ (i := 4) (N := some 73) (v := ?_) (a' := ?_) #[true, true, true, true, true, false, false, false, false] rfl rfl (by kernel_rfl) (fun _ _ _ h => h) (Or.inl ⟨by rfl, ?_⟩) ?_ ?_;rotate_left;(intro w';go_simp;with_reducible rfl);rotate_left;(simp only [Act.put, sIb, sC0, sCs, i64_w, i32_w];rfl);refine pure_ (i := 5) (N := some 74) (v := ?_) (a' := ?_) #[true, true, true, true, true, true, false, false, false] rfl rfl (by kernel_rfl) (fun _ _ _ h => h) (Or.inl ⟨by rfl, ?_⟩) ?_ ?_;rotate_left;(intro w';go_simp;with_reducible rfl);rotate_left;(simp only [Act.put, sIb, sC0, sCs, i64_w, i32_w];rfl);refine pure_ (i := 6) (N := some 75) (v := ?_) (a' := ?_) #[true, true, true, true, true, true, true, false, false] rfl rfl (by kernel_rfl) (fun _ _ _ h => h) (Or.inl ⟨by rfl, ?_⟩) ?_ ?_;rotate_left;(intro w';go_simp;with_reducible rfl);rotate_left;(simp only [Act.put, sIb, sC0, sCs, i64_w, i32_w];rfl);refine pure_ (i := 7) (N := some 76) (v := ?_) (a' := ?_) #[true, true, true, true, true, true, true, true, false] rfl rfl (by kernel_rfl) (fun _ _ _ h => h) (Or.inl ⟨by rfl, ?_⟩) ?_ ?_;rotate_left;(intro w';go_simp;with_reducible rfl);rotate_left;(simp only [Act.put, sIb, sC0, sCs, i64_w, i32_w];rfl)
   refine one_ (i := 8) (N := some 77) #[true, true, true, true, true, true, true, true, true] rfl rfl (by kernel_rfl) (by decide) (fun K hK => ?_)
   refine Rw.copy_step W.drew (by rfl) (.tmp 73) (.tmp 76) 22 22 rfl (.slice (some ⟨g, (i + 1) * 4, none⟩) (n - i) (c - (i + 1))) (.slice (some ⟨g, i * 4, none⟩) (n + 1 - i) (c - i)) rfl rfl (v' := goInt ((n - i : Nat) : Int)) (w' := W.drew.setRow g N1) (G10.out _ _) ?_
   refine hK.out _ _ trivial (fun hHeld => ?_)
   clear hK K;refine norm_ (a' := ?_) ?_ ?_;rotate_left
   ·show Act.put _ (some 77) _ = _
    simp only [Act.put, sIb, sC0, sCs, i64_w, i32_w];rfl
   refine done_ (by kernel_rfl) ?_
   have g11 := G11.out
   go_wp2;go_ret
   exact ⟨_, rfl, HFR.out, HBE.out⟩
end Go.Proofs.Ytopmjjnkolfciaa.Pr
end
section
namespace Go.Proofs.Ytopmjjnkolfciaa.Pr
open Go.RowKit Go.Proofs.YtopmjjnkolfciaaW.PrintWords Go.Proofs.YtopmjjnkolfciaaW.PrintLast Go.Proofs.YtopmjjnkolfciaaW.PrintMore
attribute [local go_sem] max2_int min2_int max_two min_two max_three min_three max_four min_four
attribute [local go_sem] Go.Proofs.Ytopmjjnkolfciaa.Hl.str_geq Go.Proofs.Ytopmjjnkolfciaa.Hl.str_gtr Go.Proofs.Ytopmjjnkolfciaa.Hl.str_leq
set_option linter.unusedVariables false
set_option linter.unusedSimpArgs false
theorem eqIn_nil {P : Program} (w : World) (d : Nat) (t e : TypeId) (a : Option Addr) (n c n' c' : Nat) (h : P.underlying t = some (.slice e)) : (Op.equalIn (d + 1) t (.slice a n c) (.slice none n' c')).run P w = .ok a.isNone w := by
 cases a <;> simp [Op.equalIn, run_underlying h]
theorem eql_nil {P : Program} (w : World) (t e : TypeId) (a : Option Addr) (n c n' c' : Nat) (h : P.underlying t = some (.slice e)) : (binOp .eql t (.slice a n c) (.slice none n' c')).run P w = .ok (.bool a.isNone) w := by
 simp only [binOp]
 simp [Op.equal, Op.maxDepth, eqIn_nil w 9999 t e a n c n' c' h]
def api_Extent_43.f (l0 : List S24) : Option (List S24) := if l0.length < 4398046511104 then some l0 else none
set_option maxHeartbeats 8000000 in
set_option maxRecDepth 100000 in
theorem api_Extent_43.calls (A0 : Option Addr) (c0 : Nat) (l0 : List (S24)) (r : List (S24)) (w : World) (hr0 : Kd.C k24 w A0 l0.length l0) (hc0 : l0.length ≤ c0) (h : api_Extent_43.f l0 = some r) :
  Calls Try.prog 43 #[.slice A0 l0.length c0] w fun e w' => ∃ v0_ : Value, e = .returned (v0_) ∧ Kd.R k24 24 w' w.heap.size (fun _ => True) v0_ r ∧ Below w.heap.size w w' := by
 unfold api_Extent_43.f at h
 by_cases hl : l0.length < 4398046511104
 ·rw [if_pos hl] at h
  obtain rfl := Option.some.inj h
  have hu26 := Try.underlying24
  cases A0 with
  | none =>
   obtain rfl : l0 = [] := by
    rcases Nat.eq_zero_or_pos l0.length with h0 | h0
    ·exact List.eq_nil_of_length_eq_zero h0
    ·obtain ⟨ad, e, _⟩ := hr0.2.2 h0
     cases e
   clear hr0
   have hq := fun W : World => eql_nil (P := Try.prog) W 22 24 none 0 c0 0 0 Try.underlying22
   simp only [Option.isNone_none] at hq
   go_enter Try.func43, Try.ntmps43
   go_wp2;go_ret
   exact ⟨_, rfl, Kd.R_nil _ _ _ _ _, Below.refl _ _⟩
  | some ad =>
   have HR0 := Aside0.mk hr0
   have HC0 := Aside0.mk hc0
   have HL := Aside0.mk hl
   clear hr0 hc0 hl h
   have hq := fun W : World => eql_nil (P := Try.prog) W 22 24 (some ad) l0.length c0 0 0 Try.underlying22
   simp only [Option.isNone_some] at hq
   go_enter Try.func43, Try.ntmps43
   go_wp2_with (first | ((with_reducible refine gate_builtin (b := .append) (xs := #[.tmp 5, .tmp 6]) rfl ?_); at_builtin; refine Kd.R_append_rows k24 (w0 := w) w.heap.size rfl (.tmp 5) (.tmp 6) 22 24 (.agg #[(.int .i64 0), (.int .i64 0), (.int .i64 0), (.bool false)]) 32 rfl Try.underlying22 info24 rfl (by decide) (by omega) v1 [] l0 _ _ _ (fun _ => True) (fun _ => False) rfl rfl ho1.out (Kd.C_below HR0.out hb1.out) (fun _ _ h => h) (fun _ h => h.elim) (fun _ _ => trivial) hb1.out hb1.out.size (by have := HL.out; simp only [List.length_nil]; omega) ?_; intro v2 w2 ho2 hb2 hg2 hat2; rw [List.nil_append] at ho2; have HO2 := Aside0.mk ho2; have HB2 := Aside0.mk hb2; clear ho2 hb2 hg2 hat2) | ((with_reducible refine gate_dst (N := 5) rfl ?_); refine Kd.R_lit k24 (w0 := w) _ 24 ?hg (N := 5) ?hd (xs := ([] : List S24)) (inner := []) (ok := fun _ => True) (okp := fun _ => True) ?hr ?hp (fun _ hk => hk) trivial (Below.refl _ _) (Nat.le_refl _) (by simp) ?_; (case hd => rfl); (case hg => rfl); (case hr => first | (go_simp; done) | (go_simp; rfl)); (case hp => exact (Reps.none _ _)); intro v1 w1 ho1' hb1' hg1 hn1; have ho1 := Aside0.mk ho1'; have hb1 := Aside0.mk hb1'; clear ho1' hb1' hg1 hn1))
   go_ret
   exact ⟨_, rfl, HO2.out, HB2.out⟩
 ·rw [if_neg hl] at h
  cases h
end Go.Proofs.Ytopmjjnkolfciaa.Pr
end
section
namespace Go.Proofs.Ytopmjjnkolfciaa.Pr
open Go.RowKit Go.Proofs.YtopmjjnkolfciaaW.PrintWords Go.Proofs.YtopmjjnkolfciaaW.PrintLast Go.Proofs.YtopmjjnkolfciaaW.PrintMore
attribute [local go_sem] max2_int min2_int max_two min_two max_three min_three max_four min_four
attribute [local go_sem] Go.Proofs.Ytopmjjnkolfciaa.Hl.str_geq Go.Proofs.Ytopmjjnkolfciaa.Hl.str_gtr Go.Proofs.Ytopmjjnkolfciaa.Hl.str_leq
set_option linter.unusedVariables false
set_option linter.unusedSimpArgs false
def extent_Put.f (k : Nat) (l0 : List S24) (a1_0 a1_1 a1_2 : Int) (a1_3 : Bool) : Option (List S24 × Int) := (extent_Check.f k l0).bind fun t => (if t = 0 then ((extent_may.f a1_0 a1_1 a1_2 a1_3).bind fun q => (if q = true then (if (okB l0 = true ∧ apartL l0 = true) ∧ mayE ⟨a1_0, a1_1, a1_2, a1_3⟩ = true then some (putR l0 ⟨a1_0, a1_1, a1_2, a1_3⟩) else none) else some ([], 1))) else some ([], 1))
theorem putOwn_lt {w : World} {base : Nat} {ok : Nat → Prop} {v : Value} {xs : List S24} (h : Kd.R k24 24 w base ok v xs) : ∀ g, v.ownBlock = some g → g < w.heap.size := by
 intro g hg
 rcases (Rw.R_flat h).2 with ⟨rfl, _⟩ | ⟨g', c', cur', rfl, _, hh, _⟩
 ·cases hg
 ·injection hg with hg
  subst hg
  exact blk_lt hh
set_option maxHeartbeats 8000000 in
set_option maxRecDepth 100000 in
theorem extent_Put.calls (k : Nat) (A0 : Option Addr) (c0 : Nat) (l0 : List (S24)) (a1_0 : Int) (a1_1 : Int) (a1_2 : Int) (a1_3 : Bool) (r1 : List (S24)) (r2 : Int) (w : World) (hr0 : Kd.C k24 w A0 l0.length l0) (hc0 : l0.length ≤ c0) (h : extent_Put.f k l0 a1_0 a1_1 a1_2 a1_3 = some (r1, r2)) :
  Calls Try.prog 14 #[.slice A0 l0.length c0, .agg #[.int .i64 a1_0, .int .i64 a1_1, .int .i64 a1_2, .bool a1_3]] w fun e w' => ∃ v0_ : Value, e = .returned (.tuple #[v0_, .int .i64 r2]) ∧ Kd.R k24 24 w' w.heap.size (fun _ => True) v0_ r1 ∧ Below w.heap.size w w' := by
 unfold extent_Put.f at h
 obtain ⟨t, ht, h⟩ := Option.bind_eq_some_iff.1 h
 have hu24 := Try.underlying24
 have HR0 := Aside0.mk hr0
 have HC0 := Aside0.mk hc0
 have HT := Aside0.mk ht
 have HBA := Aside0.mk ((Below.refl w.heap.size w).alloc (Nat.le_refl _) (.cells #[.int .i64 a1_0, .int .i64 a1_1, .int .i64 a1_2, .bool a1_3] 24))
 clear hr0 hc0 ht
 by_cases h0 : t = 0
 ·subst h0
  rw [if_pos rfl] at h
  obtain ⟨q, hq, h⟩ := Option.bind_eq_some_iff.1 h
  have HQ := Aside0.mk hq
  clear hq
  by_cases hqt : q = true
  ·subst hqt
   rw [if_pos rfl] at h
   by_cases hok : (okB l0 = true ∧ apartL l0 = true) ∧ mayE ⟨a1_0, a1_1, a1_2, a1_3⟩ = true
   ·rw [if_pos hok] at h
    have HOK := Aside0.mk (okB_facts hok.1.1)
    have HAP := Aside0.mk hok.1.2
    obtain ⟨e, he⟩ : ∃ e : S24, (⟨a1_0, a1_1, a1_2, a1_3⟩ : S24) = e := ⟨_, rfl⟩
    rw [he] at h hok
    have HME := Aside0.mk hok.2
    have hm := mayE_facts hok.2
    have HM := Aside0.mk (show putR l0 e = (r1, r2) from Option.some.inj h)
    have e0 : a1_0 = e.f0 := by rw [← he]
    have e1 : a1_1 = e.f1 := by rw [← he]
    have e2 : a1_2 = e.f2 := by rw [← he]
    have e3 : a1_3 = e.f3 := by rw [← he]
    rw [e0, e1, e2, e3] at HBA ⊢
    rw [e0, e1, e2, e3] at HQ
    clear h hok he e0 e1 e2 e3
    obtain ⟨i, hi⟩ : ∃ i, behindN l0 e.f0 = i := ⟨_, rfl⟩
    have hile := behindN_le l0 e.f0
    rw [hi] at hile
    have HI := Aside0.mk hi
    have HIL := Aside0.mk hile
    have HBC := Aside0.mk (fun W hr => behind_calls A0 c0 l0 e.f0 W hr HC0.out HOK.out)
    rw [hi] at HBC
    have HCL := Aside0.mk (show api_Extent_43.f l0 = some l0 by unfold api_Extent_43.f; rw [if_pos (by have := HOK.out.1; omega)])
    have HINS := Aside0.mk (show l0.take i ++ e :: l0.drop i = insE l0 e by unfold insE; rw [hi])
    obtain ⟨t, ht⟩ : ∃ t, e.f0 + e.f2 = t := ⟨_, rfl⟩
    have HEND := Aside0.mk (show extent_end.f e.f0 e.f1 e.f2 e.f3 = some t by unfold extent_end.f; congr 1; unfold wrap64; omega)
    have HTT := Aside0.mk ht
    obtain ⟨ap, hap⟩ : ∃ ap, apartL (insE l0 e) = ap := ⟨_, rfl⟩
    have HAPF := Aside0.mk (show extent_apart.f (insE l0 e) = some ap by
     unfold extent_apart.f
     rw [if_pos ⟨List.all_eq_true.2 fun y hy => mayE_D (ins_may (List.all_eq_true.1 HOK.out.2.1) HME.out y hy), by rw [insE_len]; have := HOK.out.1; omega⟩, hap])
    have HAPV := Aside0.mk hap
    have HMG := Aside0.mk (merged_f (insE l0 e) (by rw [insE_len]; have := HOK.out.1; omega) ((insE l0 e).length + 1) (Nat.lt_succ_self _))
    clear hm hi hile ht hap
    go_enter Try.func14, Try.ntmps14
    go_wp2_with (first | (go_at_call 41; refine (HBC.out _ (Kd.C_below HR0.out HB2.out)).mono ?_; rintro e3 w3 ⟨rfl, hb3⟩; have HBK3 := Aside0.mk (blk_below HBK2.out hb3); have hc30 := (blk_cell HBK3.out 0).trans rfl; have hc31 := (blk_cell HBK3.out 1).trans rfl; have hc32 := (blk_cell HBK3.out 2).trans rfl; have hc33 := (blk_cell HBK3.out 3).trans rfl; have HB3 := Aside0.mk (HB2.out.trans (hb3.mono HB2.out.size)); clear hb3) | (go_at_call 34; refine (extent_may.calls e.f0 e.f1 e.f2 e.f3 true _ HQ.out).mono ?_; rintro e2 w2 ⟨rfl, hb2⟩; have HBK2 := Aside0.mk (blk_below HBK1.out hb2); have hc20 := (blk_cell HBK2.out 0).trans rfl; have HB2 := Aside0.mk (HB1.out.trans (hb2.mono HB1.out.size)); clear hb2) | (go_at_call 12; refine (extent_Check.calls k A0 c0 l0 0 _ (Kd.C_alloc HR0.out _) HC0.out HT.out).mono ?_; rintro e1 w1 ⟨rfl, hb1⟩; have HBK1 := Aside0.mk (blk_below (blk_new w _) hb1); have hc10 := (blk_cell HBK1.out 0).trans rfl; have hc11 := (blk_cell HBK1.out 1).trans rfl; have hc12 := (blk_cell HBK1.out 2).trans rfl; have hc13 := (blk_cell HBK1.out 3).trans rfl; have HB1 := Aside0.mk (HBA.out.trans (hb1.mono HBA.out.size)); clear hb1))
    have HR3 := Aside0.mk (Kd.C_below HR0.out HB3.out)
    have HS3 := Aside0.mk (show w.heap.size + 1 ≤ w3.heap.size from blk_lt HBK3.out)
    have HCE := Aside0.mk (show (Below w3.heap.size w3 (w3.alloc (.cells #[.int .i64 e.f0, .int .i64 e.f1, .int .i64 e.f2, .bool e.f3] 24)).drew) from below_drew1 ((Below.refl w3.heap.size w3).alloc (Nat.le_refl _) _))
    refine start_ (n := 7) (S := fun w' => w'.cell? ⟨w.heap.size, 0, none⟩ = some (.int .i64 e.f0) ∧ w'.cell? ⟨w.heap.size, 1, none⟩ = some (.int .i64 e.f1) ∧ w'.cell? ⟨w.heap.size, 2, none⟩ = some (.int .i64 e.f2) ∧ w'.cell? ⟨w.heap.size, 3, none⟩ = some (.bool e.f3)) (ds := []) #[false, false, false, false, false, false, false] (by kernel_rfl) rfl rfl ⟨hc30, hc31, hc32, hc33⟩ (fun hHeld => ?_)
    refine pure_ (i := 0) (N := some 20) (v := ?_) (a' := ?_) #[true, false, false, false, false, false, false] rfl rfl (by kernel_rfl) (fun _ _ _ h => h) (Or.inl ⟨by rfl, ?_⟩) ?_ ?_;rotate_left;(intro w';go_simp;with_reducible rfl);rotate_left;(simp only [Act.put, sIb, sC0, sCs, i64_w, i32_w];rfl);refine pure_ (i := 2) (N := some 22) (v := ?_) (a' := ?_) #[true, false, true, false, false, false, false] rfl rfl (by kernel_rfl) (fun _ _ _ h => h) (Or.inl ⟨by rfl, ?_⟩) ?_ ?_;rotate_left;(intro w';go_simp;with_reducible rfl);rotate_left;(simp only [Act.put, sIb, sC0, sCs, i64_w, i32_w];rfl);refine take_ (i := 3) (N := some 23) (v := ?_) (a' := ?_) #[true, false, true, true, false, false, false] rfl rfl (by kernel_rfl) (fun _ _ _ h => h) (Or.inl ⟨by rfl, ?_⟩) hHeld ?_ ?_;rotate_left
    ·rintro w' ⟨s0, s1, s2, s3⟩
     go_simp;with_reducible rfl
    rotate_left;(simp only [Act.put, sIb, sC0, sCs, i64_w, i32_w];rfl)
    refine join_ (σ := Value × Nat) 2 #[true, true, true, true, true, false, false] (fun s_ => [(21, s_.1), (24, .slice (some ⟨s_.2, 0, none⟩) 1 1)]) (fun s_ w' => (w'.cell? ⟨w.heap.size, 0, none⟩ = some (.int .i64 e.f0) ∧ w'.cell? ⟨w.heap.size, 1, none⟩ = some (.int .i64 e.f1) ∧ w'.cell? ⟨w.heap.size, 2, none⟩ = some (.int .i64 e.f2) ∧ w'.cell? ⟨w.heap.size, 3, none⟩ = some (.bool e.f3)) ∧ Kd.R k24 24 w' (w.heap.size + 1) (fun _ => True) s_.1 l0 ∧ w'.heap[s_.2]? = some (.cells #[.int .i64 e.f0, .int .i64 e.f1, .int .i64 e.f2, .bool e.f3] 24 (0, 0)) ∧ (∀ g, s_.1.ownBlock = some g → g ≠ s_.2) ∧ Below w.heap.size w w') ?_ ?_
    rotate_left
    ·intro hCont
     refine two_ (i := 1) (j := 4) (Ni := some 21) (Nj := some 24) #[true, true, true, true, false, false, false] #[true, false, true, true, true, false, false] rfl rfl rfl rfl (by kernel_rfl) (by decide) (by decide) (fun K hK => ?_) (fun K hK => ?_)
     ·skip
      refine goes_ Try.func43 (by kernel_rfl) rfl #[.slice A0 l0.length c0] (by rfl) rfl rfl (by simp only [List.map_toArray, List.map_cons, List.map_nil]; rfl) ?_
      with_reducible refine (api_Extent_43.calls A0 c0 l0 l0 _ (Kd.C_drew HR3.out) HC0.out HCL.out).mono ?_
      rintro e4 w4 ⟨v4, rfl, ho4, hb4⟩
      refine ⟨_, rfl, ?_⟩
      have hO4 : Kd.R k24 24 w4 (w.heap.size + 1) (fun _ => True) v4 l0 := Kd.R_lower ho4 HS3.out
      have hB4 : Below w.heap.size w w4 := (below_drew1 HB3.out).trans (hb4.mono (Nat.le_of_lt HS3.out))
      refine hK.out _ _ ⟨(hb4.cell (World.block_lt_of_cell? _ _ hHeld.1)).trans hHeld.1, (hb4.cell (World.block_lt_of_cell? _ _ hHeld.2.1)).trans hHeld.2.1, (hb4.cell (World.block_lt_of_cell? _ _ hHeld.2.2.1)).trans hHeld.2.2.1, (hb4.cell (World.block_lt_of_cell? _ _ hHeld.2.2.2)).trans hHeld.2.2.2⟩ (fun hHeld => ?_)
      clear hK K;refine norm_ (a' := ?_) ?_ ?_;rotate_left
      ·show Act.put _ (some 21) _ = _
       simp only [Act.put, sIb, sC0, sCs, i64_w, i32_w];rfl
      refine one_ (i := 4) (N := some 24) #[true, true, true, true, true, false, false] rfl rfl (by kernel_rfl) (by decide) (fun K hK => ?_)
      refine value_ (w1 := ?_) (v := ?_) (by rfl) rfl ?_ ?_
      rotate_left 2
      ·go_simp
       constructor;(rfl);(rfl)
      have hO5 := Kd.R_alloc hO4 (.cells #[.int .i64 e.f0, .int .i64 e.f1, .int .i64 e.f2, .bool e.f3] 24)
      have hB5 := hB4.alloc hB4.size (.cells #[.int .i64 e.f0, .int .i64 e.f1, .int .i64 e.f2, .bool e.f3] 24)
      have hN5 : ∀ g, v4.ownBlock = some g → g ≠ w4.heap.size := fun g hg => Nat.ne_of_lt (putOwn_lt hO4 g hg)
      have hV5 := blk_new w4 (.cells #[.int .i64 e.f0, .int .i64 e.f1, .int .i64 e.f2, .bool e.f3] 24)
      refine hK.out _ _ ⟨(World.cell?_alloc_lt _ _ _ (World.block_lt_of_cell? _ _ hHeld.1)).trans hHeld.1, (World.cell?_alloc_lt _ _ _ (World.block_lt_of_cell? _ _ hHeld.2.1)).trans hHeld.2.1, (World.cell?_alloc_lt _ _ _ (World.block_lt_of_cell? _ _ hHeld.2.2.1)).trans hHeld.2.2.1, (World.cell?_alloc_lt _ _ _ (World.block_lt_of_cell? _ _ hHeld.2.2.2)).trans hHeld.2.2.2⟩ (fun hHeld => ?_)
      clear hK K;refine norm_ (a' := ?_) ?_ ?_;rotate_left
      ·show Act.put _ (some 24) _ = _
       simp only [Act.put, sIb, sC0, sCs, i64_w, i32_w];rfl
      exact norm_ (by simp only [putAll, Act.put, List.setIfInBounds_toArray, List.set_cons_zero, List.set_cons_succ]) (hCont (v4, w4.heap.size) _ ⟨hHeld, hO5, hV5, hN5, hB5⟩)
     ·skip
      refine value_ (w1 := ?_) (v := ?_) (by rfl) rfl ?_ ?_
      rotate_left 2
      ·go_simp
       constructor;(rfl);(rfl)
      have hCV := Kd.C_drew (Kd.C_alloc HR3.out (.cells #[.int .i64 e.f0, .int .i64 e.f1, .int .i64 e.f2, .bool e.f3] 24))
      have hBV := below_drew1 (HB3.out.alloc HB3.out.size (.cells #[.int .i64 e.f0, .int .i64 e.f1, .int .i64 e.f2, .bool e.f3] 24))
      have hVV := blk_drew (blk_new w3 (.cells #[.int .i64 e.f0, .int .i64 e.f1, .int .i64 e.f2, .bool e.f3] 24))
      refine hK.out _ _ ⟨(World.cell?_alloc_lt _ _ _ (World.block_lt_of_cell? _ _ hHeld.1)).trans hHeld.1, (World.cell?_alloc_lt _ _ _ (World.block_lt_of_cell? _ _ hHeld.2.1)).trans hHeld.2.1, (World.cell?_alloc_lt _ _ _ (World.block_lt_of_cell? _ _ hHeld.2.2.1)).trans hHeld.2.2.1, (World.cell?_alloc_lt _ _ _ (World.block_lt_of_cell? _ _ hHeld.2.2.2)).trans hHeld.2.2.2⟩ (fun hHeld => ?_)
      clear hK K;refine norm_ (a' := ?_) ?_ ?_;rotate_left
      ·show Act.put _ (some 24) _ = _
       simp only [Act.put, sIb, sC0, sCs, i64_w, i32_w];rfl
      refine one_ (i := 1) (N := some 21) #[true, true, true, true, true, false, false] rfl rfl (by kernel_rfl) (by decide) (fun K hK => ?_)
      refine goes_ Try.func43 (by kernel_rfl) rfl #[.slice A0 l0.length c0] (by rfl) rfl rfl (by simp only [List.map_toArray, List.map_cons, List.map_nil]; rfl) ?_
      with_reducible refine (api_Extent_43.calls A0 c0 l0 l0 _ hCV HC0.out HCL.out).mono ?_
      rintro e4 w4 ⟨v4, rfl, ho4, hb4⟩
      refine ⟨_, rfl, ?_⟩
      have hO5 : Kd.R k24 24 w4 (w.heap.size + 1) (fun _ => True) v4 l0 := Kd.R_lower ho4 (Nat.le_trans HS3.out HCE.out.size)
      have hV5 := blk_below hVV hb4
      have hN5 : ∀ g, v4.ownBlock = some g → g ≠ w3.heap.size := fun g hg => Nat.ne_of_gt (Nat.lt_of_lt_of_le (blk_lt hVV) (Kd.R_base ho4 g hg))
      have hB5 := hBV.trans (hb4.mono (Nat.le_trans (Nat.le_of_lt HS3.out) HCE.out.size))
      refine hK.out _ _ ⟨(hb4.cell (World.block_lt_of_cell? _ _ hHeld.1)).trans hHeld.1, (hb4.cell (World.block_lt_of_cell? _ _ hHeld.2.1)).trans hHeld.2.1, (hb4.cell (World.block_lt_of_cell? _ _ hHeld.2.2.1)).trans hHeld.2.2.1, (hb4.cell (World.block_lt_of_cell? _ _ hHeld.2.2.2)).trans hHeld.2.2.2⟩ (fun hHeld => ?_)
      clear hK K;refine norm_ (a' := ?_) ?_ ?_;rotate_left
      ·show Act.put _ (some 21) _ = _
       simp only [Act.put, sIb, sC0, sCs, i64_w, i32_w];rfl
      exact norm_ (by simp only [putAll, Act.put, List.setIfInBounds_toArray, List.set_cons_zero, List.set_cons_succ]) (hCont (v4, w3.heap.size) _ ⟨hHeld, hO5, hV5, hN5, hB5⟩)
    rintro ⟨v4, vb⟩ w5 ⟨hHeld, hO5, hV5, hN5, hB5⟩
    have HO5 : Aside0 (Kd.R k24 24 w5 (w.heap.size + 1) (fun _ => True) v4 l0) := ⟨hO5⟩
    have HV5 : Aside0 (w5.heap[vb]? = some (.cells #[.int .i64 e.f0, .int .i64 e.f1, .int .i64 e.f2, .bool e.f3] 24 (0, 0))) := ⟨hV5⟩
    have HN5 : Aside0 (∀ g, v4.ownBlock = some g → g ≠ vb) := ⟨hN5⟩
    have HB5 := Aside0.mk hB5
    have HSZ5 : Aside0 (w.heap.size + 1 ≤ w5.heap.size) := ⟨World.block_lt_of_cell? _ _ hHeld.1⟩
    clear hO5 hV5 hN5 hB5;refine norm_ (a' := ?_) ?_ ?_;rotate_left;(simp only [putAll, Act.put, List.setIfInBounds_toArray, List.set_cons_zero, List.set_cons_succ];rfl)
    refine one_ (i := 5) (N := some 25) #[true, true, true, true, true, true, false] rfl rfl (by kernel_rfl) (by decide) (fun K hK => ?_)
    refine goes_ Try.func42 (by kernel_rfl) rfl #[v4, .int .i64 (i : Int), .slice (some ⟨vb, 0, none⟩) 1 1] (by rfl) rfl rfl (by simp only [List.map_toArray, List.map_cons, List.map_nil]; rfl) ?_
    with_reducible refine (ins_calls w5 (w.heap.size + 1) v4 l0 e vb i l0.length rfl HO5.out HV5.out HN5.out HSZ5.out HIL.out (by have := HOK.out.1; omega)).mono ?_
    rintro e6 w6 ⟨v6, rfl, ho6, hb6⟩
    refine ⟨_, rfl, ?_⟩
    refine hK.out _ _ ⟨(hb6.cell (Nat.lt_succ_self _)).trans hHeld.1, (hb6.cell (Nat.lt_succ_self _)).trans hHeld.2.1, (hb6.cell (Nat.lt_succ_self _)).trans hHeld.2.2.1, (hb6.cell (Nat.lt_succ_self _)).trans hHeld.2.2.2⟩ (fun hHeld => ?_)
    clear hK K;refine norm_ (a' := ?_) ?_ ?_;rotate_left
    ·show Act.put _ (some 25) _ = _
     simp only [Act.put, sIb, sC0, sCs, i64_w, i32_w];rfl
    refine pure_ (i := 6) (N := some 7) (v := ?_) (a' := ?_) #[true, true, true, true, true, true, true] rfl rfl (by kernel_rfl) (fun _ _ _ h => h) (Or.inl ⟨by rfl, ?_⟩) ?_ ?_;rotate_left;(intro w';go_simp;with_reducible rfl);rotate_left;(simp only [Act.put, sIb, sC0, sCs, i64_w, i32_w];rfl)
    refine done_ (by kernel_rfl) ?_
    rw [HINS.out] at ho6
    have HB6 := Aside0.mk (HB5.out.trans (hb6.mono (Nat.le_succ _)))
    obtain ⟨A6, c6, rfl, hc6, hr6⟩ := Kd.R_reads ho6
    have HR6 := Aside0.mk hr6
    have HC6 := Aside0.mk hc6
    have hx0 := hHeld.1
    have hx1 := hHeld.2.1
    have hx2 := hHeld.2.2.1
    have hx3 := hHeld.2.2.2
    clear ho6 hb6 hr6 hc6 hHeld
    by_cases hlt : ∃ hi : i < l0.length, l0[i].f0 < t
    ·obtain ⟨hil, hlt⟩ := hlt
     have hilb : decide (i < l0.length) = true := decide_eq_true hil
     have hi0 : (0 : Int) ≤ (i : Int) := by omega
     have hi1 : (i : Int) < (l0.length : Int) := by omega
     obtain ⟨ad, ead, hca, hcb, hcc, hcd⟩ := at_T24 HR0.out (i : Int) hi0 hi1
     cases ead
     simp only [Int.toNat_natCast] at hca
     rw [rd_in hil] at hca
     replace hca := (HB6.out.cell (World.block_lt_of_cell? w _ hca)).trans hca
     have HR1 := Aside0.mk (show r1 = [] ∧ r2 = 4 by
      have h1 := HI.out
      subst h1
      have h9 := HM.out
      unfold putR at h9
      rw [if_pos (no_room_file (List.all_eq_true.1 HOK.out.2.1) HOK.out.2.2 HME.out hil (by rw [HTT.out]; exact hlt))] at h9
      obtain ⟨a, b⟩ := Prod.mk.inj h9
      exact ⟨a.symm, b.symm⟩)
     obtain ⟨z, hz⟩ : ∃ z, l0[i].f0 = z := ⟨_, rfl⟩
     rw [hz] at hca hlt
     have hltb : decide (z < t) = true := decide_eq_true hlt
     clear hcb hcc hcd hz hlt hil;go_wp2
     refine start_ (n := 19) (S := fun w' => w'.cell? ⟨w.heap.size, 0, none⟩ = some (.int .i64 e.f0) ∧ w'.cell? ⟨w.heap.size, 1, none⟩ = some (.int .i64 e.f1) ∧ w'.cell? ⟨w.heap.size, 2, none⟩ = some (.int .i64 e.f2) ∧ w'.cell? ⟨w.heap.size, 3, none⟩ = some (.bool e.f3) ∧ w'.cell? (ad.add (i * 4)) = some (.int .i64 z)) (ds := []) #[false, false, false, false, false, false, false, false, false, false, false, false, false, false, false, false, false, false, false] (by kernel_rfl) rfl rfl ⟨hx0, hx1, hx2, hx3, hca⟩ (fun hHeld => ?_)
     refine pure_ (i := 0) (N := some 26) (v := ?_) (a' := ?_) #[true, false, false, false, false, false, false, false, false, false, false, false, false, false, false, false, false, false, false] rfl rfl (by kernel_rfl) (fun _ _ _ h => h) (Or.inl ⟨by rfl, ?_⟩) ?_ ?_;rotate_left;(intro w';go_simp;with_reducible rfl);rotate_left;(simp only [Act.put, sIb, sC0, sCs, i64_w, i32_w];rfl);refine pure_ (i := 1) (N := some 27) (v := ?_) (a' := ?_) #[true, true, false, false, false, false, false, false, false, false, false, false, false, false, false, false, false, false, false] rfl rfl (by kernel_rfl) (fun _ _ _ h => h) (Or.inl ⟨by rfl, ?_⟩) ?_ ?_;rotate_left;(intro w';go_simp;with_reducible rfl);rotate_left;(simp only [Act.put, sIb, sC0, sCs, i64_w, i32_w];rfl);refine pure_ (i := 2) (N := some 28) (v := ?_) (a' := ?_) #[true, true, true, false, false, false, false, false, false, false, false, false, false, false, false, false, false, false, false] rfl rfl (by kernel_rfl) (fun _ _ _ h => h) (Or.inl ⟨by rfl, ?_⟩) ?_ ?_;rotate_left;(intro w';go_simp;with_reducible rfl);rotate_left;(simp only [Act.put, sIb, sC0, sCs, i64_w, i32_w];rfl);refine pure_ (i := 3) (N := some 29) (v := ?_) (a' := ?_) #[true, true, true, true, false, false, false, false, false, false, false, false, false, false, false, false, false, false, false] rfl rfl (by kernel_rfl) (fun _ _ _ h => h) (Or.inl ⟨by rfl, ?_⟩) ?_ ?_;rotate_left;(intro w';go_simp;with_reducible rfl);rotate_left;(simp only [Act.put, sIb, sC0, sCs, i64_w, i32_w];rfl);refine pure_ (i := 4) (N := some 30) (v := ?_) (a' := ?_) #[true, true, true, true, true, false, false, false, false, false, false, false, false, false, false, false, false, false, false] rfl rfl (by kernel_rfl) (fun _ _ _ h => h) (Or.inl ⟨by rfl, ?_⟩) ?_ ?_;rotate_left;(intro w';go_simp;with_reducible rfl);rotate_left;(simp only [Act.put, sIb, sC0, sCs, i64_w, i32_w];rfl);refine pure_ (i := 5) (N := some 31) (v := ?_) (a' := ?_) #[true, true, true, true, true, true, false, false, false, false, false, false, false, false, false, false, false, false, false] rfl rfl (by kernel_rfl) (fun _ _ _ h => h) (Or.inl ⟨by rfl, ?_⟩) ?_ ?_;rotate_left;(intro w';go_simp;with_reducible rfl);rotate_left;(simp only [Act.put, sIb, sC0, sCs, i64_w, i32_w];rfl);refine pure_ (i := 6) (N := some 32) (v := ?_) (a' := ?_) #[true, true, true, true, true, true, true, false, false, false, false, false, false, false, false, false, false, false, false] rfl rfl (by kernel_rfl) (fun _ _ _ h => h) (Or.inl ⟨by rfl, ?_⟩) ?_ ?_;rotate_left;(intro w';go_simp;with_reducible rfl);rotate_left;(simp only [Act.put, sIb, sC0, sCs, i64_w, i32_w];rfl);refine pure_ (i := 7) (N := some 33) (v := ?_) (a' := ?_) #[true, true, true, true, true, true, true, true, false, false, false, false, false, false, false, false, false, false, false] rfl rfl (by kernel_rfl) (fun _ _ _ h => h) (Or.inl ⟨by rfl, ?_⟩) ?_ ?_;rotate_left;(intro w';go_simp;with_reducible rfl);rotate_left;(simp only [Act.put, sIb, sC0, sCs, i64_w, i32_w];rfl);refine pure_ (i := 8) (N := some 34) (v := ?_) (a' := ?_) #[true, true, true, true, true, true, true, true, true, false, false, false, false, false, false, false, false, false, false] rfl rfl (by kernel_rfl) (fun _ _ _ h => h) (Or.inl ⟨by rfl, ?_⟩) ?_ ?_;rotate_left;(intro w';go_simp;with_reducible rfl);rotate_left;(simp only [Act.put, sIb, sC0, sCs, i64_w, i32_w];rfl);refine take_ (i := 9) (N := some 35) (v := ?_) (a' := ?_) #[true, true, true, true, true, true, true, true, true, true, false, false, false, false, false, false, false, false, false] rfl rfl (by kernel_rfl) (fun _ _ _ h => h) (Or.inl ⟨by rfl, ?_⟩) hHeld ?_ ?_;rotate_left
     ·rintro w' ⟨s0, s1, s2, s3, s4⟩
      go_simp;with_reducible rfl
     rotate_left;(simp only [Act.put, sIb, sC0, sCs, i64_w, i32_w];rfl);refine take_ (i := 10) (N := some 36) (v := ?_) (a' := ?_) #[true, true, true, true, true, true, true, true, true, true, true, false, false, false, false, false, false, false, false] rfl rfl (by kernel_rfl) (fun _ _ _ h => h) (Or.inl ⟨by rfl, ?_⟩) hHeld ?_ ?_;rotate_left
     ·rintro w' ⟨s0, s1, s2, s3, s4⟩
      go_simp;with_reducible rfl
     rotate_left;(simp only [Act.put, sIb, sC0, sCs, i64_w, i32_w];rfl)
     refine one_ (i := 11) (N := some 37) #[true, true, true, true, true, true, true, true, true, true, true, true, false, false, false, false, false, false, false] rfl rfl (by kernel_rfl) (by decide) (fun K hK => ?_)
     refine goes_ Try.func35 (by kernel_rfl) rfl #[.agg #[.int .i64 e.f0, .int .i64 e.f1, .int .i64 e.f2, .bool e.f3]] (by rfl) rfl rfl (by simp only [List.map_toArray, List.map_cons, List.map_nil]; rfl) ?_
     with_reducible refine (extent_end.calls e.f0 e.f1 e.f2 e.f3 t _ HEND.out).mono ?_
     rintro e7 w7 ⟨rfl, hb7⟩
     refine ⟨_, rfl, ?_⟩
     have HB7 := Aside0.mk hb7
     refine hK.out _ _ ⟨(hb7.cell (World.block_lt_of_cell? _ _ hHeld.1)).trans hHeld.1, (hb7.cell (World.block_lt_of_cell? _ _ hHeld.2.1)).trans hHeld.2.1, (hb7.cell (World.block_lt_of_cell? _ _ hHeld.2.2.1)).trans hHeld.2.2.1, (hb7.cell (World.block_lt_of_cell? _ _ hHeld.2.2.2.1)).trans hHeld.2.2.2.1, (hb7.cell (World.block_lt_of_cell? _ _ hHeld.2.2.2.2)).trans hHeld.2.2.2.2⟩ (fun hHeld => ?_)
     clear hK K;refine norm_ (a' := ?_) ?_ ?_;rotate_left
     ·show Act.put _ (some 37) _ = _
      simp only [Act.put, sIb, sC0, sCs, i64_w, i32_w];rfl
     refine pure_ (i := 12) (N := some 38) (v := ?_) (a' := ?_) #[true, true, true, true, true, true, true, true, true, true, true, true, true, false, false, false, false, false, false] rfl rfl (by kernel_rfl) (fun _ _ _ h => h) (Or.inl ⟨by rfl, ?_⟩) ?_ ?_;rotate_left;(intro w';go_simp;with_reducible rfl);rotate_left;(simp only [Act.put, sIb, sC0, sCs, i64_w, i32_w];rfl);refine pure_ (i := 13) (N := some 39) (v := ?_) (a' := ?_) #[true, true, true, true, true, true, true, true, true, true, true, true, true, true, false, false, false, false, false] rfl rfl (by kernel_rfl) (fun _ _ _ h => h) (Or.inl ⟨by rfl, ?_⟩) ?_ ?_;rotate_left;(intro w';go_simp;with_reducible rfl);rotate_left;(simp only [Act.put, sIb, sC0, sCs, i64_w, i32_w];rfl);refine pure_ (i := 14) (N := some 40) (v := ?_) (a' := ?_) #[true, true, true, true, true, true, true, true, true, true, true, true, true, true, true, false, false, false, false] rfl rfl (by kernel_rfl) (fun _ _ _ h => h) (Or.inl ⟨by rfl, ?_⟩) ?_ ?_;rotate_left;(intro w';go_simp;with_reducible rfl);rotate_left;(simp only [Act.put, sIb, sC0, sCs, i64_w, i32_w];rfl);refine pure_ (i := 15) (N := some 41) (v := undef) (a' := ?_) #[true, true, true, true, true, true, true, true, true, true, true, true, true, true, true, true, false, false, false] rfl rfl (by kernel_rfl) (fun _ _ _ h => h) (Or.inr ⟨by rfl, rfl⟩) ?_ ?_;rotate_left;(simp only [Act.put, sIb, sC0, sCs, i64_w, i32_w];rfl);refine pure_ (i := 16) (N := some 42) (v := undef) (a' := ?_) #[true, true, true, true, true, true, true, true, true, true, true, true, true, true, true, true, true, false, false] rfl rfl (by kernel_rfl) (fun _ _ _ h => h) (Or.inr ⟨by rfl, rfl⟩) ?_ ?_;rotate_left;(simp only [Act.put, sIb, sC0, sCs, i64_w, i32_w];rfl);refine pure_ (i := 17) (N := some 43) (v := undef) (a' := ?_) #[true, true, true, true, true, true, true, true, true, true, true, true, true, true, true, true, true, true, false] rfl rfl (by kernel_rfl) (fun _ _ _ h => h) (Or.inr ⟨by rfl, rfl⟩) ?_ ?_;rotate_left;(simp only [Act.put, sIb, sC0, sCs, i64_w, i32_w];rfl);refine pure_ (i := 18) (N := some 44) (v := ?_) (a' := ?_) #[true, true, true, true, true, true, true, true, true, true, true, true, true, true, true, true, true, true, true] rfl rfl (by kernel_rfl) (fun _ _ _ h => h) (Or.inl ⟨by rfl, ?_⟩) ?_ ?_;rotate_left;(intro w';go_simp;with_reducible rfl);rotate_left;(simp only [Act.put, sIb, sC0, sCs, i64_w, i32_w];rfl)
     refine done_ (by kernel_rfl) ?_
     go_wp2
     go_ret2
     obtain ⟨rfl, rfl⟩ := HR1.out
     exact ⟨_, rfl, Kd.R_nil _ _ _ _ _, (below_drew1 HB6.out).trans (HB7.out.mono (below_drew1 HB6.out).size)⟩
    ·have HCL2 := Aside0.mk (show clash l0 e = !ap by
      have hF := room_file (List.all_eq_true.1 HOK.out.2.1) HOK.out.2.2 HME.out (fun hi h => hlt (by have h1 := HI.out; subst h1; exact ⟨hi, by rw [← HTT.out]; exact h⟩))
      have hA := apart_ins (e := e) HAP.out
      rw [HAPV.out] at hA
      cases hap : ap
      ·rw [hap] at hA
       cases hc : clash l0 e
       ·exact absurd (hA.2 (clash_iff.1 hc).1) (by decide)
       (rfl)
      ·exact clash_iff.2 ⟨hA.1 hap, hF⟩)
     by_cases hil : i < l0.length
     case' pos =>
      have hilb : decide (i < l0.length) = true := decide_eq_true hil
      have hi0 : (0 : Int) ≤ (i : Int) := by omega
      have hi1 : (i : Int) < (l0.length : Int) := by omega
      obtain ⟨ad, ead, hca, hcb, hcc, hcd⟩ := at_T24 HR0.out (i : Int) hi0 hi1
      cases ead
      simp only [Int.toNat_natCast] at hca
      rw [rd_in hil] at hca
      replace hca := (HB6.out.cell (World.block_lt_of_cell? w _ hca)).trans hca
      obtain ⟨z, hz⟩ : ∃ z, l0[i].f0 = z := ⟨_, rfl⟩
      rw [hz] at hca
      have hltb : decide (z < t) = false := decide_eq_false (fun h => hlt ⟨hil, by rw [hz]; exact h⟩)
      clear hcb hcc hcd hz hlt hil;go_wp2
      refine start_ (n := 19) (S := fun w' => w'.cell? ⟨w.heap.size, 0, none⟩ = some (.int .i64 e.f0) ∧ w'.cell? ⟨w.heap.size, 1, none⟩ = some (.int .i64 e.f1) ∧ w'.cell? ⟨w.heap.size, 2, none⟩ = some (.int .i64 e.f2) ∧ w'.cell? ⟨w.heap.size, 3, none⟩ = some (.bool e.f3) ∧ w'.cell? (ad.add (i * 4)) = some (.int .i64 z)) (ds := []) #[false, false, false, false, false, false, false, false, false, false, false, false, false, false, false, false, false, false, false] (by kernel_rfl) rfl rfl ⟨hx0, hx1, hx2, hx3, hca⟩ (fun hHeld => ?_)
      refine pure_ (i := 0) (N := some 26) (v := ?_) (a' := ?_) #[true, false, false, false, false, false, false, false, false, false, false, false, false, false, false, false, false, false, false] rfl rfl (by kernel_rfl) (fun _ _ _ h => h) (Or.inl ⟨by rfl, ?_⟩) ?_ ?_;rotate_left;(intro w';go_simp;with_reducible rfl);rotate_left;(simp only [Act.put, sIb, sC0, sCs, i64_w, i32_w];rfl);refine pure_ (i := 1) (N := some 27) (v := ?_) (a' := ?_) #[true, true, false, false, false, false, false, false, false, false, false, false, false, false, false, false, false, false, false] rfl rfl (by kernel_rfl) (fun _ _ _ h => h) (Or.inl ⟨by rfl, ?_⟩) ?_ ?_;rotate_left;(intro w';go_simp;with_reducible rfl);rotate_left;(simp only [Act.put, sIb, sC0, sCs, i64_w, i32_w];rfl);refine pure_ (i := 2) (N := some 28) (v := ?_) (a' := ?_) #[true, true, true, false, false, false, false, false, false, false, false, false, false, false, false, false, false, false, false] rfl rfl (by kernel_rfl) (fun _ _ _ h => h) (Or.inl ⟨by rfl, ?_⟩) ?_ ?_;rotate_left;(intro w';go_simp;with_reducible rfl);rotate_left;(simp only [Act.put, sIb, sC0, sCs, i64_w, i32_w];rfl);refine pure_ (i := 3) (N := some 29) (v := ?_) (a' := ?_) #[true, true, true, true, false, false, false, false, false, false, false, false, false, false, false, false, false, false, false] rfl rfl (by kernel_rfl) (fun _ _ _ h => h) (Or.inl ⟨by rfl, ?_⟩) ?_ ?_;rotate_left;(intro w';go_simp;with_reducible rfl);rotate_left;(simp only [Act.put, sIb, sC0, sCs, i64_w, i32_w];rfl);refine pure_ (i := 4) (N := some 30) (v := ?_) (a' := ?_) #[true, true, true, true, true, false, false, false, false, false, false, false, false, false, false, false, false, false, false] rfl rfl (by kernel_rfl) (fun _ _ _ h => h) (Or.inl ⟨by rfl, ?_⟩) ?_ ?_;rotate_left;(intro w';go_simp;with_reducible rfl);rotate_left;(simp only [Act.put, sIb, sC0, sCs, i64_w, i32_w];rfl);refine pure_ (i := 5) (N := some 31) (v := ?_) (a' := ?_) #[true, true, true, true, true, true, false, false, false, false, false, false, false, false, false, false, false, false, false] rfl rfl (by kernel_rfl) (fun _ _ _ h => h) (Or.inl ⟨by rfl, ?_⟩) ?_ ?_;rotate_left;(intro w';go_simp;with_reducible rfl);rotate_left;(simp only [Act.put, sIb, sC0, sCs, i64_w, i32_w];rfl);refine pure_ (i := 6) (N := some 32) (v := ?_) (a' := ?_) #[true, true, true, true, true, true, true, false, false, false, false, false, false, false, false, false, false, false, false] rfl rfl (by kernel_rfl) (fun _ _ _ h => h) (Or.inl ⟨by rfl, ?_⟩) ?_ ?_;rotate_left;(intro w';go_simp;with_reducible rfl);rotate_left;(simp only [Act.put, sIb, sC0, sCs, i64_w, i32_w];rfl);refine pure_ (i := 7) (N := some 33) (v := ?_) (a' := ?_) #[true, true, true, true, true, true, true, true, false, false, false, false, false, false, false, false, false, false, false] rfl rfl (by kernel_rfl) (fun _ _ _ h => h) (Or.inl ⟨by rfl, ?_⟩) ?_ ?_;rotate_left;(intro w';go_simp;with_reducible rfl);rotate_left;(simp only [Act.put, sIb, sC0, sCs, i64_w, i32_w];rfl);refine pure_ (i := 8) (N := some 34) (v := ?_) (a' := ?_) #[true, true, true, true, true, true, true, true, true, false, false, false, false, false, false, false, false, false, false] rfl rfl (by kernel_rfl) (fun _ _ _ h => h) (Or.inl ⟨by rfl, ?_⟩) ?_ ?_;rotate_left;(intro w';go_simp;with_reducible rfl);rotate_left;(simp only [Act.put, sIb, sC0, sCs, i64_w, i32_w];rfl);refine take_ (i := 9) (N := some 35) (v := ?_) (a' := ?_) #[true, true, true, true, true, true, true, true, true, true, false, false, false, false, false, false, false, false, false] rfl rfl (by kernel_rfl) (fun _ _ _ h => h) (Or.inl ⟨by rfl, ?_⟩) hHeld ?_ ?_;rotate_left
      ·rintro w' ⟨s0, s1, s2, s3, s4⟩
       go_simp;with_reducible rfl
      rotate_left;(simp only [Act.put, sIb, sC0, sCs, i64_w, i32_w];rfl);refine take_ (i := 10) (N := some 36) (v := ?_) (a' := ?_) #[true, true, true, true, true, true, true, true, true, true, true, false, false, false, false, false, false, false, false] rfl rfl (by kernel_rfl) (fun _ _ _ h => h) (Or.inl ⟨by rfl, ?_⟩) hHeld ?_ ?_;rotate_left
      ·rintro w' ⟨s0, s1, s2, s3, s4⟩
       go_simp;with_reducible rfl
      rotate_left;(simp only [Act.put, sIb, sC0, sCs, i64_w, i32_w];rfl)
      refine one_ (i := 11) (N := some 37) #[true, true, true, true, true, true, true, true, true, true, true, true, false, false, false, false, false, false, false] rfl rfl (by kernel_rfl) (by decide) (fun K hK => ?_)
      refine goes_ Try.func35 (by kernel_rfl) rfl #[.agg #[.int .i64 e.f0, .int .i64 e.f1, .int .i64 e.f2, .bool e.f3]] (by rfl) rfl rfl (by simp only [List.map_toArray, List.map_cons, List.map_nil]; rfl) ?_
      with_reducible refine (extent_end.calls e.f0 e.f1 e.f2 e.f3 t _ HEND.out).mono ?_
      rintro e7 w7 ⟨rfl, hb7⟩
      refine ⟨_, rfl, ?_⟩
      have HB7 := Aside0.mk ((below_drew1 HB6.out).trans (hb7.mono (below_drew1 HB6.out).size))
      have HR7 := Aside0.mk (Kd.C_below (Kd.C_drew HR6.out) hb7)
      refine hK.out _ _ ⟨(hb7.cell (World.block_lt_of_cell? _ _ hHeld.1)).trans hHeld.1, (hb7.cell (World.block_lt_of_cell? _ _ hHeld.2.1)).trans hHeld.2.1, (hb7.cell (World.block_lt_of_cell? _ _ hHeld.2.2.1)).trans hHeld.2.2.1, (hb7.cell (World.block_lt_of_cell? _ _ hHeld.2.2.2.1)).trans hHeld.2.2.2.1, (hb7.cell (World.block_lt_of_cell? _ _ hHeld.2.2.2.2)).trans hHeld.2.2.2.2⟩ (fun hHeld => ?_)
      clear hK K;refine norm_ (a' := ?_) ?_ ?_;rotate_left
      ·show Act.put _ (some 37) _ = _
       simp only [Act.put, sIb, sC0, sCs, i64_w, i32_w];rfl
      refine pure_ (i := 12) (N := some 38) (v := ?_) (a' := ?_) #[true, true, true, true, true, true, true, true, true, true, true, true, true, false, false, false, false, false, false] rfl rfl (by kernel_rfl) (fun _ _ _ h => h) (Or.inl ⟨by rfl, ?_⟩) ?_ ?_;rotate_left;(intro w';go_simp;with_reducible rfl);rotate_left;(simp only [Act.put, sIb, sC0, sCs, i64_w, i32_w];rfl);refine pure_ (i := 13) (N := some 39) (v := ?_) (a' := ?_) #[true, true, true, true, true, true, true, true, true, true, true, true, true, true, false, false, false, false, false] rfl rfl (by kernel_rfl) (fun _ _ _ h => h) (Or.inl ⟨by rfl, ?_⟩) ?_ ?_;rotate_left;(intro w';go_simp;with_reducible rfl);rotate_left;(simp only [Act.put, sIb, sC0, sCs, i64_w, i32_w];rfl);refine pure_ (i := 14) (N := some 40) (v := ?_) (a' := ?_) #[true, true, true, true, true, true, true, true, true, true, true, true, true, true, true, false, false, false, false] rfl rfl (by kernel_rfl) (fun _ _ _ h => h) (Or.inl ⟨by rfl, ?_⟩) ?_ ?_;rotate_left;(intro w';go_simp;with_reducible rfl);rotate_left;(simp only [Act.put, sIb, sC0, sCs, i64_w, i32_w];rfl);refine pure_ (i := 15) (N := some 41) (v := ?_) (a' := ?_) #[true, true, true, true, true, true, true, true, true, true, true, true, true, true, true, true, false, false, false] rfl rfl (by kernel_rfl) (fun _ _ _ h => h) (Or.inl ⟨by rfl, ?_⟩) ?_ ?_;rotate_left;(intro w';go_simp;with_reducible rfl);rotate_left;(simp only [Act.put, sIb, sC0, sCs, i64_w, i32_w];rfl)
      refine one_ (i := 16) (N := some 42) #[true, true, true, true, true, true, true, true, true, true, true, true, true, true, true, true, true, false, false] rfl rfl (by kernel_rfl) (by decide) (fun K hK => ?_)
      refine goes_ Try.func37 (by kernel_rfl) rfl #[.slice A6 (insE l0 e).length c6] (by rfl) rfl rfl (by simp only [List.map_toArray, List.map_cons, List.map_nil]; rfl) ?_
      with_reducible refine (extent_apart.calls A6 c6 (insE l0 e) ap _ HR7.out HC6.out HAPF.out).mono ?_
      rintro e8 w8 ⟨rfl, hb8⟩
      refine ⟨_, rfl, ?_⟩
      have HB8 := Aside0.mk (HB7.out.trans (hb8.mono HB7.out.size))
      have HR8 := Aside0.mk (Kd.C_below HR7.out hb8)
      refine hK.out _ _ ⟨(hb8.cell (World.block_lt_of_cell? _ _ hHeld.1)).trans hHeld.1, (hb8.cell (World.block_lt_of_cell? _ _ hHeld.2.1)).trans hHeld.2.1, (hb8.cell (World.block_lt_of_cell? _ _ hHeld.2.2.1)).trans hHeld.2.2.1, (hb8.cell (World.block_lt_of_cell? _ _ hHeld.2.2.2.1)).trans hHeld.2.2.2.1, (hb8.cell (World.block_lt_of_cell? _ _ hHeld.2.2.2.2)).trans hHeld.2.2.2.2⟩ (fun hHeld => ?_)
      clear hK K;refine norm_ (a' := ?_) ?_ ?_;rotate_left
      ·show Act.put _ (some 42) _ = _
       simp only [Act.put, sIb, sC0, sCs, i64_w, i32_w];rfl
      refine pure_ (i := 17) (N := some 43) (v := ?_) (a' := ?_) #[true, true, true, true, true, true, true, true, true, true, true, true, true, true, true, true, true, true, false] rfl rfl (by kernel_rfl) (fun _ _ _ h => h) (Or.inl ⟨by rfl, ?_⟩) ?_ ?_;rotate_left;(intro w';go_simp;with_reducible rfl);rotate_left;(simp only [Act.put, sIb, sC0, sCs, i64_w, i32_w];rfl);refine pure_ (i := 18) (N := some 44) (v := ?_) (a' := ?_) #[true, true, true, true, true, true, true, true, true, true, true, true, true, true, true, true, true, true, true] rfl rfl (by kernel_rfl) (fun _ _ _ h => h) (Or.inl ⟨by rfl, ?_⟩) ?_ ?_;rotate_left;(intro w';go_simp;with_reducible rfl);rotate_left;(simp only [Act.put, sIb, sC0, sCs, i64_w, i32_w];rfl)
      refine done_ (by kernel_rfl) ?_
     case' neg =>
      have hilb : decide (i < l0.length) = false := decide_eq_false hil
      clear hlt hil;go_wp2
      refine start_ (n := 19) (S := fun w' => w'.cell? ⟨w.heap.size, 0, none⟩ = some (.int .i64 e.f0) ∧ w'.cell? ⟨w.heap.size, 1, none⟩ = some (.int .i64 e.f1) ∧ w'.cell? ⟨w.heap.size, 2, none⟩ = some (.int .i64 e.f2) ∧ w'.cell? ⟨w.heap.size, 3, none⟩ = some (.bool e.f3)) (ds := []) #[false, false, false, false, false, false, false, false, false, false, false, false, false, false, false, false, false, false, false] (by kernel_rfl) rfl rfl ⟨hx0, hx1, hx2, hx3⟩ (fun hHeld => ?_)
      refine pure_ (i := 0) (N := some 26) (v := ?_) (a' := ?_) #[true, false, false, false, false, false, false, false, false, false, false, false, false, false, false, false, false, false, false] rfl rfl (by kernel_rfl) (fun _ _ _ h => h) (Or.inl ⟨by rfl, ?_⟩) ?_ ?_;rotate_left;(intro w';go_simp;with_reducible rfl);rotate_left;(simp only [Act.put, sIb, sC0, sCs, i64_w, i32_w];rfl);refine pure_ (i := 1) (N := some 27) (v := ?_) (a' := ?_) #[true, true, false, false, false, false, false, false, false, false, false, false, false, false, false, false, false, false, false] rfl rfl (by kernel_rfl) (fun _ _ _ h => h) (Or.inl ⟨by rfl, ?_⟩) ?_ ?_;rotate_left;(intro w';go_simp;with_reducible rfl);rotate_left;(simp only [Act.put, sIb, sC0, sCs, i64_w, i32_w];rfl);refine pure_ (i := 2) (N := some 28) (v := ?_) (a' := ?_) #[true, true, true, false, false, false, false, false, false, false, false, false, false, false, false, false, false, false, false] rfl rfl (by kernel_rfl) (fun _ _ _ h => h) (Or.inl ⟨by rfl, ?_⟩) ?_ ?_;rotate_left;(intro w';go_simp;with_reducible rfl);rotate_left;(simp only [Act.put, sIb, sC0, sCs, i64_w, i32_w];rfl);refine pure_ (i := 3) (N := some 29) (v := ?_) (a' := ?_) #[true, true, true, true, false, false, false, false, false, false, false, false, false, false, false, false, false, false, false] rfl rfl (by kernel_rfl) (fun _ _ _ h => h) (Or.inl ⟨by rfl, ?_⟩) ?_ ?_;rotate_left;(intro w';go_simp;with_reducible rfl);rotate_left;(simp only [Act.put, sIb, sC0, sCs, i64_w, i32_w];rfl);refine pure_ (i := 4) (N := some 30) (v := ?_) (a' := ?_) #[true, true, true, true, true, false, false, false, false, false, false, false, false, false, false, false, false, false, false] rfl rfl (by kernel_rfl) (fun _ _ _ h => h) (Or.inl ⟨by rfl, ?_⟩) ?_ ?_;rotate_left;(intro w';go_simp;with_reducible rfl);rotate_left;(simp only [Act.put, sIb, sC0, sCs, i64_w, i32_w];rfl);refine pure_ (i := 5) (N := some 31) (v := undef) (a' := ?_) #[true, true, true, true, true, true, false, false, false, false, false, false, false, false, false, false, false, false, false] rfl rfl (by kernel_rfl) (fun _ _ _ h => h) (Or.inr ⟨by rfl, rfl⟩) ?_ ?_;rotate_left;(simp only [Act.put, sIb, sC0, sCs, i64_w, i32_w];rfl);refine pure_ (i := 6) (N := some 32) (v := undef) (a' := ?_) #[true, true, true, true, true, true, true, false, false, false, false, false, false, false, false, false, false, false, false] rfl rfl (by kernel_rfl) (fun _ _ _ h => h) (Or.inr ⟨by rfl, rfl⟩) ?_ ?_;rotate_left;(simp only [Act.put, sIb, sC0, sCs, i64_w, i32_w];rfl);refine pure_ (i := 7) (N := some 33) (v := undef) (a' := ?_) #[true, true, true, true, true, true, true, true, false, false, false, false, false, false, false, false, false, false, false] rfl rfl (by kernel_rfl) (fun _ _ _ h => h) (Or.inr ⟨by rfl, rfl⟩) ?_ ?_;rotate_left;(simp only [Act.put, sIb, sC0, sCs, i64_w, i32_w];rfl);refine pure_ (i := 8) (N := some 34) (v := undef) (a' := ?_) #[true, true, true, true, true, true, true, true, true, false, false, false, false, false, false, false, false, false, false] rfl rfl (by kernel_rfl) (fun _ _ _ h => h) (Or.inr ⟨by rfl, rfl⟩) ?_ ?_;rotate_left;(simp only [Act.put, sIb, sC0, sCs, i64_w, i32_w];rfl);refine pure_ (i := 9) (N := some 35) (v := undef) (a' := ?_) #[true, true, true, true, true, true, true, true, true, true, false, false, false, false, false, false, false, false, false] rfl rfl (by kernel_rfl) (fun _ _ _ h => h) (Or.inr ⟨by rfl, rfl⟩) ?_ ?_;rotate_left;(simp only [Act.put, sIb, sC0, sCs, i64_w, i32_w];rfl);refine pure_ (i := 10) (N := some 36) (v := undef) (a' := ?_) #[true, true, true, true, true, true, true, true, true, true, true, false, false, false, false, false, false, false, false] rfl rfl (by kernel_rfl) (fun _ _ _ h => h) (Or.inr ⟨by rfl, rfl⟩) ?_ ?_;rotate_left;(simp only [Act.put, sIb, sC0, sCs, i64_w, i32_w];rfl);refine pure_ (i := 11) (N := some 37) (v := undef) (a' := ?_) #[true, true, true, true, true, true, true, true, true, true, true, true, false, false, false, false, false, false, false] rfl rfl (by kernel_rfl) (fun _ _ _ h => h) (Or.inr ⟨by rfl, rfl⟩) ?_ ?_;rotate_left;(simp only [Act.put, sIb, sC0, sCs, i64_w, i32_w];rfl);refine pure_ (i := 12) (N := some 38) (v := undef) (a' := ?_) #[true, true, true, true, true, true, true, true, true, true, true, true, true, false, false, false, false, false, false] rfl rfl (by kernel_rfl) (fun _ _ _ h => h) (Or.inr ⟨by rfl, rfl⟩) ?_ ?_;rotate_left;(simp only [Act.put, sIb, sC0, sCs, i64_w, i32_w];rfl);refine pure_ (i := 13) (N := some 39) (v := ?_) (a' := ?_) #[true, true, true, true, true, true, true, true, true, true, true, true, true, true, false, false, false, false, false] rfl rfl (by kernel_rfl) (fun _ _ _ h => h) (Or.inl ⟨by rfl, ?_⟩) ?_ ?_;rotate_left;(intro w';go_simp;with_reducible rfl);rotate_left;(simp only [Act.put, sIb, sC0, sCs, i64_w, i32_w];rfl);refine pure_ (i := 14) (N := some 40) (v := ?_) (a' := ?_) #[true, true, true, true, true, true, true, true, true, true, true, true, true, true, true, false, false, false, false] rfl rfl (by kernel_rfl) (fun _ _ _ h => h) (Or.inl ⟨by rfl, ?_⟩) ?_ ?_;rotate_left;(intro w';go_simp;with_reducible rfl);rotate_left;(simp only [Act.put, sIb, sC0, sCs, i64_w, i32_w];rfl);refine pure_ (i := 15) (N := some 41) (v := ?_) (a' := ?_) #[true, true, true, true, true, true, true, true, true, true, true, true, true, true, true, true, false, false, false] rfl rfl (by kernel_rfl) (fun _ _ _ h => h) (Or.inl ⟨by rfl, ?_⟩) ?_ ?_;rotate_left;(intro w';go_simp;with_reducible rfl);rotate_left;(simp only [Act.put, sIb, sC0, sCs, i64_w, i32_w];rfl)
      refine one_ (i := 16) (N := some 42) #[true, true, true, true, true, true, true, true, true, true, true, true, true, true, true, true, true, false, false] rfl rfl (by kernel_rfl) (by decide) (fun K hK => ?_)
      refine goes_ Try.func37 (by kernel_rfl) rfl #[.slice A6 (insE l0 e).length c6] (by rfl) rfl rfl (by simp only [List.map_toArray, List.map_cons, List.map_nil]; rfl) ?_
      with_reducible refine (extent_apart.calls A6 c6 (insE l0 e) ap _ (Kd.C_drew HR6.out) HC6.out HAPF.out).mono ?_
      rintro e8 w8 ⟨rfl, hb8⟩
      refine ⟨_, rfl, ?_⟩
      have HB8 := Aside0.mk ((below_drew1 HB6.out).trans (hb8.mono (below_drew1 HB6.out).size))
      have HR8 := Aside0.mk (Kd.C_below (Kd.C_drew HR6.out) hb8)
      refine hK.out _ _ ⟨(hb8.cell (World.block_lt_of_cell? _ _ hHeld.1)).trans hHeld.1, (hb8.cell (World.block_lt_of_cell? _ _ hHeld.2.1)).trans hHeld.2.1, (hb8.cell (World.block_lt_of_cell? _ _ hHeld.2.2.1)).trans hHeld.2.2.1, (hb8.cell (World.block_lt_of_cell? _ _ hHeld.2.2.2)).trans hHeld.2.2.2⟩ (fun hHeld => ?_)
      clear hK K;refine norm_ (a' := ?_) ?_ ?_;rotate_left
      ·show Act.put _ (some 42) _ = _
       simp only [Act.put, sIb, sC0, sCs, i64_w, i32_w];rfl
      refine pure_ (i := 17) (N := some 43) (v := ?_) (a' := ?_) #[true, true, true, true, true, true, true, true, true, true, true, true, true, true, true, true, true, true, false] rfl rfl (by kernel_rfl) (fun _ _ _ h => h) (Or.inl ⟨by rfl, ?_⟩) ?_ ?_;rotate_left;(intro w';go_simp;with_reducible rfl);rotate_left;(simp only [Act.put, sIb, sC0, sCs, i64_w, i32_w];rfl);refine pure_ (i := 18) (N := some 44) (v := ?_) (a' := ?_) #[true, true, true, true, true, true, true, true, true, true, true, true, true, true, true, true, true, true, true] rfl rfl (by kernel_rfl) (fun _ _ _ h => h) (Or.inl ⟨by rfl, ?_⟩) ?_ ?_;rotate_left;(intro w';go_simp;with_reducible rfl);rotate_left;(simp only [Act.put, sIb, sC0, sCs, i64_w, i32_w];rfl)
      refine done_ (by kernel_rfl) ?_
     all_goals
      cases ap with
      | false =>
       have HR1 := Aside0.mk (show r1 = [] ∧ r2 = 4 by
        have h9 := HM.out
        unfold putR at h9
        rw [if_pos (show clash l0 e = true from HCL2.out)] at h9
        obtain ⟨a, b⟩ := Prod.mk.inj h9
        exact ⟨a.symm, b.symm⟩)
       go_wp2
       go_ret2
       obtain ⟨rfl, rfl⟩ := HR1.out
       exact ⟨_, rfl, Kd.R_nil _ _ _ _ _, HB8.out⟩
      | true =>
       have HR1 := Aside0.mk (show fitL (mergeL (insE l0 e)) = (r1, r2) by
        have h9 := HM.out
        unfold putR at h9
        rw [if_neg (show ¬ clash l0 e = true by rw [HCL2.out]; decide)] at h9
        exact h9)
       have HMR := Aside0.mk (HMG.out.trans (congrArg some HR1.out))
       go_wp2_with (go_at_call 40; refine (extent_merged.calls _ A6 c6 (insE l0 e) r1 r2 _ HR8.out HC6.out HMR.out).mono ?_; rintro e9 w9 ⟨v9, rfl, ho9, hb9⟩; have HO9 := Aside0.mk (Kd.R_lower ho9 HB8.out.size); have HB9 := Aside0.mk (HB8.out.trans (hb9.mono HB8.out.size)); clear ho9 hb9)
       go_ret2
       exact ⟨_, rfl, HO9.out, HB9.out⟩
   ·rw [if_neg hok] at h
    cases h
  ·obtain rfl : q = false := by simpa using hqt
   rw [if_neg (by decide)] at h
   obtain ⟨rfl, rfl⟩ := Prod.mk.inj (Option.some.inj h)
   clear h hqt
   go_enter Try.func14, Try.ntmps14
   go_wp2_with (first | (go_at_call 34; refine (extent_may.calls a1_0 a1_1 a1_2 a1_3 false _ HQ.out).mono ?_; rintro e2 w2 ⟨rfl, hb2⟩; have HB2 := Aside0.mk (HB1.out.trans (hb2.mono HB1.out.size)); clear hb2) | (go_at_call 12; refine (extent_Check.calls k A0 c0 l0 0 _ (Kd.C_alloc HR0.out _) HC0.out HT.out).mono ?_; rintro e1 w1 ⟨rfl, hb1⟩; have HBK1 := Aside0.mk (blk_below (blk_new w _) hb1); have hc10 := (blk_cell HBK1.out 0).trans rfl; have hc11 := (blk_cell HBK1.out 1).trans rfl; have hc12 := (blk_cell HBK1.out 2).trans rfl; have hc13 := (blk_cell HBK1.out 3).trans rfl; have HB1 := Aside0.mk (HBA.out.trans (hb1.mono HBA.out.size)); clear hb1))
   go_ret2
   exact ⟨_, rfl, Kd.R_nil _ _ _ _ _, HB2.out⟩
 ·rw [if_neg h0] at h
  obtain ⟨rfl, rfl⟩ := Prod.mk.inj (Option.some.inj h)
  have h0b : decide (t = 0) = false := decide_eq_false h0
  have h0c : (t != 0) = true := by simpa using h0
  clear h h0
  go_enter Try.func14, Try.ntmps14
  go_wp2_with (go_at_call 12; refine (extent_Check.calls k A0 c0 l0 t _ (Kd.C_alloc HR0.out _) HC0.out HT.out).mono ?_; rintro e2 w2 ⟨rfl, hb2⟩; have HB2 := Aside0.mk (HBA.out.trans (hb2.mono HBA.out.size)); clear hb2)
  go_ret2
  exact ⟨_, rfl, Kd.R_nil _ _ _ _ _, HB2.out⟩
end Go.Proofs.Ytopmjjnkolfciaa.Pr
end
section
namespace Go.Proofs.Ytopmjjnkolfciaa.Pr
open Go.RowKit Go.Proofs.YtopmjjnkolfciaaW.PrintWords Go.Proofs.YtopmjjnkolfciaaW.PrintLast Go.Proofs.YtopmjjnkolfciaaW.PrintMore
attribute [local go_sem] max2_int min2_int max_two min_two max_three min_three max_four min_four
attribute [local go_sem] Go.Proofs.Ytopmjjnkolfciaa.Hl.str_geq Go.Proofs.Ytopmjjnkolfciaa.Hl.str_gtr Go.Proofs.Ytopmjjnkolfciaa.Hl.str_leq
set_option linter.unusedVariables false
set_option linter.unusedSimpArgs false
def extent_ranged.f (k : Nat) (l0 : List (S24)) (a1 : Int) (a2 : Int) : Option (Bool) := (extent_Check.f k l0).bind fun t118 => (if t118 = 0 then (if a1 ≥ 0 then (some (decide (a2 ≥ a1))) else (some false)) else (some false))
set_option maxHeartbeats 8000000 in
set_option maxRecDepth 100000 in
theorem extent_ranged.calls (k : Nat) (A0 : Option Addr) (c0 : Nat) (l0 : List (S24)) (a1 : Int) (a2 : Int) (r : Bool) (w : World) (hr0 : Kd.C k24 w A0 l0.length l0) (hc0 : l0.length ≤ c0) (h : extent_ranged.f k l0 a1 a2 = some r) :
  Calls Try.prog 38 #[.slice A0 l0.length c0, .int .i64 a1, .int .i64 a2] w fun e w' => e = .returned (.bool r) ∧ Below w.heap.size w w' := by
 have HR0 := Aside0.mk hr0
 have HC0 := Aside0.mk hc0
 clear hr0 hc0
 have HB := Aside0.mk (Below.refl w.heap.size w)
 have H : ((extent_Check.f k l0).bind fun t118 => (if t118 = 0 then (if a1 ≥ 0 then (some (decide (a2 ≥ a1))) else (some false)) else (some false))) = some r := h
 clear h
 replace H := Option.bind_eq_some_iff.mp H
 obtain ⟨t118, A40, H⟩ := H
 replace H : (if t118 = 0 then (if a1 ≥ 0 then (some (decide (a2 ≥ a1))) else (some false)) else (some false)) = some r := H
 have A4 := Aside0.mk A40
 clear A40
 by_cases c5 : t118 = 0
 ·rw [if_pos c5] at H
  have c5b0 : (t118 == 0) = true := beq_iff_eq.mpr c5
  have c5b1 : (t118 != 0) = false := bne_eq_false_iff_eq.mpr c5
  clear c5
  by_cases c6 : a1 ≥ 0
  ·rw [if_pos c6] at H
   have c6b0 : decide (0 ≤ a1) = true := decide_eq_true c6
   clear c6;obtain rfl := Option.some.inj H
   go_enter Try.func38, Try.ntmps38
   go_wp2_with (first | ((with_reducible refine gate_callee (f := 12) rfl ?_); refine goesL_ (some 8) rfl rfl Try.func12 (by kernel_rfl) rfl #[.slice A0 l0.length c0] rfl (by (try simp only [List.map_toArray, List.map_cons, List.map_nil]); first | done | rfl | (simp only [List.length_drop, List.length_take]; rfl)) ?_; (with_reducible refine (extent_Check.calls k _ _ l0 t118 _ ?side1 ?side2 A4.out).mono ?_); (case side1 => repeat (first | exact HR0.out | (with_reducible refine Kd.C_alloc ?_ _) | (with_reducible refine Kd.C_drewN ?_ _) | (with_reducible refine Kd.C_drew ?_))); (case side2 => exact HC0.out); rintro e w7 ⟨rfl, hb⟩; refine ⟨_, rfl, ?_⟩; have n0_ := Aside0.mk (below_step (by repeat (first | (with_reducible first | exact HB.out | apply below_alloc | apply pw_below_drewN | apply below_drew1) | exact HB.out)) hb); clear HB; have HB := n0_; clear n0_; (try clear hb); (try clear hb2); (try clear hk); (try clear hi)))
   go_ret
   exact ⟨by first | rfl | (simp [errW_none, errW_some] <;> rfl) | (simp [*, errW_none, errW_some] <;> rfl), by repeat (first | (with_reducible first | exact HB.out | apply below_alloc | apply pw_below_drewN | apply below_drew1) | exact HB.out)⟩
  ·rw [if_neg c6] at H
   have c6b0 : decide (0 ≤ a1) = false := decide_eq_false c6
   clear c6;obtain rfl := Option.some.inj H
   go_enter Try.func38, Try.ntmps38
   go_wp2_with (first | ((with_reducible refine gate_callee (f := 12) rfl ?_); refine goesL_ (some 8) rfl rfl Try.func12 (by kernel_rfl) rfl #[.slice A0 l0.length c0] rfl (by (try simp only [List.map_toArray, List.map_cons, List.map_nil]); first | done | rfl | (simp only [List.length_drop, List.length_take]; rfl)) ?_; (with_reducible refine (extent_Check.calls k _ _ l0 t118 _ ?side1 ?side2 A4.out).mono ?_); (case side1 => repeat (first | exact HR0.out | (with_reducible refine Kd.C_alloc ?_ _) | (with_reducible refine Kd.C_drewN ?_ _) | (with_reducible refine Kd.C_drew ?_))); (case side2 => exact HC0.out); rintro e w8 ⟨rfl, hb⟩; refine ⟨_, rfl, ?_⟩; have n0_ := Aside0.mk (below_step (by repeat (first | (with_reducible first | exact HB.out | apply below_alloc | apply pw_below_drewN | apply below_drew1) | exact HB.out)) hb); clear HB; have HB := n0_; clear n0_; (try clear hb); (try clear hb2); (try clear hk); (try clear hi)))
   go_ret
   exact ⟨by first | rfl | (simp [errW_none, errW_some] <;> rfl) | (simp [*, errW_none, errW_some] <;> rfl), by repeat (first | (with_reducible first | exact HB.out | apply below_alloc | apply pw_below_drewN | apply below_drew1) | exact HB.out)⟩
 ·rw [if_neg c5] at H
  have c5b0 : (t118 == 0) = false := beq_eq_false_iff_ne.mpr c5
  have c5b1 : (t118 != 0) = true := bne_iff_ne.mpr c5
  obtain rfl := Option.some.inj H
  go_enter Try.func38, Try.ntmps38
  go_wp2_with (first | ((with_reducible refine gate_callee (f := 12) rfl ?_); refine goesL_ (some 8) rfl rfl Try.func12 (by kernel_rfl) rfl #[.slice A0 l0.length c0] rfl (by (try simp only [List.map_toArray, List.map_cons, List.map_nil]); first | done | rfl | (simp only [List.length_drop, List.length_take]; rfl)) ?_; (with_reducible refine (extent_Check.calls k _ _ l0 t118 _ ?side1 ?side2 A4.out).mono ?_); (case side1 => repeat (first | exact HR0.out | (with_reducible refine Kd.C_alloc ?_ _) | (with_reducible refine Kd.C_drewN ?_ _) | (with_reducible refine Kd.C_drew ?_))); (case side2 => exact HC0.out); rintro e w9 ⟨rfl, hb⟩; refine ⟨_, rfl, ?_⟩; have n0_ := Aside0.mk (below_step (by repeat (first | (with_reducible first | exact HB.out | apply below_alloc | apply pw_below_drewN | apply below_drew1) | exact HB.out)) hb); clear HB; have HB := n0_; clear n0_; (try clear hb); (try clear hb2); (try clear hk); (try clear hi)))
  go_ret
  exact ⟨by first | rfl | (simp [errW_none, errW_some] <;> rfl) | (simp [*, errW_none, errW_some] <;> rfl), by repeat (first | (with_reducible first | exact HB.out | apply below_alloc | apply pw_below_drewN | apply below_drew1) | exact HB.out)⟩
end Go.Proofs.Ytopmjjnkolfciaa.Pr
end
section
namespace Go.Proofs.Ytopmjjnkolfciaa.RwS
open Go.RowKit Go.Proofs.YtopmjjnkolfciaaW.PrintWords Go.Proofs.YtopmjjnkolfciaaW.PrintLast Go.Proofs.YtopmjjnkolfciaaW.PrintMore Go.Proofs.Ytopmjjnkolfciaa.Pr
set_option linter.unusedVariables false
set_option linter.unusedSimpArgs false
abbrev E := S32
def cells2 (e : E) : List Value := [.int .i64 e.f0, .int .i64 e.f1]
def flat (xs : List E) : List Value := xs.flatMap cells2
theorem flat_cons (e : E) (xs : List E) : flat (e :: xs) = cells2 e ++ flat xs := rfl
theorem flat_append (a b : List E) : flat (a ++ b) = flat a ++ flat b := by unfold flat; rw [List.flatMap_append]
theorem flat_len : ∀ xs : List E, (flat xs).length = xs.length * 2
  | [] => rfl
  | e :: xs => by rw [flat_cons, List.length_append, flat_len xs, List.length_cons]; simp [cells2]; omega
theorem flat_take : ∀ (xs : List E) (n : Nat), flat (xs.take n) = (flat xs).take (n * 2)
  | [], n => by simp [flat]
  | e :: xs, 0 => by simp [flat]
  | e :: xs, n + 1 => by
    rw [List.take_succ_cons, flat_cons, flat_cons, flat_take xs n, show (n + 1) * 2 = (cells2 e).length + n * 2 by simp [cells2]; omega, List.take_length_add_append]
theorem flat_drop : ∀ (xs : List E) (n : Nat), flat (xs.drop n) = (flat xs).drop (n * 2)
  | [], n => by simp [flat]
  | e :: xs, 0 => by simp
  | e :: xs, n + 1 => by
    rw [List.drop_succ_cons, flat_cons, flat_drop xs n, show (n + 1) * 2 = (cells2 e).length + n * 2 by simp [cells2]; omega, List.drop_length_add_append]
theorem flat_of : ∀ (xs : List E) (inner : List Value), inner.length = xs.length * 2 → (∀ j p, xs[j]? = some p → (inner.drop (j * 2)).take 2 = cells2 p) → inner = flat xs
  | [], inner, hl, _ => List.eq_nil_of_length_eq_zero (by simpa using hl)
  | e :: xs, inner, hl, h => by
    have h0 := h 0 e rfl
    rw [Nat.zero_mul, List.drop_zero] at h0
    have hr := flat_of xs (inner.drop 2) (by rw [List.length_drop, hl, List.length_cons]; omega) (fun j p hj => by
      have := h (j + 1) p (by simpa using hj)
      rw [List.drop_drop, show 2 + j * 2 = (j + 1) * 2 by omega]
      exact this)
    rw [flat_cons, ← h0, ← hr, List.take_append_drop]
theorem flat_at : ∀ (xs : List E) (j : Nat) (p : E), xs[j]? = some p → ((flat xs).drop (j * 2)).take 2 = cells2 p
  | e :: xs, 0, p, h => by
    simp only [List.getElem?_cons_zero, Option.some.injEq] at h
    subst h
    rw [Nat.zero_mul, List.drop_zero, flat_cons, List.take_append_of_le_length (by simp [cells2]), List.take_of_length_le (by simp [cells2])]
  | e :: xs, j + 1, p, h => by
    rw [← flat_drop, List.drop_succ_cons, flat_drop]
    exact flat_at xs j p (by simpa using h)
theorem flat_one : ∀ (xs : List E), ∀ v ∈ flat xs, v.oneCell' = true := by
  intro xs v hv
  obtain ⟨e, _, h⟩ := List.mem_flatMap.1 hv
  simp only [cells2, List.mem_cons, List.not_mem_nil, or_false] at h
  rcases h with rfl | rfl <;> rfl
theorem R_flat {w : World} {base : Nat} {ok : Nat → Prop} {v : Value} {xs : List E} (h : Kd.R k32 32 w base ok v xs) : w.ownsRow base 32 2 v xs.length (flat xs) := by
  obtain ⟨h0, inner, ho, hr⟩ := h
  have : inner = flat xs := flat_of xs inner hr.1 (fun j p hj => k32_openM (hr.2 j p hj))
  rw [← this]; exact ho
theorem flat_R {w : World} {base : Nat} {ok : Nat → Prop} {v : Value} {xs : List E} (ho : w.ownsRow base 32 2 v xs.length (flat xs)) (hok : ∀ k, v.ownBlock = some k → ok k) : Kd.R k32 32 w base ok v xs :=
  ⟨hok, flat xs, ho, flat_len xs, fun j p hj => by rw [show k32.sz = 2 from rfl, flat_at xs j p hj]; exact k32_mkM _ _ _ p⟩
end Go.Proofs.Ytopmjjnkolfciaa.RwS
end
section
namespace Go.Proofs.Ytopmjjnkolfciaa.Pr
open Go.RowKit Go.Proofs.YtopmjjnkolfciaaW.PrintWords Go.Proofs.YtopmjjnkolfciaaW.PrintLast Go.Proofs.YtopmjjnkolfciaaW.PrintMore
attribute [local go_sem] max2_int min2_int max_two min_two max_three min_three max_four min_four
attribute [local go_sem] Go.Proofs.Ytopmjjnkolfciaa.Hl.str_geq Go.Proofs.Ytopmjjnkolfciaa.Hl.str_gtr Go.Proofs.Ytopmjjnkolfciaa.Hl.str_leq
set_option linter.unusedVariables false
set_option linter.unusedSimpArgs false
def extent_Find.f (k : Nat) (l0 : List S24) (a1 : Int) : Option (Int × Bool × Bool) := (extent_Check.f k l0).bind fun t => (if t = 0 then (if a1 < 0 then some (0, false, false) else (if okB l0 = true then some (findR l0 a1) else none)) else some (0, false, false))
theorem find_end {l : List S24} (hall : ∀ e ∈ l, mayE e = true) (hr : riseL l) {s : Int} (h : behindN l s = l.length) : findR l s = (0, false, false) := by
 unfold findR
 have : l.find? (fun e => decide (e.f0 ≤ s ∧ s < e.f0 + e.f2)) = none := by
  refine List.find?_eq_none.2 fun e he hd => ?_
  have hd' := of_decide_eq_true hd
  have := behind_take l s e (by rw [h, List.take_length]; exact he)
  omega
 rw [this]
theorem find_at {l : List S24} (hall : ∀ e ∈ l, mayE e = true) (hr : riseL l) {s : Int} {i : Nat} (h : behindN l s = i) (hi : i < l.length) : findR l s = if l[i].f0 > s then (0, false, false) else (l[i].f1 + (s - l[i].f0), !l[i].f3, true) := by
 have hlow : ∀ e ∈ l.take i, e.f0 + e.f2 ≤ s := by rw [← h]; exact behind_take l s
 have hhigh : ∀ e ∈ l.drop i, ¬ e.f0 + e.f2 ≤ s := by rw [← h]; exact behind_drop l s hr (fun y hy => by have := mayE_facts (hall y hy); omega)
 have hsp : l = l.take i ++ l[i] :: l.drop (i + 1) := by rw [← List.drop_eq_getElem_cons hi, List.take_append_drop]
 have hli : ¬ l[i].f0 + l[i].f2 ≤ s := hhigh _ (by rw [List.drop_eq_getElem_cons hi]; exact List.mem_cons_self)
 have hf : l.find? (fun e => decide (e.f0 ≤ s ∧ s < e.f0 + e.f2)) = if l[i].f0 > s then none else some l[i] := by
  rw [show l.find? (fun e => decide (e.f0 ≤ s ∧ s < e.f0 + e.f2)) = (l.take i ++ l[i] :: l.drop (i + 1)).find? (fun e => decide (e.f0 ≤ s ∧ s < e.f0 + e.f2)) from congrArg (List.find? _) hsp, List.find?_append]
  have h1 : (l.take i).find? (fun e => decide (e.f0 ≤ s ∧ s < e.f0 + e.f2)) = none := List.find?_eq_none.2 fun e he hd => by have := of_decide_eq_true hd; have := hlow e he; omega
  rw [h1, Option.none_or, List.find?_cons]
  by_cases c : l[i].f0 > s
  ·rw [if_pos c, decide_eq_false (by omega)]
   refine List.find?_eq_none.2 fun e he hd => ?_
   have hd' := of_decide_eq_true hd
   obtain ⟨j, hj, rfl⟩ := List.mem_iff_getElem.1 he
   rw [List.getElem_drop] at hd'
   rw [List.length_drop] at hj
   have := List.pairwise_iff_getElem.1 hr i (i + 1 + j) hi (by omega) (by omega)
   have := mayE_facts (hall l[i] (List.getElem_mem hi))
   omega
  ·rw [if_neg c, decide_eq_true (by omega)]
 unfold findR
 rw [hf]
 by_cases c : l[i].f0 > s
 ·rw [if_pos c, if_pos c]
 ·rw [if_neg c, if_neg c]
set_option maxHeartbeats 8000000 in
set_option maxRecDepth 100000 in
theorem extent_Find.calls (k : Nat) (A0 : Option Addr) (c0 : Nat) (l0 : List (S24)) (a1 : Int) (r1 : Int) (r2 : Bool) (r3 : Bool) (w : World) (hr0 : Kd.C k24 w A0 l0.length l0) (hc0 : l0.length ≤ c0) (h : extent_Find.f k l0 a1 = some (r1, r2, r3)) :
  Calls Try.prog 21 #[.slice A0 l0.length c0, .int .i64 a1] w fun e w' => e = .returned (.tuple #[.int .i64 r1, .bool r2, .bool r3]) ∧ Below w.heap.size w w' := by
 unfold extent_Find.f at h
 obtain ⟨t, ht, h⟩ := Option.bind_eq_some_iff.1 h
 have hu24 := Try.underlying24
 have HR0 := Aside0.mk hr0
 have HC0 := Aside0.mk hc0
 have HT := Aside0.mk ht
 clear hr0 hc0 ht
 by_cases h0 : t = 0
 ·subst h0
  rw [if_pos rfl] at h
  by_cases h1 : a1 < 0
  ·rw [if_pos h1] at h
   obtain ⟨rfl, h9⟩ := Prod.mk.inj (Option.some.inj h)
   obtain ⟨rfl, rfl⟩ := Prod.mk.inj h9
   clear h h9
   have h1b : decide (a1 < 0) = true := decide_eq_true h1
   clear h1
   go_enter Try.func21, Try.ntmps21
   go_wp2_with (go_at_call 12; refine (extent_Check.calls k A0 c0 l0 0 _ HR0.out HC0.out HT.out).mono ?_; rintro e2 w2 ⟨rfl, hb2⟩; have HB2 := Aside0.mk hb2; clear hb2)
   go_ret3
   exact ⟨rfl, HB2.out⟩
  ·rw [if_neg h1] at h
   have h1b : decide (a1 < 0) = false := decide_eq_false h1
   by_cases hok : okB l0 = true
   ·rw [if_pos hok] at h
    have HOK := Aside0.mk (okB_facts hok)
    have HF := Aside0.mk (Option.some.inj h)
    have H1 := Aside0.mk h1
    clear h h1 hok
    obtain ⟨i, hi⟩ : ∃ i, behindN l0 a1 = i := ⟨_, rfl⟩
    have hile := behindN_le l0 a1
    rw [hi] at hile
    have HI := Aside0.mk hi
    have HBC := Aside0.mk (fun W hr => behind_calls A0 c0 l0 a1 W hr HC0.out HOK.out)
    rw [hi] at HBC
    clear hi
    by_cases he : i = l0.length
    ·have HR := Aside0.mk (find_end (List.all_eq_true.1 HOK.out.2.1) HOK.out.2.2 (HI.out.trans he))
     subst he
     obtain ⟨rfl, h9⟩ := Prod.mk.inj (HF.out.symm.trans HR.out)
     obtain ⟨rfl, rfl⟩ := Prod.mk.inj h9
     clear h9 hile
     go_enter Try.func21, Try.ntmps21
     go_wp2_with (first | (go_at_call 41; refine (HBC.out _ (Kd.C_below HR0.out HB2.out)).mono ?_; rintro e3 w3 ⟨rfl, hb3⟩; have HB3 := Aside0.mk (HB2.out.trans (hb3.mono HB2.out.size)); clear hb3) | (go_at_call 12; refine (extent_Check.calls k A0 c0 l0 0 _ HR0.out HC0.out HT.out).mono ?_; rintro e2 w2 ⟨rfl, hb2⟩; have HB2 := Aside0.mk hb2; clear hb2))
     go_ret3
     exact ⟨rfl, HB3.out⟩
    ·have hil : i < l0.length := by omega
     have HR := Aside0.mk (find_at (List.all_eq_true.1 HOK.out.2.1) HOK.out.2.2 HI.out hil)
     have hi0 : (0 : Int) ≤ (i : Int) := by omega
     have hi1 : (i : Int) < (l0.length : Int) := by omega
     have hieq : (i == l0.length) = false := beq_eq_false_iff_ne.2 he
     have hieqi : ((i : Int) == (l0.length : Int)) = false := beq_eq_false_iff_ne.2 (by omega)
     obtain ⟨ad, ead, hca, hcb, hcc, hcd⟩ := at_T24 HR0.out (i : Int) hi0 hi1
     cases ead
     simp only [Int.toNat_natCast] at hca hcb hcc hcd
     have hmay : mayE (rd_T24 l0 (i : Int)) = true := mayE_at HOK.out.2.1 hil
     rw [rd_in hil] at hca hcb hcc hcd hmay
     obtain ⟨e, hee⟩ : ∃ e, l0[i] = e := ⟨_, rfl⟩
     rw [hee] at hca hcb hcc hcd HR hmay
     have HCA := Aside0.mk hca
     have HCB := Aside0.mk hcb
     have HCD := Aside0.mk hcd
     have HMM := Aside0.mk (mayE_facts hmay)
     have HEND := Aside0.mk (show a1 < e.f0 + e.f2 by
      have := behind_drop l0 a1 HOK.out.2.2 (fun y hy => by have := mayE_facts (List.all_eq_true.1 HOK.out.2.1 y hy); omega) l0[i] (by rw [HI.out, List.drop_eq_getElem_cons hil]; exact List.mem_cons_self)
      rw [hee] at this; omega)
     clear hee hca hcb hcc hcd hmay he
     by_cases hc : e.f0 > a1
     ·have hcb : decide (a1 < e.f0) = true := decide_eq_true hc
      have hr := HR.out
      rw [if_pos hc] at hr
      obtain ⟨rfl, h9⟩ := Prod.mk.inj (HF.out.symm.trans hr)
      obtain ⟨rfl, rfl⟩ := Prod.mk.inj h9
      clear h9 hr hc
      go_enter Try.func21, Try.ntmps21
      go_wp2_with (first | (go_at_call 41; refine (HBC.out _ (Kd.C_below HR0.out HB2.out)).mono ?_; rintro e3 w3 ⟨rfl, hb3⟩; have HB3 := Aside0.mk (HB2.out.trans (hb3.mono HB2.out.size)); have hca := (HB3.out.cell (World.block_lt_of_cell? w _ HCA.out)).trans HCA.out; have hcb := (HB3.out.cell (World.block_lt_of_cell? w _ HCB.out)).trans HCB.out; have hcd := (HB3.out.cell (World.block_lt_of_cell? w _ HCD.out)).trans HCD.out; clear hb3) | (go_at_call 12; refine (extent_Check.calls k (some ad) c0 l0 0 _ HR0.out HC0.out HT.out).mono ?_; rintro e2 w2 ⟨rfl, hb2⟩; have HB2 := Aside0.mk hb2; clear hb2))
      go_ret3
      exact ⟨rfl, HB3.out⟩
     ·have hcb : decide (a1 < e.f0) = false := decide_eq_false hc
      have hr := HR.out
      rw [if_neg hc] at hr
      obtain ⟨rfl, h9⟩ := Prod.mk.inj (HF.out.symm.trans hr)
      obtain ⟨rfl, rfl⟩ := Prod.mk.inj h9
      have HCC := Aside0.mk hc
      obtain ⟨s1, hs1⟩ : ∃ s1 : Int, e.f1 + a1 = s1 := ⟨_, rfl⟩
      have hw1 : wrap64 (e.f1 + a1) = s1 := by have := H1.out; have := HEND.out; have := HMM.out; unfold wrap64; omega
      have hw2 : wrap64 (s1 - e.f0) = e.f1 + (a1 - e.f0) := by have := H1.out; have := HEND.out; have := HMM.out; unfold wrap64; omega
      clear h9 hr hc hs1
      go_enter Try.func21, Try.ntmps21
      go_wp2_with (first | (go_at_call 41; refine (HBC.out _ (Kd.C_below HR0.out HB2.out)).mono ?_; rintro e3 w3 ⟨rfl, hb3⟩; have HB3 := Aside0.mk (HB2.out.trans (hb3.mono HB2.out.size)); have hca := (HB3.out.cell (World.block_lt_of_cell? w _ HCA.out)).trans HCA.out; have hcb := (HB3.out.cell (World.block_lt_of_cell? w _ HCB.out)).trans HCB.out; have hcd := (HB3.out.cell (World.block_lt_of_cell? w _ HCD.out)).trans HCD.out; clear hb3) | (go_at_call 12; refine (extent_Check.calls k (some ad) c0 l0 0 _ HR0.out HC0.out HT.out).mono ?_; rintro e2 w2 ⟨rfl, hb2⟩; have HB2 := Aside0.mk hb2; clear hb2))
      refine start_ (n := 22) (S := fun w' => w'.cell? (ad.add (i * 4)) = some (.int .i64 e.f0) ∧ w'.cell? ⟨(ad.add (i * 4)).block, (ad.add (i * 4)).off + 1, none⟩ = some (.int .i64 e.f1) ∧ w'.cell? ⟨(ad.add (i * 4)).block, (ad.add (i * 4)).off + 3, none⟩ = some (.bool e.f3)) (ds := []) #[false, false, false, false, false, false, false, false, false, false, false, false, false, false, false, false, false, false, false, false, false, false] (by kernel_rfl) rfl rfl ⟨hca, hcb, hcd⟩ (fun hHeld => ?_)
      refine pure_ (i := 0) (N := some 31) (v := ?_) (a' := ?_) #[true, false, false, false, false, false, false, false, false, false, false, false, false, false, false, false, false, false, false, false, false, false] rfl rfl (by kernel_rfl) (fun _ _ _ h => h) (Or.inl ⟨by rfl, ?_⟩) ?_ ?_;rotate_left;(intro w';go_simp;with_reducible rfl);rotate_left;(simp only [Act.put, sIb, sC0, sCs, i64_w, i32_w];rfl);refine pure_ (i := 1) (N := some 32) (v := ?_) (a' := ?_) #[true, true, false, false, false, false, false, false, false, false, false, false, false, false, false, false, false, false, false, false, false, false] rfl rfl (by kernel_rfl) (fun _ _ _ h => h) (Or.inl ⟨by rfl, ?_⟩) ?_ ?_;rotate_left;(intro w';go_simp;with_reducible rfl);rotate_left;(simp only [Act.put, sIb, sC0, sCs, i64_w, i32_w];rfl);refine pure_ (i := 2) (N := some 33) (v := ?_) (a' := ?_) #[true, true, true, false, false, false, false, false, false, false, false, false, false, false, false, false, false, false, false, false, false, false] rfl rfl (by kernel_rfl) (fun _ _ _ h => h) (Or.inl ⟨by rfl, ?_⟩) ?_ ?_;rotate_left;(intro w';go_simp;with_reducible rfl);rotate_left;(simp only [Act.put, sIb, sC0, sCs, i64_w, i32_w];rfl);refine pure_ (i := 3) (N := some 34) (v := ?_) (a' := ?_) #[true, true, true, true, false, false, false, false, false, false, false, false, false, false, false, false, false, false, false, false, false, false] rfl rfl (by kernel_rfl) (fun _ _ _ h => h) (Or.inl ⟨by rfl, ?_⟩) ?_ ?_;rotate_left;(intro w';go_simp;with_reducible rfl);rotate_left;(simp only [Act.put, sIb, sC0, sCs, i64_w, i32_w];rfl);refine pure_ (i := 5) (N := some 36) (v := ?_) (a' := ?_) #[true, true, true, true, false, true, false, false, false, false, false, false, false, false, false, false, false, false, false, false, false, false] rfl rfl (by kernel_rfl) (fun _ _ _ h => h) (Or.inl ⟨by rfl, ?_⟩) ?_ ?_;rotate_left;(intro w';go_simp;with_reducible rfl);rotate_left;(simp only [Act.put, sIb, sC0, sCs, i64_w, i32_w];rfl);refine pure_ (i := 7) (N := some 38) (v := ?_) (a' := ?_) #[true, true, true, true, false, true, false, true, false, false, false, false, false, false, false, false, false, false, false, false, false, false] rfl rfl (by kernel_rfl) (fun _ _ _ h => h) (Or.inl ⟨by rfl, ?_⟩) ?_ ?_;rotate_left;(intro w';go_simp;with_reducible rfl);rotate_left;(simp only [Act.put, sIb, sC0, sCs, i64_w, i32_w];rfl);refine pure_ (i := 8) (N := some 39) (v := ?_) (a' := ?_) #[true, true, true, true, false, true, false, true, true, false, false, false, false, false, false, false, false, false, false, false, false, false] rfl rfl (by kernel_rfl) (fun _ _ _ h => h) (Or.inl ⟨by rfl, ?_⟩) ?_ ?_;rotate_left;(intro w';go_simp;with_reducible rfl);rotate_left;(simp only [Act.put, sIb, sC0, sCs, i64_w, i32_w];rfl);refine pure_ (i := 9) (N := some 40) (v := ?_) (a' := ?_) #[true, true, true, true, false, true, false, true, true, true, false, false, false, false, false, false, false, false, false, false, false, false] rfl rfl (by kernel_rfl) (fun _ _ _ h => h) (Or.inl ⟨by rfl, ?_⟩) ?_ ?_;rotate_left;(intro w';go_simp;with_reducible rfl);rotate_left;(simp only [Act.put, sIb, sC0, sCs, i64_w, i32_w];rfl);refine pure_ (i := 10) (N := some 41) (v := ?_) (a' := ?_) #[true, true, true, true, false, true, false, true, true, true, true, false, false, false, false, false, false, false, false, false, false, false] rfl rfl (by kernel_rfl) (fun _ _ _ h => h) (Or.inl ⟨by rfl, ?_⟩) ?_ ?_;rotate_left;(intro w';go_simp;with_reducible rfl);rotate_left;(simp only [Act.put, sIb, sC0, sCs, i64_w, i32_w];rfl);refine pure_ (i := 13) (N := some 44) (v := ?_) (a' := ?_) #[true, true, true, true, false, true, false, true, true, true, true, false, false, true, false, false, false, false, false, false, false, false] rfl rfl (by kernel_rfl) (fun _ _ _ h => h) (Or.inl ⟨by rfl, ?_⟩) ?_ ?_;rotate_left;(intro w';go_simp;with_reducible rfl);rotate_left;(simp only [Act.put, sIb, sC0, sCs, i64_w, i32_w];rfl);refine pure_ (i := 14) (N := some 45) (v := ?_) (a' := ?_) #[true, true, true, true, false, true, false, true, true, true, true, false, false, true, true, false, false, false, false, false, false, false] rfl rfl (by kernel_rfl) (fun _ _ _ h => h) (Or.inl ⟨by rfl, ?_⟩) ?_ ?_;rotate_left;(intro w';go_simp;with_reducible rfl);rotate_left;(simp only [Act.put, sIb, sC0, sCs, i64_w, i32_w];rfl);refine pure_ (i := 15) (N := some 46) (v := ?_) (a' := ?_) #[true, true, true, true, false, true, false, true, true, true, true, false, false, true, true, true, false, false, false, false, false, false] rfl rfl (by kernel_rfl) (fun _ _ _ h => h) (Or.inl ⟨by rfl, ?_⟩) ?_ ?_;rotate_left;(intro w';go_simp;with_reducible rfl);rotate_left;(simp only [Act.put, sIb, sC0, sCs, i64_w, i32_w];rfl);refine pure_ (i := 16) (N := some 47) (v := ?_) (a' := ?_) #[true, true, true, true, false, true, false, true, true, true, true, false, false, true, true, true, true, false, false, false, false, false] rfl rfl (by kernel_rfl) (fun _ _ _ h => h) (Or.inl ⟨by rfl, ?_⟩) ?_ ?_;rotate_left;(intro w';go_simp;with_reducible rfl);rotate_left;(simp only [Act.put, sIb, sC0, sCs, i64_w, i32_w];rfl);refine take_ (i := 4) (N := some 35) (v := ?_) (a' := ?_) #[true, true, true, true, true, true, false, true, true, true, true, false, false, true, true, true, true, false, false, false, false, false] rfl rfl (by kernel_rfl) (fun _ _ _ h => h) (Or.inl ⟨by rfl, ?_⟩) hHeld ?_ ?_;rotate_left
      ·rintro w' ⟨s0, s1, s2⟩
       go_simp;with_reducible rfl
      rotate_left;(simp only [Act.put, sIb, sC0, sCs, i64_w, i32_w];rfl);refine pure_ (i := 6) (N := some 37) (v := ?_) (a' := ?_) #[true, true, true, true, true, true, true, true, true, true, true, false, false, true, true, true, true, false, false, false, false, false] rfl rfl (by kernel_rfl) (fun _ _ _ h => h) (Or.inl ⟨by rfl, ?_⟩) ?_ ?_;rotate_left;(intro w';go_simp;with_reducible rfl);rotate_left;(simp only [Act.put, sIb, sC0, sCs, i64_w, i32_w];rfl);refine take_ (i := 11) (N := some 42) (v := ?_) (a' := ?_) #[true, true, true, true, true, true, true, true, true, true, true, true, false, true, true, true, true, false, false, false, false, false] rfl rfl (by kernel_rfl) (fun _ _ _ h => h) (Or.inl ⟨by rfl, ?_⟩) hHeld ?_ ?_;rotate_left
      ·rintro w' ⟨s0, s1, s2⟩
       go_simp;with_reducible rfl
      rotate_left;(simp only [Act.put, sIb, sC0, sCs, i64_w, i32_w];rfl);refine pure_ (i := 12) (N := some 43) (v := ?_) (a' := ?_) #[true, true, true, true, true, true, true, true, true, true, true, true, true, true, true, true, true, false, false, false, false, false] rfl rfl (by kernel_rfl) (fun _ _ _ h => h) (Or.inl ⟨by rfl, ?_⟩) ?_ ?_;rotate_left;(intro w';go_simp;with_reducible rfl);rotate_left;(simp only [Act.put, sIb, sC0, sCs, i64_w, i32_w];rfl);refine pure_ (i := 19) (N := some 4) (v := ?_) (a' := ?_) #[true, true, true, true, true, true, true, true, true, true, true, true, true, true, true, true, true, false, false, true, false, false] rfl rfl (by kernel_rfl) (fun _ _ _ h => h) (Or.inl ⟨by rfl, ?_⟩) ?_ ?_;rotate_left;(intro w';go_simp;with_reducible rfl);rotate_left;(simp only [Act.put, sIb, sC0, sCs, i64_w, i32_w];rfl);refine take_ (i := 17) (N := some 48) (v := ?_) (a' := ?_) #[true, true, true, true, true, true, true, true, true, true, true, true, true, true, true, true, true, true, false, true, false, false] rfl rfl (by kernel_rfl) (fun _ _ _ h => h) (Or.inl ⟨by rfl, ?_⟩) hHeld ?_ ?_;rotate_left
      ·rintro w' ⟨s0, s1, s2⟩
       go_simp;with_reducible rfl
      rotate_left;(simp only [Act.put, sIb, sC0, sCs, i64_w, i32_w];rfl);refine pure_ (i := 18) (N := some 49) (v := ?_) (a' := ?_) #[true, true, true, true, true, true, true, true, true, true, true, true, true, true, true, true, true, true, true, true, false, false] rfl rfl (by kernel_rfl) (fun _ _ _ h => h) (Or.inl ⟨by rfl, ?_⟩) ?_ ?_;rotate_left;(intro w';go_simp;with_reducible rfl);rotate_left;(simp only [Act.put, sIb, sC0, sCs, i64_w, i32_w];rfl);refine pure_ (i := 20) (N := some 5) (v := ?_) (a' := ?_) #[true, true, true, true, true, true, true, true, true, true, true, true, true, true, true, true, true, true, true, true, true, false] rfl rfl (by kernel_rfl) (fun _ _ _ h => h) (Or.inl ⟨by rfl, ?_⟩) ?_ ?_;rotate_left;(intro w';go_simp;with_reducible rfl);rotate_left;(simp only [Act.put, sIb, sC0, sCs, i64_w, i32_w];rfl);refine pure_ (i := 21) (N := some 6) (v := ?_) (a' := ?_) #[true, true, true, true, true, true, true, true, true, true, true, true, true, true, true, true, true, true, true, true, true, true] rfl rfl (by kernel_rfl) (fun _ _ _ h => h) (Or.inl ⟨by rfl, ?_⟩) ?_ ?_;rotate_left;(intro w';go_simp;with_reducible rfl);rotate_left;(simp only [Act.put, sIb, sC0, sCs, i64_w, i32_w];rfl)
      refine done_ (by kernel_rfl) ?_
      go_wp2
      go_ret3
      exact ⟨rfl, below_drew1 HB3.out⟩
   ·rw [if_neg hok] at h
    cases h
 ·rw [if_neg h0] at h
  obtain ⟨rfl, h9⟩ := Prod.mk.inj (Option.some.inj h)
  obtain ⟨rfl, rfl⟩ := Prod.mk.inj h9
  clear h h9
  have h0b : decide (t = 0) = false := decide_eq_false h0
  have h0c : (t != 0) = true := by simpa using h0
  clear h0
  go_enter Try.func21, Try.ntmps21
  go_wp2_with (go_at_call 12; refine (extent_Check.calls k A0 c0 l0 t _ HR0.out HC0.out HT.out).mono ?_; rintro e2 w2 ⟨rfl, hb2⟩; have HB2 := Aside0.mk hb2; clear hb2)
  go_ret3
  exact ⟨rfl, HB2.out⟩
end Go.Proofs.Ytopmjjnkolfciaa.Pr
end
section
namespace Go.Proofs.Ytopmjjnkolfciaa.Pr
open Go.RowKit Go.Proofs.YtopmjjnkolfciaaW.PrintWords Go.Proofs.YtopmjjnkolfciaaW.PrintLast Go.Proofs.YtopmjjnkolfciaaW.PrintMore
attribute [local go_sem] max2_int min2_int max_two min_two max_three min_three max_four min_four
attribute [local go_sem] Go.Proofs.Ytopmjjnkolfciaa.Hl.str_geq Go.Proofs.Ytopmjjnkolfciaa.Hl.str_gtr Go.Proofs.Ytopmjjnkolfciaa.Hl.str_leq
set_option linter.unusedVariables false
set_option linter.unusedSimpArgs false
def extent_Need.f (k : Nat) (l0 : List (S24)) : Option (Int) := (extent_Check.f k l0).bind fun t206 => (if t206 = 0 then (if (l0.length : Int) ≤ 4 then (some 0) else (some (wrap64 (Int.tdiv (wrap64 ((wrap64 ((l0.length : Int) + 20)) - 1)) 20)))) else (some (-1)))
set_option maxHeartbeats 8000000 in
set_option maxRecDepth 100000 in
theorem extent_Need.calls (k : Nat) (A0 : Option Addr) (c0 : Nat) (l0 : List (S24)) (r : Int) (w : World) (hr0 : Kd.C k24 w A0 l0.length l0) (hc0 : l0.length ≤ c0) (h : extent_Need.f k l0 = some r) :
  Calls Try.prog 19 #[.slice A0 l0.length c0] w fun e w' => e = .returned (.int .i64 r) ∧ Below w.heap.size w w' := by
 have HR0 := Aside0.mk hr0
 have HC0 := Aside0.mk hc0
 clear hr0 hc0
 have HB := Aside0.mk (Below.refl w.heap.size w)
 have H : ((extent_Check.f k l0).bind fun t206 => (if t206 = 0 then (if (l0.length : Int) ≤ 4 then (some 0) else (some (wrap64 (Int.tdiv (wrap64 ((wrap64 ((l0.length : Int) + 20)) - 1)) 20)))) else (some (-1)))) = some r := h
 clear h
 replace H := Option.bind_eq_some_iff.mp H
 obtain ⟨t206, A20, H⟩ := H
 replace H : (if t206 = 0 then (if (l0.length : Int) ≤ 4 then (some 0) else (some (wrap64 (Int.tdiv (wrap64 ((wrap64 ((l0.length : Int) + 20)) - 1)) 20)))) else (some (-1))) = some r := H
 have A2 := Aside0.mk A20
 clear A20
 by_cases c3 : t206 = 0
 ·rw [if_pos c3] at H
  have c3b0 : (t206 == 0) = true := beq_iff_eq.mpr c3
  have c3b1 : (t206 != 0) = false := bne_eq_false_iff_eq.mpr c3
  clear c3
  by_cases c4 : (l0.length : Int) ≤ 4
  ·rw [if_pos c4] at H
   have c4b0 : decide ((l0.length : Int) ≤ 4) = true := decide_eq_true c4
   have c4b1 : decide (l0.length ≤ 4) = true := decide_eq_true (by omega)
   clear c4;obtain rfl := Option.some.inj H
   go_enter Try.func19, Try.ntmps19
   go_wp2_with (first | ((with_reducible refine gate_callee (f := 12) rfl ?_); refine goesL_ (some 5) rfl rfl Try.func12 (by kernel_rfl) rfl #[.slice A0 l0.length c0] rfl (by (try simp only [List.map_toArray, List.map_cons, List.map_nil]); first | done | rfl | (simp only [List.length_drop, List.length_take]; rfl)) ?_; (with_reducible refine (extent_Check.calls k _ _ l0 t206 _ ?side1 ?side2 A2.out).mono ?_); (case side1 => repeat (first | exact HR0.out | (with_reducible refine Kd.C_alloc ?_ _) | (with_reducible refine Kd.C_drewN ?_ _) | (with_reducible refine Kd.C_drew ?_))); (case side2 => exact HC0.out); rintro e w5 ⟨rfl, hb⟩; refine ⟨_, rfl, ?_⟩; have n0_ := Aside0.mk (below_step (by repeat (first | (with_reducible first | exact HB.out | apply below_alloc | apply pw_below_drewN | apply below_drew1) | exact HB.out)) hb); clear HB; have HB := n0_; clear n0_; (try clear hb); (try clear hb2); (try clear hk); (try clear hi)))
   go_ret
   exact ⟨by first | rfl | (simp [errW_none, errW_some] <;> rfl) | (simp [*, errW_none, errW_some] <;> rfl), by repeat (first | (with_reducible first | exact HB.out | apply below_alloc | apply pw_below_drewN | apply below_drew1) | exact HB.out)⟩
  ·rw [if_neg c4] at H
   have c4b0 : decide ((l0.length : Int) ≤ 4) = false := decide_eq_false c4
   have c4b1 : decide (l0.length ≤ 4) = false := decide_eq_false (by omega)
   clear c4;obtain rfl := Option.some.inj H
   go_enter Try.func19, Try.ntmps19
   go_wp2_with (first | ((with_reducible refine gate_callee (f := 12) rfl ?_); refine goesL_ (some 5) rfl rfl Try.func12 (by kernel_rfl) rfl #[.slice A0 l0.length c0] rfl (by (try simp only [List.map_toArray, List.map_cons, List.map_nil]); first | done | rfl | (simp only [List.length_drop, List.length_take]; rfl)) ?_; (with_reducible refine (extent_Check.calls k _ _ l0 t206 _ ?side1 ?side2 A2.out).mono ?_); (case side1 => repeat (first | exact HR0.out | (with_reducible refine Kd.C_alloc ?_ _) | (with_reducible refine Kd.C_drewN ?_ _) | (with_reducible refine Kd.C_drew ?_))); (case side2 => exact HC0.out); rintro e w6 ⟨rfl, hb⟩; refine ⟨_, rfl, ?_⟩; have n0_ := Aside0.mk (below_step (by repeat (first | (with_reducible first | exact HB.out | apply below_alloc | apply pw_below_drewN | apply below_drew1) | exact HB.out)) hb); clear HB; have HB := n0_; clear n0_; (try clear hb); (try clear hb2); (try clear hk); (try clear hi)))
   go_ret
   exact ⟨by first | rfl | (simp [errW_none, errW_some] <;> rfl) | (simp [*, errW_none, errW_some] <;> rfl), by repeat (first | (with_reducible first | exact HB.out | apply below_alloc | apply pw_below_drewN | apply below_drew1) | exact HB.out)⟩
 ·rw [if_neg c3] at H
  have c3b0 : (t206 == 0) = false := beq_eq_false_iff_ne.mpr c3
  have c3b1 : (t206 != 0) = true := bne_iff_ne.mpr c3
  obtain rfl := Option.some.inj H
  go_enter Try.func19, Try.ntmps19
  go_wp2_with (first | ((with_reducible refine gate_callee (f := 12) rfl ?_); refine goesL_ (some 5) rfl rfl Try.func12 (by kernel_rfl) rfl #[.slice A0 l0.length c0] rfl (by (try simp only [List.map_toArray, List.map_cons, List.map_nil]); first | done | rfl | (simp only [List.length_drop, List.length_take]; rfl)) ?_; (with_reducible refine (extent_Check.calls k _ _ l0 t206 _ ?side1 ?side2 A2.out).mono ?_); (case side1 => repeat (first | exact HR0.out | (with_reducible refine Kd.C_alloc ?_ _) | (with_reducible refine Kd.C_drewN ?_ _) | (with_reducible refine Kd.C_drew ?_))); (case side2 => exact HC0.out); rintro e w7 ⟨rfl, hb⟩; refine ⟨_, rfl, ?_⟩; have n0_ := Aside0.mk (below_step (by repeat (first | (with_reducible first | exact HB.out | apply below_alloc | apply pw_below_drewN | apply below_drew1) | exact HB.out)) hb); clear HB; have HB := n0_; clear n0_; (try clear hb); (try clear hb2); (try clear hk); (try clear hi)))
  go_ret
  exact ⟨by first | rfl | (simp [errW_none, errW_some] <;> rfl) | (simp [*, errW_none, errW_some] <;> rfl), by repeat (first | (with_reducible first | exact HB.out | apply below_alloc | apply pw_below_drewN | apply below_drew1) | exact HB.out)⟩
end Go.Proofs.Ytopmjjnkolfciaa.Pr
end
section
namespace Go.Proofs.Ytopmjjnkolfciaa.Pr
open Go.RowKit Go.Proofs.YtopmjjnkolfciaaW.PrintWords Go.Proofs.YtopmjjnkolfciaaW.PrintLast Go.Proofs.YtopmjjnkolfciaaW.PrintMore
attribute [local go_sem] max2_int min2_int max_two min_two max_three min_three max_four min_four
attribute [local go_sem] Go.Proofs.Ytopmjjnkolfciaa.Hl.str_geq Go.Proofs.Ytopmjjnkolfciaa.Hl.str_gtr Go.Proofs.Ytopmjjnkolfciaa.Hl.str_leq
set_option linter.unusedVariables false
set_option linter.unusedSimpArgs false
theorem Says.mark {T : List Int} {U : List Bool} {P : Nat → Int → Bool → Prop} (h : Says T U P) {x : Nat} (hx : x < 256) : Says T (U.set x false) (fun y d u => (y ≠ x ∧ P y d u) ∨ (y = x ∧ (∃ v, P y d v) ∧ u = false)) := by
 refine ⟨h.lenT, by rw [List.length_set]; exact h.lenU, fun i hi d u => ?_⟩
 rw [getD_set _ _ _ _ _ (by rw [h.lenU]; exact hx)]
 by_cases e : i = x
 ·rw [if_pos e]
  constructor
  ·rintro ⟨h1, h2, h3⟩
   exact Or.inr ⟨e, ⟨_, (h.says i hi d _).1 ⟨h1, h2, rfl⟩⟩, h3.symm⟩
  ·rintro (⟨h1, _⟩ | ⟨_, ⟨v, h2⟩, h3⟩)
   ·exact absurd e h1
   ·have h4 := (h.says i hi d v).2 h2
    exact ⟨h4.1, h4.2.1, h3.symm⟩
 ·rw [if_neg e, h.says i hi d u]
  constructor
  ·intro h1; exact Or.inl ⟨e, h1⟩
  ·rintro (⟨_, h1⟩ | ⟨h1, _⟩)
   ·exact h1
   ·exact absurd h1 e
end Go.Proofs.Ytopmjjnkolfciaa.Pr
end
section
namespace Go.Proofs.Ytopmjjnkolfciaa.Pr
open Go.RowKit Go.Proofs.YtopmjjnkolfciaaW.PrintWords Go.Proofs.YtopmjjnkolfciaaW.PrintLast Go.Proofs.YtopmjjnkolfciaaW.PrintMore
attribute [local go_sem] max2_int min2_int max_two min_two max_three min_three max_four min_four
attribute [local go_sem] Go.Proofs.Ytopmjjnkolfciaa.Hl.str_geq Go.Proofs.Ytopmjjnkolfciaa.Hl.str_gtr Go.Proofs.Ytopmjjnkolfciaa.Hl.str_leq
set_option linter.unusedVariables false
set_option linter.unusedSimpArgs false
theorem eqA24 (d : Nat) (w : World) (x0 y0 : Int) (x1 y1 : Int) (x2 y2 : Int) (x3 y3 : Bool) :
  (Op.equalIn (d + 2) 24 (.agg #[.int .i64 x0, .int .i64 x1, .int .i64 x2, .bool x3]) (.agg #[.int .i64 y0, .int .i64 y1, .int .i64 y2, .bool y3])).run Try.prog w = .ok (x0 == y0 && (x1 == y1 && (x2 == y2 && (x3 == y3)))) w := by
 refine eqA_of Try.underlying24 (by kernel_rfl) ?_
 refine eqf_cons (by rfl) (by go_simp; rfl) (by go_simp; rfl) (by go_simp) ?_
 refine eqf_cons (by rfl) (by go_simp; rfl) (by go_simp; rfl) (by go_simp) ?_
 refine eqf_cons (by rfl) (by go_simp; rfl) (by go_simp; rfl) (by go_simp) ?_
 exact eqf_last (by rfl) (by go_simp; rfl) (by go_simp; rfl) (by go_simp)
end Go.Proofs.Ytopmjjnkolfciaa.Pr
end
section
namespace Go.Proofs.Ytopmjjnkolfciaa.Pr
open Go.RowKit Go.Proofs.YtopmjjnkolfciaaW.PrintWords Go.Proofs.YtopmjjnkolfciaaW.PrintLast Go.Proofs.YtopmjjnkolfciaaW.PrintMore
attribute [local go_sem] max2_int min2_int max_two min_two max_three min_three max_four min_four
attribute [local go_sem] Go.Proofs.Ytopmjjnkolfciaa.Hl.str_geq Go.Proofs.Ytopmjjnkolfciaa.Hl.str_gtr Go.Proofs.Ytopmjjnkolfciaa.Hl.str_leq
set_option linter.unusedVariables false
set_option linter.unusedSimpArgs false
theorem eqA32 (d : Nat) (w : World) (x0 y0 : Int) (x1 y1 : Int) :
  (Op.equalIn (d + 2) 32 (.agg #[.int .i64 x0, .int .i64 x1]) (.agg #[.int .i64 y0, .int .i64 y1])).run Try.prog w = .ok (x0 == y0 && (x1 == y1)) w := by
 refine eqA_of Try.underlying32 (by kernel_rfl) ?_
 refine eqf_cons (by rfl) (by go_simp; rfl) (by go_simp; rfl) (by go_simp) ?_
 exact eqf_last (by rfl) (by go_simp; rfl) (by go_simp; rfl) (by go_simp)
end Go.Proofs.Ytopmjjnkolfciaa.Pr
end
section
namespace Go.Proofs.Ytopmjjnkolfciaa.Op
open Go.ChangeShapes Go.WideShapes Go.Deep Go.RowKit Go.Proofs.YtopmjjnkolfciaaW.PrintWords
variable {P : Program}
def Opens {α : Type} (P : Program) (t : TypeId) (d : Kd α) (S : α → Prop) : Prop :=
  ∀ {H : Type} {enc : TypeId × Value → H} {W : World} {fuel : Nat} {cs : List Value} {x : DataW H × List MemPlace},
    DataW.trod enc P W 0 (fun _ => true) true fuel t cs = some x → (∀ n ∈ x.1.weights P t, n ≤ reachBytes) → ∃ v : α, d.K W v cs ∧ S v
theorem opens_int {t : TypeId} {k : IntKind} (hu : P.underlying t = some (.int k)) : Opens P t (Kd.int k) (fun n => (Lit.int k n).wf = true) := by
  intro H enc W fuel cs x h _
  obtain ⟨n, rfl, _, hw⟩ := DataW.trod_int hu h
  exact ⟨n, rfl, hw⟩
theorem opens_bool {t : TypeId} (hu : P.underlying t = some .bool) : Opens P t Kd.bool (fun _ => True) := by
  intro H enc W fuel cs x h _
  obtain ⟨n, rfl, _⟩ := DataW.trod_bool hu h
  exact ⟨n, rfl, trivial⟩
theorem weightsAll_mem {H : Type} {e : TypeId} : ∀ {l : List (DataW H)} {d : DataW H}, d ∈ l → ∀ n ∈ d.weights P e, n ∈ DataW.weightsAll P e l
  | a :: l, d, hd, n, hn => by
    simp only [DataW.weightsAll, List.mem_append]
    rcases List.mem_cons.1 hd with rfl | hd
    · exact .inl hn
    · exact .inr (weightsAll_mem hd n hn)
  | [], _, hd, _, _ => by simp at hd
theorem opens_slice {α : Type} {t e : TypeId} {d : Kd α} {S : α → Prop} {B : Nat} (hu : P.underlying t = some (.slice e)) (hc : P.cellsOf e = d.sz) (hB : P.bytesOf e = B) (he : Opens P e d S) :
    Opens P t (Kd.slice e d) (fun xs => xs.length * B ≤ 140737488351232 ∧ ∀ x ∈ xs, S x) := by
  intro H enc W fuel cs x h hw
  rcases open_slice hu h with ⟨rfl, rfl⟩ | ⟨a, len, cap, m, n, D, Pl, rfl, _, hl, hm, hmm, rfl, hx⟩
  · exact ⟨[], ⟨none, 0, rfl, Nat.le_refl _, rfl, Nat.zero_le _, fun h => absurd h (Nat.lt_irrefl _)⟩, by simp, by simp⟩
  · simp only [if_true] at hmm
    subst hmm
    have hwt : ∀ i, i < len → ∀ q ∈ (D i).weights P e, q ≤ reachBytes := by
      intro i hi q hq
      refine hw q ?_
      simp only [DataW.weights, hu, List.mem_cons, List.mem_append]
      exact .inr (.inl (weightsAll_mem (List.mem_map.2 ⟨i, List.mem_range.2 hi, rfl⟩) q hq))
    have hv : ∀ i, i < len → ∃ v : α, S v ∧ ∃ c, c.length = d.sz ∧ d.K W v c ∧ ∀ j u, c[j]? = some u → W.cell? (a.add (i * d.sz + j)) = some u := by
      intro i hi
      obtain ⟨c, h1, h2⟩ := hx i (Nat.lt_of_lt_of_le hi hl)
      obtain ⟨v, hk, hs⟩ := he h2 (hwt i hi)
      refine ⟨v, hs, c, d.K_len hk, hk, ?_⟩
      rw [hc] at h1
      obtain ⟨_, hlen, hcell⟩ := World.cells?_some h1
      intro j u hj
      have hjl : j < c.length := (List.getElem?_eq_some_iff.1 hj).1
      have := hcell j (by rw [← hlen]; exact hjl)
      rw [Deep.add_add] at this
      rw [this, hj]
    have key : ∀ k, k ≤ len → ∃ l : List α, l.length = k ∧ (∀ v ∈ l, S v) ∧ ∀ i v, l[i]? = some v → ∃ c, c.length = d.sz ∧ d.K W v c ∧ ∀ j u, c[j]? = some u → W.cell? (a.add (i * d.sz + j)) = some u := by
      intro k
      induction k with
      | zero => intro _; exact ⟨[], rfl, by simp, by simp⟩
      | succ k ih =>
        intro hk
        obtain ⟨l, hl1, hl2, hl3⟩ := ih (by omega)
        obtain ⟨v, hs, hr⟩ := hv k (by omega)
        refine ⟨l ++ [v], by simp [hl1], ?_, ?_⟩
        · intro y hy
          rcases List.mem_append.1 hy with hy | hy
          · exact hl2 y hy
          · rw [List.mem_singleton.1 hy]; exact hs
        · intro i y hy
          rcases Nat.lt_trichotomy i k with hik | hik | hik
          · rw [List.getElem?_append_left (by omega)] at hy
            exact hl3 i y hy
          · subst hik
            rw [List.getElem?_append_right (by omega), hl1, Nat.sub_self] at hy
            simp only [List.getElem?_cons_zero, Option.some.injEq] at hy
            subst hy
            exact hr
          · rw [List.getElem?_eq_none (by simp [hl1]; omega)] at hy
            cases hy
    obtain ⟨l, hl1, hl2, hl3⟩ := key len (Nat.le_refl _)
    refine ⟨l, ⟨some a, m, by rw [hl1], by rw [hl1]; exact hl, rfl, ?_, fun _ => ⟨a, rfl, hl3⟩⟩, ?_, hl2⟩
    · rw [hl1]
      have : maxLen ≤ 9223372036854775807 := by decide
      omega
    · have := hw _ (by simp only [DataW.weights, hu]; exact List.mem_cons_self)
      simp only [List.length_map, List.length_range] at this
      rw [hB] at this
      rw [hl1]
      exact Nat.le_trans (Nat.mul_le_mul_right _ (by omega)) this
def OpensAt {α : Type} (P : Program) (off : Nat) (fs : List Field) (d : Kd α) (S : α → Prop) : Prop :=
  ∀ {H : Type} {enc : TypeId × Value → H} {W : World} {fuel : Nat} {cs : List Value} {xs : List (DataW H × List MemPlace)}, xs.length = fs.length → cs.length = off + d.sz →
    (∀ (i : Nat) (f : Field), fs[i]? = some f → DataW.trod enc P W 0 (fun _ => true) true fuel f.type ((cs.drop f.offset).take (P.cellsOf f.type)) = xs[i]?) →
    (∀ n ∈ DataW.weightsEach P (fs.map (·.type)) (xs.map (·.1)), n ≤ reachBytes) → ∃ v : α, d.K W v (cs.drop off) ∧ S v
theorem opensAt_last {α : Type} {off : Nat} {f : Field} {d : Kd α} {S : α → Prop} (ho : f.offset = off) (hc : P.cellsOf f.type = d.sz) (h : Opens P f.type d S) : OpensAt P off [f] d S := by
  intro H enc W fuel cs xs hl hcs hx hw
  match xs, hl with
  | [x], _ =>
    have h1 := hx 0 f rfl
    rw [ho, hc, List.take_of_length_le (by rw [List.length_drop]; omega)] at h1
    exact h h1 (fun n hn => hw n (by simp [DataW.weightsEach, hn]))
theorem opensAt_cons {α β : Type} {off : Nat} {f : Field} {fs : List Field} {d : Kd α} {b : Kd β} {S : α → Prop} {T : β → Prop} (ho : f.offset = off) (hc : P.cellsOf f.type = d.sz) (h : Opens P f.type d S) (hr : OpensAt P (off + d.sz) fs b T) :
    OpensAt P off (f :: fs) (Kd.pair d b) (fun x => S x.1 ∧ T x.2) := by
  intro H enc W fuel cs xs hl hcs hx hw
  match xs, hl with
  | x :: xs, hl =>
    have h1 := hx 0 f rfl
    rw [ho, hc] at h1
    obtain ⟨v, hk, hs⟩ := h h1 (fun n hn => hw n (by simp [DataW.weightsEach, hn]))
    have hcs' : cs.length = off + d.sz + b.sz := by rw [hcs]; exact (Nat.add_assoc _ _ _).symm
    obtain ⟨v2, hk2, hs2⟩ := hr (cs := cs) (xs := xs) (by simpa using hl) hcs' (fun i g hg => hx (i + 1) g hg) (fun n hn => hw n (by simp [DataW.weightsEach]; exact .inr (by simpa using hn)))
    refine ⟨(v, v2), ⟨_, _, ?_, hk, hk2⟩, hs, hs2⟩
    rw [← List.drop_drop, List.take_append_drop]
theorem opens_struct {α : Type} {t : TypeId} {fs : Array Field} {d : Kd α} {S : α → Prop} (hu : P.underlying t = some (.struct fs)) (hc : P.cellsOf t = d.sz) (h : OpensAt P 0 fs.toList d S) : Opens P t d S := by
  intro H enc W fuel cs x hx hw
  obtain ⟨xs, n, _, rfl, hl, hxl, hg⟩ := DataW.trod_struct hu hx
  have := h (enc := enc) (W := W) (fuel := n) (cs := cs) (xs := xs) (by simpa using hxl) (by rw [hl, hc, Nat.zero_add]) (fun i f hf => hg i f (by simpa using hf)) (fun q hq => hw q (by simp only [DataW.weights, hu]; exact hq))
  simpa using this
theorem opens_iso {α β : Type} {t : TypeId} {d : Kd α} {S : α → Prop} {T : β → Prop} {f : β → α} (g : α → β) (hfg : ∀ x, f (g x) = x) (hST : ∀ y, S (f y) → T y) (h : Opens P t d S) : Opens P t (Kd.iso d f) T := by
  intro H enc W fuel cs x hx hw
  obtain ⟨v, hk, hs⟩ := h hx hw
  exact ⟨g v, by show d.K W (f (g v)) cs; rw [hfg]; exact hk, hST _ (by rw [hfg]; exact hs)⟩
theorem opens_imp {α : Type} {t : TypeId} {d : Kd α} {S T : α → Prop} (h : Opens P t d S) (hST : ∀ y, S y → T y) : Opens P t d T := by
  intro H enc W fuel cs x hx hw
  obtain ⟨v, hk, hs⟩ := h hx hw
  exact ⟨v, hk, hST _ hs⟩
theorem arg_slice {H : Type} {enc : TypeId × Value → H} {W : World} {α : Type} {t e : TypeId} {d : Kd α} {S : List α → Prop} {r : Reach} {b : Nat} {v : Value} {dd : DataW H} {ps : List MemPlace} {ts : List TypeId} {ds : List (DataW H)} {j : Nat}
    (hu : P.underlying t = some (.slice e)) (ho : Opens P t (Kd.slice e d) S) (hv : Value.okWide P W r b t v) (h : DataW.Trod enc P W 0 (fun _ => true) true t v dd ps)
    (hsz : (DataW.weightsEach P ts ds).all (· ≤ reachBytes) = true) (ht : ts[j]? = some t) (hd : ds[j]? = some dd) :
    ∃ A l c, v = .slice A (List.length l) c ∧ l.length ≤ c ∧ d.C W A l.length l ∧ S l := by
  obtain ⟨a, len, cap, rfl⟩ := okWide_slice hu hv
  obtain ⟨fuel, hf⟩ := h
  obtain ⟨l, ⟨A, c, hcs, hl, hr⟩, hs⟩ := ho hf (fun n hn => by
    have := List.all_eq_true.1 hsz n (DataW.weights_mem_each ht hd n hn)
    simpa using this)
  simp only [Value.cells, List.cons.injEq, and_true] at hcs
  exact ⟨A, l, c, by simpa using hcs, hl, hr, hs⟩
end Go.Proofs.Ytopmjjnkolfciaa.Op
end
