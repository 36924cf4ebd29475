/- Ak: this session's texts for the one law, put together (part 3 of 3): what its program computes, function by function, and that this answers true; the row stands at the end of the last part. Conditions: those that each theorem names; the last theorem has none. -/
import Derived.Test.YtffaggckhneakaaRows
import Derived.WalkKit
import Derived.ProofKit
import Derived.OpenShut
import Derived.ShutString
import Derived.ChangeOld
import Derived.Below
import Derived.SizedLaws
import Derived.Carry
import Derived.Lib.SmallJoins
import Derived.Test.YtffaggckhneakaaAkB
section
namespace Go.Proofs.Ytffaggckhneakaa.At
open Go.RowKit Go.Proofs.YtffaggckhneakaaW.PrintWords Go.Proofs.YtffaggckhneakaaW.PrintMore Go.Proofs.Ytffaggckhneakaa.Pr Go.Proofs.Ytffaggckhneakaa.Od Go.Proofs.Ytffaggckhneakaa.Cr
set_option linter.unusedVariables false
set_option linter.unusedSimpArgs false
theorem fin_ev (m : List E) (hm : right none m = true) (hl : m.length < 4398046511104) : Ev (fun k => attr_Set.fin k m) (if sumL m ≤ 250 then (m, 0) else ([], 15)) := by
  unfold attr_Set.fin
  refine Ev.bind (check_ev m hl) ?_
  unfold checkR
  simp only [if_pos hm]
  by_cases h : sumL m ≤ 250
  · simp only [decide_eq_true h, if_true, if_pos h]
    exact Ev.now _
  · simp only [decide_eq_false h, Bool.false_eq_true, if_false, if_neg h]
    exact Ev.now _
theorem set_ev (l : List E) (x : E) (hl : l.length < 4398046511103) : Ev (fun k => attr_Set.f k l x.f0 x.f1) (setR l x) := by
  unfold attr_Set.f
  refine Ev.bind (check_ev l (by omega)) ?_
  unfold checkR setR
  by_cases hr : right none l = true
  · simp only [if_pos hr, if_true, may_some, Option.bind_some]
    by_cases hx : okE x = true
    · have hx' : mayB x.f0 x.f1 = true := hx
      simp only [hx', if_true, if_pos (show right none l = true ∧ okE x = true from ⟨hr, hx⟩)]
      have hpr := put_right hr hx
      have hpl : (put x l).length ≤ l.length + 1 := put_len
      obtain ⟨A, M, C, rfl, hA, hC, hM⟩ := split (nb x) l ((right_iff l none).1 hr).2.2
      have hput := put_split hA hC hM
      rw [hput] at hpr hpl
      have hfin := fin_ev (A ++ x :: C) hpr (by omega)
      refine Ev.bind (find_ev A M C x.f0 hA hC hM (by omega)) ?_
      have hlen : (A ++ (M ++ C)).length = A.length + (M.length + C.length) := by rw [List.length_append, List.length_append]
      simp only [hput]
      rcases hM with rfl | ⟨m, rfl, hm⟩
      · rw [show (decide (([] : List E) ≠ [])) = false from rfl]
        simp only [Bool.false_eq_true, if_false]
        simp only [if_pos (show 0 ≤ (A.length : Int) ∧ (A.length : Int) ≤ ((A ++ ([] ++ C)).length : Int) ∧ (A ++ ([] ++ C)).length < 4398046511103 by omega)]
        simp only [Int.toNat_natCast, List.nil_append, List.take_left, List.drop_left]
        exact hfin
      · rw [show (decide (([m] : List E) ≠ [])) = true from rfl]
        simp only [if_true]
        simp only [if_pos (show 0 ≤ (A.length : Int) ∧ (A.length : Int) < ((A ++ ([m] ++ C)).length : Int) by rw [hlen]; simp; omega)]
        have e : (A ++ ([m] ++ C)).set (A.length : Int).toNat (⟨x.f0, x.f1⟩ : E) = A ++ x :: C := by
          rw [Int.toNat_natCast, List.set_append_right _ _ (Nat.le_refl _), Nat.sub_self]; rfl
        simp only [e]
        exact hfin
    · have hx' : mayB x.f0 x.f1 = false := by simpa [okE] using hx
      simp only [hx', Bool.false_eq_true, if_false, if_neg (show ¬ (right none l = true ∧ okE x = true) from fun h => hx h.2)]
      exact Ev.now _
  · simp only [if_neg hr, if_neg (show ¬ ((1 : Int) = 0) by decide), if_neg (show ¬ (right none l = true ∧ okE x = true) from fun h => hr h.1)]
    exact Ev.now _
theorem get_ev (l : List E) (s : ByteArray) (hl : l.length < 4398046511104) : Ev (fun k => attr_Get.f k l s) (getR l s.data.toList) := by
  unfold attr_Get.f
  refine Ev.bind (check_ev l hl) ?_
  unfold checkR getR
  by_cases hr : right none l = true
  · simp only [if_pos hr, if_true]
    obtain ⟨A, M, C, rfl, hA, hC, hM⟩ := split s.data.toList l ((right_iff l none).1 hr).2.2
    refine Ev.bind (find_ev A M C s hA hC hM hl) ?_
    rw [get_split hA hC hM]
    rcases hM with rfl | ⟨m, rfl, hm⟩
    · rw [show (decide (([] : List E) ≠ [])) = false from rfl]
      simp only [Bool.false_eq_true, if_false, List.head?_nil]
      exact Ev.now _
    · rw [show (decide (([m] : List E) ≠ [])) = true from rfl]
      have hlt : A.length < (A ++ ([m] ++ C)).length := by simp
      simp only [if_true, List.head?_cons, if_pos (show (0 : Int) ≤ (A.length : Int) by omega), if_pos (show (A.length : Int) < ((A ++ ([m] ++ C)).length : Int) by omega), rdT_get hlt]
      have e : (A ++ ([m] ++ C))[A.length] = m := by simp
      simp only [e]
      exact Ev.now _
  · simp only [if_neg hr, if_neg (show ¬ ((1 : Int) = 0) by decide)]
    exact Ev.now _
def entB (e : E) : List Int := bytesN 1 e.f0.size ++ bytesN 1 e.f1.size ++ bytesOf e.f0 ++ bytesOf e.f1
def bodyL : List E → List Int
  | [] => []
  | e :: l => entB e ++ bodyL l
def headP (l : List E) : List Int := bytesN 2 l.length
def encP (l : List E) : List Int := headP l ++ bodyL l ++ List.replicate (252 - (2 + sumL l)) 0
def encR (l : List E) : List Int × Int := if right none l = true then (if sumL l > 250 then ([], 15) else (encP l ++ bytesN 4 (sumB (encP l)).toNat, 0)) else ([], 1)
theorem entB_len (e : E) : (entB e).length = 2 + e.f0.size + e.f1.size := by
  simp only [entB, List.length_append, bytesN_len, bytesOf_length]
theorem bodyL_len : ∀ l, (bodyL l).length = sumL l
  | [] => rfl
  | e :: l => by rw [bodyL, List.length_append, entB_len, bodyL_len l, sumL]
theorem headP_len (l : List E) : (headP l).length = 2 := by simp [headP, bytesN_len]
theorem encP_len {l : List E} (h : sumL l ≤ 250) : (encP l).length = 252 := by
  rw [encP, List.length_append, List.length_append, headP_len, bodyL_len, List.length_replicate]; omega
theorem bytes_app {a b : List Int} (ha : ∀ x ∈ a, isByte x) (hb : ∀ x ∈ b, isByte x) : ∀ x ∈ a ++ b, isByte x := by
  intro x hx
  rcases List.mem_append.1 hx with h | h
  · exact ha x h
  · exact hb x h
theorem bodyL_byte : ∀ l, ∀ x ∈ bodyL l, isByte x
  | [] => by simp [bodyL]
  | e :: l => bytes_app (bytes_app (bytes_app (bytes_app (bytesN_byte _ _) (bytesN_byte _ _)) (isByte_bytesOf _)) (isByte_bytesOf _)) (bodyL_byte l)
theorem encP_byte (l : List E) : ∀ x ∈ encP l, isByte x := by
  refine bytes_app (bytes_app (bytesN_byte _ _) (bodyL_byte l)) ?_
  intro x hx
  rw [(List.mem_replicate.1 hx).2]
  unfold isByte; omega
theorem encR_byte (l : List E) : ∀ x ∈ (encR l).1, isByte x := by
  unfold encR
  split
  · split
    · simp
    · exact bytes_app (encP_byte l) (bytesN_byte _ _)
  · simp
theorem encR_len {l : List E} (h : (encR l).2 = 0) : (encR l).1.length = 256 := by
  unfold encR at h ⊢
  by_cases hr : right none l = true
  · rw [if_pos hr] at h ⊢
    by_cases hs : sumL l > 250
    · rw [if_pos hs] at h; cases h
    · rw [if_neg hs, List.length_append, encP_len (by omega), bytesN_len]
  · rw [if_neg hr] at h; cases h
theorem encR_iff {l : List E} : (encR l).2 = 0 ↔ right none l = true ∧ sumL l ≤ 250 := by
  unfold encR
  by_cases hr : right none l = true
  · rw [if_pos hr]
    by_cases hs : sumL l > 250
    · rw [if_pos hs]
      constructor
      · intro h; cases h
      · intro h; omega
    · rw [if_neg hs]
      exact ⟨fun _ => ⟨hr, by omega⟩, fun _ => rfl⟩
  · rw [if_neg hr]
    constructor
    · intro h; cases h
    · intro h; exact absurd h.1 hr
theorem u64n (n : Nat) (h : n < 18446744073709551616) : IntKind.u64.wrap (n : Int) = (n : Int) := by rw [u64w]; omega
theorem two_bytes (a b : Nat) : [((a : Nat) : Int) % 256, ((b : Nat) : Int) % 256] = bytesN 1 a ++ bytesN 1 b := by simp [bytesN]
theorem enc_ev (l : List E) (hl : l.length < 4398046511104) : Ev (fun k => attr_Encode.f k l) (encR l) := by
  unfold attr_Encode.f
  refine Ev.bind (check_ev l hl) ?_
  unfold checkR encR
  by_cases hr : right none l = true
  · simp only [if_pos hr, if_true]
    by_cases hs : sumL l > 250
    · simp only [if_pos hs, decide_eq_false (show ¬ sumL l ≤ 250 by omega), Bool.false_eq_true, if_false]
      exact Ev.now _
    · simp only [if_neg hs, decide_eq_true (show sumL l ≤ 250 by omega), if_true, u64n l.length (by omega)]
      refine Ev.bind (crc_bytes_ev _ 2 (by decide)) ?_
      have hlen : (headP l ++ bodyL l).length = 2 + sumL l := by rw [List.length_append, headP_len, bodyL_len]
      have key : ∀ (n i : Nat) (b : List Int), i + n = l.length → b.length + sumL (l.drop i) ≤ 252 → b ++ bodyL (l.drop i) = headP l ++ bodyL l → Ev (fun k => attr_Encode.l0 k b l (l.length : Int) (i : Int)) (encP l ++ bytesN 4 (sumB (encP l)).toNat, 0) := by
        intro n
        induction n with
        | zero =>
          intro i b hi hb he
          refine Ev.succ ?_
          rw [List.drop_of_length_le (by omega), bodyL, List.append_nil] at he
          subst he
          have ew : wrap64 (252 - ((headP l ++ bodyL l).length : Int)) = ((252 - (2 + sumL l) : Nat) : Int) := by rw [hlen, w64 (by omega) (by omega)]; omega
          have el : (headP l ++ bodyL l).length + (252 - (2 + sumL l)) = 252 := by omega
          simp only [attr_Encode.l0, if_neg (show ¬((i : Int) < (l.length : Int)) by omega), ew, if_pos (show (0 : Int) ≤ ((252 - (2 + sumL l) : Nat) : Int) by omega), Int.toNat_natCast, el, if_pos (show 252 < 140737488355328 by decide), bs]
          refine Ev.bind (crc_sum_ev (encP l) (by rw [encP_len (by omega)]; decide)) ?_
          have hlt := (sumB (encP l)).isLt
          rw [u64n _ (by omega)]
          refine Ev.bind (crc_bytes_ev _ 4 (by decide)) ?_
          have e5 : (headP l ++ bodyL l ++ List.replicate (252 - (2 + sumL l)) 0).length = 252 := encP_len (by omega)
          simp only [bytesN_len, e5, if_pos (show 252 + 4 < 140737488355328 by decide)]
          exact Ev.now _
        | succ n ih =>
          intro i b hi hb he
          refine Ev.succ ?_
          have hil : i < l.length := by omega
          rw [List.drop_eq_getElem_cons hil] at hb he
          simp only [sumL] at hb
          simp only [attr_Encode.l0, if_pos (show ((i : Int) < (l.length : Int)) by omega), if_pos (show (0 : Int) ≤ (i : Int) by omega), rdT_get hil, bs, two_bytes, List.length_append, bytesN_len, bytesOf_length, if_pos (show b.length + (1 + 1) < 140737488355328 by omega), if_pos (show b.length + (1 + 1) + l[i].f0.size < 140737488355328 by omega), if_pos (show b.length + (1 + 1) + l[i].f0.size + l[i].f1.size < 140737488355328 by omega), w64 (show -9223372036854775808 ≤ (i : Int) + 1 by omega) (by omega)]
          refine ih (i + 1) _ (by omega) (by simp only [List.length_append, bytesN_len, bytesOf_length]; omega) ?_
          rw [← he]
          simp only [bodyL, entB, List.append_assoc]
      have := key l.length 0 (headP l) (by omega) (by rw [List.drop_zero, headP_len]; omega) (by rw [List.drop_zero])
      exact this
  · simp only [if_neg hr, if_neg (show ¬ ((1 : Int) = 0) by decide)]
    exact Ev.now _
end Go.Proofs.Ytffaggckhneakaa.At
end
section
namespace Go.Proofs.Ytffaggckhneakaa.Pr
open Go.RowKit Go.Proofs.YtffaggckhneakaaW.PrintWords Go.Proofs.YtffaggckhneakaaW.PrintLast Go.Proofs.YtffaggckhneakaaW.PrintMore
attribute [local go_sem] max2_int min2_int max_two min_two max_three min_three max_four min_four
attribute [local go_sem] Go.Proofs.Ytffaggckhneakaa.Hl.str_geq Go.Proofs.Ytffaggckhneakaa.Hl.str_gtr Go.Proofs.Ytffaggckhneakaa.Hl.str_leq
set_option linter.unusedVariables false
set_option linter.unusedSimpArgs false
def undercroftlaw13_alive.f (k : Nat)  : Option (Bool) := (attr_Set.f k (([(⟨(⟨#[98]⟩ : ByteArray), (⟨#[49]⟩ : ByteArray)⟩ : S26)] : List (S26))) (⟨#[97]⟩ : ByteArray) (⟨#[50]⟩ : ByteArray)).bind fun bt370 => ((attr_Get.f k bt370.1 (⟨#[98]⟩ : ByteArray)).bind fun bt374 => ((attr_Encode.f k bt370.1).bind fun bt376 => (if bt370.2 = 0 then (if (bt370.1.length : Int) = 2 then (if 0 < (bt370.1.length : Int) then (if ((rd_T26 bt370.1 0).f0).toList = ([97] : List UInt8) then (if bt374.2 = 0 then (if bt374.1.toList = ([49] : List UInt8) then (if bt376.2 = 0 then (if (bt376.1.length : Int) = 256 then (if 0 < (bt376.1.length : Int) then (some ((rd bt376.1 0) == 2)) else (none)) else (some false)) else (some false)) else (some false)) else (some false)) else (some false)) else (none)) else (some false)) else (some false))))
set_option maxHeartbeats 8000000 in
set_option maxRecDepth 100000 in
theorem undercroftlaw13_alive.calls (k : Nat)  (r : Bool) (w : World) (h : undercroftlaw13_alive.f k  = some r) :
    Calls Try.prog 13 #[] w fun e w' => e = .returned (.bool r) ∧ Below w.heap.size w w' := by
  have hu26 := Try.underlying26
  have HB := Aside0.mk (Below.refl w.heap.size w)
  have H : ((attr_Set.f k (([(⟨(⟨#[98]⟩ : ByteArray), (⟨#[49]⟩ : ByteArray)⟩ : S26)] : List (S26))) (⟨#[97]⟩ : ByteArray) (⟨#[50]⟩ : ByteArray)).bind fun bt370 => ((attr_Get.f k bt370.1 (⟨#[98]⟩ : ByteArray)).bind fun bt374 => ((attr_Encode.f k bt370.1).bind fun bt376 => (if bt370.2 = 0 then (if (bt370.1.length : Int) = 2 then (if 0 < (bt370.1.length : Int) then (if ((rd_T26 bt370.1 0).f0).toList = ([97] : List UInt8) then (if bt374.2 = 0 then (if bt374.1.toList = ([49] : List UInt8) then (if bt376.2 = 0 then (if (bt376.1.length : Int) = 256 then (if 0 < (bt376.1.length : Int) then (some ((rd bt376.1 0) == 2)) else (none)) else (some false)) else (some false)) else (some false)) else (some false)) else (some false)) else (none)) else (some false)) else (some false))))) = some r := h
  clear h
  obtain ⟨y367, hy367⟩ : ∃ y_ : List (S26), y_ = (([(⟨(⟨#[98]⟩ : ByteArray), (⟨#[49]⟩ : ByteArray)⟩ : S26)] : List (S26))) := ⟨_, rfl⟩
  replace H : ((attr_Set.f k y367 (⟨#[97]⟩ : ByteArray) (⟨#[50]⟩ : ByteArray)).bind fun bt370 => ((attr_Get.f k bt370.1 (⟨#[98]⟩ : ByteArray)).bind fun bt374 => ((attr_Encode.f k bt370.1).bind fun bt376 => (if bt370.2 = 0 then (if (bt370.1.length : Int) = 2 then (if 0 < (bt370.1.length : Int) then (if ((rd_T26 bt370.1 0).f0).toList = ([97] : List UInt8) then (if bt374.2 = 0 then (if bt374.1.toList = ([49] : List UInt8) then (if bt376.2 = 0 then (if (bt376.1.length : Int) = 256 then (if 0 < (bt376.1.length : Int) then (some ((rd bt376.1 0) == 2)) else (none)) else (some false)) else (some false)) else (some false)) else (some false)) else (some false)) else (none)) else (some false)) else (some false))))) = some r := by first | (rw [hy367]; with_reducible exact H) | (have H2_ := (Option.bind_some _ _).symm.trans H; rw [hy367]; with_reducible exact H2_) | (have H2_ := (Option.bind_some _ _).symm.trans H; with_reducible exact H2_) | with_reducible exact H | (rw [hy367]; exact H) | exact H
  have Ny367 := Aside0.mk hy367
  clear hy367
  replace H := Option.bind_eq_some_iff.mp H
  obtain ⟨⟨t370, t373⟩, A10, H⟩ := H
  replace H : ((attr_Get.f k t370 (⟨#[98]⟩ : ByteArray)).bind fun bt374 => ((attr_Encode.f k t370).bind fun bt376 => (if t373 = 0 then (if (t370.length : Int) = 2 then (if 0 < (t370.length : Int) then (if ((rd_T26 t370 0).f0).toList = ([97] : List UInt8) then (if bt374.2 = 0 then (if bt374.1.toList = ([49] : List UInt8) then (if bt376.2 = 0 then (if (bt376.1.length : Int) = 256 then (if 0 < (bt376.1.length : Int) then (some ((rd bt376.1 0) == 2)) else (none)) else (some false)) else (some false)) else (some false)) else (some false)) else (some false)) else (none)) else (some false)) else (some false)))) = some r := H
  have A1 := Aside0.mk A10
  clear A10
  replace H := Option.bind_eq_some_iff.mp H
  obtain ⟨⟨t374, t375⟩, A20, H⟩ := H
  replace H : ((attr_Encode.f k t370).bind fun bt376 => (if t373 = 0 then (if (t370.length : Int) = 2 then (if 0 < (t370.length : Int) then (if ((rd_T26 t370 0).f0).toList = ([97] : List UInt8) then (if t375 = 0 then (if t374.toList = ([49] : List UInt8) then (if bt376.2 = 0 then (if (bt376.1.length : Int) = 256 then (if 0 < (bt376.1.length : Int) then (some ((rd bt376.1 0) == 2)) else (none)) else (some false)) else (some false)) else (some false)) else (some false)) else (some false)) else (none)) else (some false)) else (some false))) = some r := H
  have A2 := Aside0.mk A20
  clear A20
  replace H := Option.bind_eq_some_iff.mp H
  obtain ⟨⟨t376, t377⟩, A30, H⟩ := H
  replace H : (if t373 = 0 then (if (t370.length : Int) = 2 then (if 0 < (t370.length : Int) then (if ((rd_T26 t370 0).f0).toList = ([97] : List UInt8) then (if t375 = 0 then (if t374.toList = ([49] : List UInt8) then (if t377 = 0 then (if (t376.length : Int) = 256 then (if 0 < (t376.length : Int) then (some ((rd t376 0) == 2)) else (none)) else (some false)) else (some false)) else (some false)) else (some false)) else (some false)) else (none)) else (some false)) else (some false)) = some r := H
  have A3 := Aside0.mk A30
  clear A30
  by_cases c4 : t373 = 0
  · rw [if_pos c4] at H
    have c4b0 : (t373 == 0) = true := beq_iff_eq.mpr c4
    have c4b1 : (t373 != 0) = false := bne_eq_false_iff_eq.mpr c4
    clear c4
    by_cases c5 : (t370.length : Int) = 2
    · rw [if_pos c5] at H
      have c5b0 : ((t370.length : Int) == 2) = true := beq_iff_eq.mpr c5
      have c5b1 : ((t370.length : Int) != 2) = false := bne_eq_false_iff_eq.mpr c5
      clear c5
      by_cases c6 : 0 < (t370.length : Int)
      · rw [if_pos c6] at H
        have c6b0 : decide (0 < (t370.length : Int)) = true := decide_eq_true c6
        have c6b1 : decide (0 < t370.length) = true := decide_eq_true (by omega)
        clear c6
        by_cases c7 : ((rd_T26 t370 0).f0).toList = ([97] : List UInt8)
        · rw [if_pos c7] at H
          have c7b0 : (((rd_T26 t370 0).f0).toList == ([97] : List UInt8)) = true := beq_iff_eq.mpr c7
          have c7b1 : (((rd_T26 t370 0).f0).toList != ([97] : List UInt8)) = false := bne_eq_false_iff_eq.mpr c7
          clear c7
          by_cases c8 : t375 = 0
          · rw [if_pos c8] at H
            have c8b0 : (t375 == 0) = true := beq_iff_eq.mpr c8
            have c8b1 : (t375 != 0) = false := bne_eq_false_iff_eq.mpr c8
            clear c8
            by_cases c9 : t374.toList = ([49] : List UInt8)
            · rw [if_pos c9] at H
              have c9b0 : (t374.toList == ([49] : List UInt8)) = true := beq_iff_eq.mpr c9
              have c9b1 : (t374.toList != ([49] : List UInt8)) = false := bne_eq_false_iff_eq.mpr c9
              clear c9
              by_cases c10 : t377 = 0
              · rw [if_pos c10] at H
                have c10b0 : (t377 == 0) = true := beq_iff_eq.mpr c10
                have c10b1 : (t377 != 0) = false := bne_eq_false_iff_eq.mpr c10
                clear c10
                by_cases c11 : (t376.length : Int) = 256
                · rw [if_pos c11] at H
                  have c11b0 : ((t376.length : Int) == 256) = true := beq_iff_eq.mpr c11
                  have c11b1 : ((t376.length : Int) != 256) = false := bne_eq_false_iff_eq.mpr c11
                  clear c11
                  by_cases c12 : 0 < (t376.length : Int)
                  · rw [if_pos c12] at H
                    have c12b0 : decide (0 < (t376.length : Int)) = true := decide_eq_true c12
                    have c12b1 : decide (0 < t376.length) = true := decide_eq_true (by omega)
                    clear c12
                    obtain rfl := Option.some.inj H
                    go_enter Try.func13, Try.ntmps13
                    go_wp2_with (first | ((with_reducible refine gate_dst (N := 9) rfl ?_); (try (refine gate_guard (by rfl) ?_; dsimp only)); refine Kd.R_lit k26 _ 26 ?hg (N := 9) ?hd (xs := ([(⟨(⟨#[98]⟩ : ByteArray), (⟨#[49]⟩ : ByteArray)⟩ : S26)] : List (S26))) (inner := [.string (⟨#[98]⟩ : ByteArray), .string (⟨#[49]⟩ : ByteArray)]) (ok := fun _ => True) (okp := fun _ => True) ?hr ?hp (fun _ hk => hk) trivial (Below.refl _ _) (Nat.le_refl _) (by simp) ?_; (case hd => rfl); (case hg => rfl); (case hr => first | (go_simp; done) | (go_simp; rfl)); (case hp => exact (Reps.c2 (show Kd.M k26 _ _ _ (⟨(⟨#[98]⟩ : ByteArray), (⟨#[49]⟩ : ByteArray)⟩ : S26) [.string (⟨#[98]⟩ : ByteArray), .string (⟨#[49]⟩ : ByteArray)] from (k26_mkM _ _ _ (⟨(⟨#[98]⟩ : ByteArray), (⟨#[49]⟩ : ByteArray)⟩ : S26) )) (Reps.none _ _))); intro v368 w13 ho14 hb hg_ hnew_; clear hg_ hnew_; (first | rw [← Ny367.out] at ho14 | (simp only [Int.reduceToNat] at ho14; rw [← Ny367.out] at ho14)); have n0_ := Aside0.mk (Kd.R_lower ho14 (below_size (by repeat (first | (with_reducible first | exact HB.out | apply below_alloc | apply pw_below_drewN | apply below_drew1) | exact HB.out)))); have n1_ := Aside0.mk (below_step (by repeat (first | (with_reducible first | exact HB.out | apply below_alloc | apply pw_below_drewN | apply below_drew1) | exact HB.out)) hb); clear HB; have HO369 := n0_; have HB := n1_; clear n0_ n1_; clear hb ho14; obtain ⟨Ao15, co15, eo15⟩ := Kd.R_slice HO369.out; subst eo15) | ((with_reducible refine gate_callee (f := 14) rfl ?_); refine goesL_ (some 11) rfl rfl Try.func14 (by kernel_rfl) rfl #[.slice Ao15 y367.length co15, .agg #[.string (⟨#[97]⟩ : ByteArray), .string (⟨#[50]⟩ : ByteArray)]] rfl (by (try simp only [List.map_toArray, List.map_cons, List.map_nil]); first | done | rfl | (simp only [List.length_drop, List.length_take]; rfl)) ?_; (with_reducible refine (attr_Set.calls k _ _ y367 (⟨#[97]⟩ : ByteArray) (⟨#[50]⟩ : ByteArray) t370 t373 _ ?side1 ?side2 A1.out).mono ?_); (case side1 => repeat (first | exact (Kd.R_reads' HO369.out).2.2 | (with_reducible refine Kd.C_alloc ?_ _) | (with_reducible refine Kd.C_drewN ?_ _) | (with_reducible refine Kd.C_drew ?_))); (case side2 => exact (Kd.R_reads' HO369.out).2.1); rintro e w16 ⟨v371, rfl, ho0, hb⟩; refine ⟨_, rfl, ?_⟩; have n0_ := Aside0.mk (Kd.R_elder' (by (with_reducible repeat (first | apply Kd.R_alloc | apply Kd.R_drewN | apply Kd.R_drew)); exact HO369.out) (Kd.R_base ho0) hb); have n1_ := Aside0.mk (Kd.R_lower (Kd.R_new' ho0 (Kd.R_lt (by (with_reducible repeat (first | apply Kd.R_alloc | apply Kd.R_drewN | apply Kd.R_drew)); exact HO369.out))) (below_size (by repeat (first | (with_reducible first | exact HB.out | apply below_alloc | apply pw_below_drewN | apply below_drew1) | exact HB.out)))); have n2_ := Aside0.mk (below_step (by repeat (first | (with_reducible first | exact HB.out | apply below_alloc | apply pw_below_drewN | apply below_drew1) | exact HB.out)) hb); clear HO369; clear HB; have HO369 := n0_; have HO372 := n1_; have HB := n2_; clear n0_ n1_ n2_; (try clear hb); (try clear hb2); (try clear hk); (try clear hi); (try clear ho0); obtain ⟨Ao17, co17, eo17⟩ := Kd.R_slice HO372.out; subst eo17) | ((with_reducible refine gate_callee (f := 19) rfl ?_); refine goesL_ (some 16) rfl rfl Try.func19 (by kernel_rfl) rfl #[.slice Ao17 t370.length co17, .string (⟨#[98]⟩ : ByteArray)] rfl (by (try simp only [List.map_toArray, List.map_cons, List.map_nil]); first | done | rfl | (simp only [List.length_drop, List.length_take]; rfl)) ?_; (with_reducible refine (attr_Get.calls k _ _ t370 (⟨#[98]⟩ : ByteArray) t374 t375 _ ?side1 ?side2 A2.out).mono ?_); (case side1 => repeat (first | exact (Kd.R_reads' HO372.out).2.2 | (with_reducible refine Kd.C_alloc ?_ _) | (with_reducible refine Kd.C_drewN ?_ _) | (with_reducible refine Kd.C_drew ?_))); (case side2 => exact (Kd.R_reads' HO372.out).2.1); rintro e w18 ⟨rfl, hb⟩; refine ⟨_, rfl, ?_⟩; have n0_ := Aside0.mk (Kd.R_below (by (with_reducible repeat (first | apply Kd.R_alloc | apply Kd.R_drewN | apply Kd.R_drew)); exact HO369.out) hb); have n1_ := Aside0.mk (Kd.R_below (by (with_reducible repeat (first | apply Kd.R_alloc | apply Kd.R_drewN | apply Kd.R_drew)); exact HO372.out) hb); have n2_ := Aside0.mk (below_step (by repeat (first | (with_reducible first | exact HB.out | apply below_alloc | apply pw_below_drewN | apply below_drew1) | exact HB.out)) hb); clear HO369; clear HO372; clear HB; have HO369 := n0_; have HO372 := n1_; have HB := n2_; clear n0_ n1_ n2_; (try clear hb); (try clear hb2); (try clear hk); (try clear hi)) | ((with_reducible refine gate_callee (f := 21) rfl ?_); refine goesL_ (some 21) rfl rfl Try.func21 (by kernel_rfl) rfl #[.slice Ao17 t370.length co17] rfl (by (try simp only [List.map_toArray, List.map_cons, List.map_nil]); first | done | rfl | (simp only [List.length_drop, List.length_take]; rfl)) ?_; (with_reducible refine (attr_Encode.calls k _ _ t370 t376 t377 _ ?side1 ?side2 A3.out).mono ?_); (case side1 => repeat (first | exact (Kd.R_reads' HO372.out).2.2 | (with_reducible refine Kd.C_alloc ?_ _) | (with_reducible refine Kd.C_drewN ?_ _) | (with_reducible refine Kd.C_drew ?_))); (case side2 => exact (Kd.R_reads' HO372.out).2.1); rintro e w19 ⟨v378, rfl, ho0, hb⟩; refine ⟨_, rfl, ?_⟩; have n0_ := Aside0.mk (Kd.R_below (by (with_reducible repeat (first | apply Kd.R_alloc | apply Kd.R_drewN | apply Kd.R_drew)); exact HO369.out) hb); have n1_ := Aside0.mk (Kd.R_below (by (with_reducible repeat (first | apply Kd.R_alloc | apply Kd.R_drewN | apply Kd.R_drew)); exact HO372.out) hb); have n2_ := Aside0.mk (Kd.R_lower ho0 (below_size (by repeat (first | (with_reducible first | exact HB.out | apply below_alloc | apply pw_below_drewN | apply below_drew1) | exact HB.out)))); have n3_ := Aside0.mk (below_step (by repeat (first | (with_reducible first | exact HB.out | apply below_alloc | apply pw_below_drewN | apply below_drew1) | exact HB.out)) hb); clear HO369; clear HO372; clear HB; have HO369 := n0_; have HO372 := n1_; have HO379 := n2_; have HB := n3_; clear n0_ n1_ n2_ n3_; (try clear hb); (try clear hb2); (try clear hk); (try clear hi); (try clear ho0); have p380 : 0 ≤ (0 : Int) := (by omega); have q380 : 0 < (t370.length : Int) := of_decide_eq_true (by first | (with_reducible assumption) | assumption); obtain ⟨ad380, e380, hx380_0, hx380_1⟩ := at_T26 (Kd.R_reads' HO372.out).2.2 0 p380 q380; cases e380; have qi380 : (0 < t370.length) = True := eq_true (by omega); (try rw [show ((0 : Int)).toNat = 0 from rfl] at hx380_0); (try rw [show 0 * 2 = 0 from rfl] at hx380_0); (try rw [Addr.add_zero'] at hx380_0); (try rw [show ((0 : Int)).toNat = 0 from rfl] at hx380_1); (try rw [show 0 * 2 = 0 from rfl] at hx380_1); (try rw [Addr.add_zero'] at hx380_1); replace p380 := eq_true p380; replace q380 := eq_true q380; obtain ⟨Ao20, co20, eo20⟩ := Kd.R_slice HO379.out; subst eo20; have p381 : 0 ≤ (0 : Int) := (by omega); have q381 : 0 < (t376.length : Int) := of_decide_eq_true (by first | (with_reducible assumption) | assumption); obtain ⟨ad381, e381, hx381_0⟩ := Kd.at_int (Kd.R_reads' HO379.out).2.2 0 p381 q381; cases e381; have qi381 : (0 < t376.length) = True := eq_true (by omega); (try rw [show ((0 : Int)).toNat = 0 from rfl] at hx381_0); (try rw [Addr.add_zero'] at hx381_0); replace p381 := eq_true p381; replace q381 := eq_true q381))
                    go_ret
                    exact ⟨by first | rfl | (simp [errW_none, errW_some] <;> rfl) | (simp [*, errW_none, errW_some] <;> rfl), by repeat (first | (with_reducible first | exact HB.out | apply below_alloc | apply pw_below_drewN | apply below_drew1) | exact HB.out)⟩
                  · rw [if_neg c12] at H
                    exact absurd H (by simp)
                · rw [if_neg c11] at H
                  have c11b0 : ((t376.length : Int) == 256) = false := beq_eq_false_iff_ne.mpr c11
                  have c11b1 : ((t376.length : Int) != 256) = true := bne_iff_ne.mpr c11
                  obtain rfl := Option.some.inj H
                  go_enter Try.func13, Try.ntmps13
                  go_wp2_with (first | ((with_reducible refine gate_dst (N := 9) rfl ?_); (try (refine gate_guard (by rfl) ?_; dsimp only)); refine Kd.R_lit k26 _ 26 ?hg (N := 9) ?hd (xs := ([(⟨(⟨#[98]⟩ : ByteArray), (⟨#[49]⟩ : ByteArray)⟩ : S26)] : List (S26))) (inner := [.string (⟨#[98]⟩ : ByteArray), .string (⟨#[49]⟩ : ByteArray)]) (ok := fun _ => True) (okp := fun _ => True) ?hr ?hp (fun _ hk => hk) trivial (Below.refl _ _) (Nat.le_refl _) (by simp) ?_; (case hd => rfl); (case hg => rfl); (case hr => first | (go_simp; done) | (go_simp; rfl)); (case hp => exact (Reps.c2 (show Kd.M k26 _ _ _ (⟨(⟨#[98]⟩ : ByteArray), (⟨#[49]⟩ : ByteArray)⟩ : S26) [.string (⟨#[98]⟩ : ByteArray), .string (⟨#[49]⟩ : ByteArray)] from (k26_mkM _ _ _ (⟨(⟨#[98]⟩ : ByteArray), (⟨#[49]⟩ : ByteArray)⟩ : S26) )) (Reps.none _ _))); intro v368 w21 ho22 hb hg_ hnew_; clear hg_ hnew_; (first | rw [← Ny367.out] at ho22 | (simp only [Int.reduceToNat] at ho22; rw [← Ny367.out] at ho22)); have n0_ := Aside0.mk (Kd.R_lower ho22 (below_size (by repeat (first | (with_reducible first | exact HB.out | apply below_alloc | apply pw_below_drewN | apply below_drew1) | exact HB.out)))); have n1_ := Aside0.mk (below_step (by repeat (first | (with_reducible first | exact HB.out | apply below_alloc | apply pw_below_drewN | apply below_drew1) | exact HB.out)) hb); clear HB; have HO369 := n0_; have HB := n1_; clear n0_ n1_; clear hb ho22; obtain ⟨Ao23, co23, eo23⟩ := Kd.R_slice HO369.out; subst eo23) | ((with_reducible refine gate_callee (f := 14) rfl ?_); refine goesL_ (some 11) rfl rfl Try.func14 (by kernel_rfl) rfl #[.slice Ao23 y367.length co23, .agg #[.string (⟨#[97]⟩ : ByteArray), .string (⟨#[50]⟩ : ByteArray)]] rfl (by (try simp only [List.map_toArray, List.map_cons, List.map_nil]); first | done | rfl | (simp only [List.length_drop, List.length_take]; rfl)) ?_; (with_reducible refine (attr_Set.calls k _ _ y367 (⟨#[97]⟩ : ByteArray) (⟨#[50]⟩ : ByteArray) t370 t373 _ ?side1 ?side2 A1.out).mono ?_); (case side1 => repeat (first | exact (Kd.R_reads' HO369.out).2.2 | (with_reducible refine Kd.C_alloc ?_ _) | (with_reducible refine Kd.C_drewN ?_ _) | (with_reducible refine Kd.C_drew ?_))); (case side2 => exact (Kd.R_reads' HO369.out).2.1); rintro e w24 ⟨v371, rfl, ho0, hb⟩; refine ⟨_, rfl, ?_⟩; have n0_ := Aside0.mk (Kd.R_elder' (by (with_reducible repeat (first | apply Kd.R_alloc | apply Kd.R_drewN | apply Kd.R_drew)); exact HO369.out) (Kd.R_base ho0) hb); have n1_ := Aside0.mk (Kd.R_lower (Kd.R_new' ho0 (Kd.R_lt (by (with_reducible repeat (first | apply Kd.R_alloc | apply Kd.R_drewN | apply Kd.R_drew)); exact HO369.out))) (below_size (by repeat (first | (with_reducible first | exact HB.out | apply below_alloc | apply pw_below_drewN | apply below_drew1) | exact HB.out)))); have n2_ := Aside0.mk (below_step (by repeat (first | (with_reducible first | exact HB.out | apply below_alloc | apply pw_below_drewN | apply below_drew1) | exact HB.out)) hb); clear HO369; clear HB; have HO369 := n0_; have HO372 := n1_; have HB := n2_; clear n0_ n1_ n2_; (try clear hb); (try clear hb2); (try clear hk); (try clear hi); (try clear ho0); obtain ⟨Ao25, co25, eo25⟩ := Kd.R_slice HO372.out; subst eo25) | ((with_reducible refine gate_callee (f := 19) rfl ?_); refine goesL_ (some 16) rfl rfl Try.func19 (by kernel_rfl) rfl #[.slice Ao25 t370.length co25, .string (⟨#[98]⟩ : ByteArray)] rfl (by (try simp only [List.map_toArray, List.map_cons, List.map_nil]); first | done | rfl | (simp only [List.length_drop, List.length_take]; rfl)) ?_; (with_reducible refine (attr_Get.calls k _ _ t370 (⟨#[98]⟩ : ByteArray) t374 t375 _ ?side1 ?side2 A2.out).mono ?_); (case side1 => repeat (first | exact (Kd.R_reads' HO372.out).2.2 | (with_reducible refine Kd.C_alloc ?_ _) | (with_reducible refine Kd.C_drewN ?_ _) | (with_reducible refine Kd.C_drew ?_))); (case side2 => exact (Kd.R_reads' HO372.out).2.1); rintro e w26 ⟨rfl, hb⟩; refine ⟨_, rfl, ?_⟩; have n0_ := Aside0.mk (Kd.R_below (by (with_reducible repeat (first | apply Kd.R_alloc | apply Kd.R_drewN | apply Kd.R_drew)); exact HO369.out) hb); have n1_ := Aside0.mk (Kd.R_below (by (with_reducible repeat (first | apply Kd.R_alloc | apply Kd.R_drewN | apply Kd.R_drew)); exact HO372.out) hb); have n2_ := Aside0.mk (below_step (by repeat (first | (with_reducible first | exact HB.out | apply below_alloc | apply pw_below_drewN | apply below_drew1) | exact HB.out)) hb); clear HO369; clear HO372; clear HB; have HO369 := n0_; have HO372 := n1_; have HB := n2_; clear n0_ n1_ n2_; (try clear hb); (try clear hb2); (try clear hk); (try clear hi)) | ((with_reducible refine gate_callee (f := 21) rfl ?_); refine goesL_ (some 21) rfl rfl Try.func21 (by kernel_rfl) rfl #[.slice Ao25 t370.length co25] rfl (by (try simp only [List.map_toArray, List.map_cons, List.map_nil]); first | done | rfl | (simp only [List.length_drop, List.length_take]; rfl)) ?_; (with_reducible refine (attr_Encode.calls k _ _ t370 t376 t377 _ ?side1 ?side2 A3.out).mono ?_); (case side1 => repeat (first | exact (Kd.R_reads' HO372.out).2.2 | (with_reducible refine Kd.C_alloc ?_ _) | (with_reducible refine Kd.C_drewN ?_ _) | (with_reducible refine Kd.C_drew ?_))); (case side2 => exact (Kd.R_reads' HO372.out).2.1); rintro e w27 ⟨v378, rfl, ho0, hb⟩; refine ⟨_, rfl, ?_⟩; have n0_ := Aside0.mk (Kd.R_below (by (with_reducible repeat (first | apply Kd.R_alloc | apply Kd.R_drewN | apply Kd.R_drew)); exact HO369.out) hb); have n1_ := Aside0.mk (Kd.R_below (by (with_reducible repeat (first | apply Kd.R_alloc | apply Kd.R_drewN | apply Kd.R_drew)); exact HO372.out) hb); have n2_ := Aside0.mk (Kd.R_lower ho0 (below_size (by repeat (first | (with_reducible first | exact HB.out | apply below_alloc | apply pw_below_drewN | apply below_drew1) | exact HB.out)))); have n3_ := Aside0.mk (below_step (by repeat (first | (with_reducible first | exact HB.out | apply below_alloc | apply pw_below_drewN | apply below_drew1) | exact HB.out)) hb); clear HO369; clear HO372; clear HB; have HO369 := n0_; have HO372 := n1_; have HO379 := n2_; have HB := n3_; clear n0_ n1_ n2_ n3_; (try clear hb); (try clear hb2); (try clear hk); (try clear hi); (try clear ho0); have p380 : 0 ≤ (0 : Int) := (by omega); have q380 : 0 < (t370.length : Int) := of_decide_eq_true (by first | (with_reducible assumption) | assumption); obtain ⟨ad380, e380, hx380_0, hx380_1⟩ := at_T26 (Kd.R_reads' HO372.out).2.2 0 p380 q380; cases e380; have qi380 : (0 < t370.length) = True := eq_true (by omega); (try rw [show ((0 : Int)).toNat = 0 from rfl] at hx380_0); (try rw [show 0 * 2 = 0 from rfl] at hx380_0); (try rw [Addr.add_zero'] at hx380_0); (try rw [show ((0 : Int)).toNat = 0 from rfl] at hx380_1); (try rw [show 0 * 2 = 0 from rfl] at hx380_1); (try rw [Addr.add_zero'] at hx380_1); replace p380 := eq_true p380; replace q380 := eq_true q380; obtain ⟨Ao28, co28, eo28⟩ := Kd.R_slice HO379.out; subst eo28))
                  go_ret
                  exact ⟨by first | rfl | (simp [errW_none, errW_some] <;> rfl) | (simp [*, errW_none, errW_some] <;> rfl), by repeat (first | (with_reducible first | exact HB.out | apply below_alloc | apply pw_below_drewN | apply below_drew1) | exact HB.out)⟩
              · rw [if_neg c10] at H
                have c10b0 : (t377 == 0) = false := beq_eq_false_iff_ne.mpr c10
                have c10b1 : (t377 != 0) = true := bne_iff_ne.mpr c10
                obtain rfl := Option.some.inj H
                go_enter Try.func13, Try.ntmps13
                go_wp2_with (first | ((with_reducible refine gate_dst (N := 9) rfl ?_); (try (refine gate_guard (by rfl) ?_; dsimp only)); refine Kd.R_lit k26 _ 26 ?hg (N := 9) ?hd (xs := ([(⟨(⟨#[98]⟩ : ByteArray), (⟨#[49]⟩ : ByteArray)⟩ : S26)] : List (S26))) (inner := [.string (⟨#[98]⟩ : ByteArray), .string (⟨#[49]⟩ : ByteArray)]) (ok := fun _ => True) (okp := fun _ => True) ?hr ?hp (fun _ hk => hk) trivial (Below.refl _ _) (Nat.le_refl _) (by simp) ?_; (case hd => rfl); (case hg => rfl); (case hr => first | (go_simp; done) | (go_simp; rfl)); (case hp => exact (Reps.c2 (show Kd.M k26 _ _ _ (⟨(⟨#[98]⟩ : ByteArray), (⟨#[49]⟩ : ByteArray)⟩ : S26) [.string (⟨#[98]⟩ : ByteArray), .string (⟨#[49]⟩ : ByteArray)] from (k26_mkM _ _ _ (⟨(⟨#[98]⟩ : ByteArray), (⟨#[49]⟩ : ByteArray)⟩ : S26) )) (Reps.none _ _))); intro v368 w29 ho30 hb hg_ hnew_; clear hg_ hnew_; (first | rw [← Ny367.out] at ho30 | (simp only [Int.reduceToNat] at ho30; rw [← Ny367.out] at ho30)); have n0_ := Aside0.mk (Kd.R_lower ho30 (below_size (by repeat (first | (with_reducible first | exact HB.out | apply below_alloc | apply pw_below_drewN | apply below_drew1) | exact HB.out)))); have n1_ := Aside0.mk (below_step (by repeat (first | (with_reducible first | exact HB.out | apply below_alloc | apply pw_below_drewN | apply below_drew1) | exact HB.out)) hb); clear HB; have HO369 := n0_; have HB := n1_; clear n0_ n1_; clear hb ho30; obtain ⟨Ao31, co31, eo31⟩ := Kd.R_slice HO369.out; subst eo31) | ((with_reducible refine gate_callee (f := 14) rfl ?_); refine goesL_ (some 11) rfl rfl Try.func14 (by kernel_rfl) rfl #[.slice Ao31 y367.length co31, .agg #[.string (⟨#[97]⟩ : ByteArray), .string (⟨#[50]⟩ : ByteArray)]] rfl (by (try simp only [List.map_toArray, List.map_cons, List.map_nil]); first | done | rfl | (simp only [List.length_drop, List.length_take]; rfl)) ?_; (with_reducible refine (attr_Set.calls k _ _ y367 (⟨#[97]⟩ : ByteArray) (⟨#[50]⟩ : ByteArray) t370 t373 _ ?side1 ?side2 A1.out).mono ?_); (case side1 => repeat (first | exact (Kd.R_reads' HO369.out).2.2 | (with_reducible refine Kd.C_alloc ?_ _) | (with_reducible refine Kd.C_drewN ?_ _) | (with_reducible refine Kd.C_drew ?_))); (case side2 => exact (Kd.R_reads' HO369.out).2.1); rintro e w32 ⟨v371, rfl, ho0, hb⟩; refine ⟨_, rfl, ?_⟩; have n0_ := Aside0.mk (Kd.R_elder' (by (with_reducible repeat (first | apply Kd.R_alloc | apply Kd.R_drewN | apply Kd.R_drew)); exact HO369.out) (Kd.R_base ho0) hb); have n1_ := Aside0.mk (Kd.R_lower (Kd.R_new' ho0 (Kd.R_lt (by (with_reducible repeat (first | apply Kd.R_alloc | apply Kd.R_drewN | apply Kd.R_drew)); exact HO369.out))) (below_size (by repeat (first | (with_reducible first | exact HB.out | apply below_alloc | apply pw_below_drewN | apply below_drew1) | exact HB.out)))); have n2_ := Aside0.mk (below_step (by repeat (first | (with_reducible first | exact HB.out | apply below_alloc | apply pw_below_drewN | apply below_drew1) | exact HB.out)) hb); clear HO369; clear HB; have HO369 := n0_; have HO372 := n1_; have HB := n2_; clear n0_ n1_ n2_; (try clear hb); (try clear hb2); (try clear hk); (try clear hi); (try clear ho0); obtain ⟨Ao33, co33, eo33⟩ := Kd.R_slice HO372.out; subst eo33) | ((with_reducible refine gate_callee (f := 19) rfl ?_); refine goesL_ (some 16) rfl rfl Try.func19 (by kernel_rfl) rfl #[.slice Ao33 t370.length co33, .string (⟨#[98]⟩ : ByteArray)] rfl (by (try simp only [List.map_toArray, List.map_cons, List.map_nil]); first | done | rfl | (simp only [List.length_drop, List.length_take]; rfl)) ?_; (with_reducible refine (attr_Get.calls k _ _ t370 (⟨#[98]⟩ : ByteArray) t374 t375 _ ?side1 ?side2 A2.out).mono ?_); (case side1 => repeat (first | exact (Kd.R_reads' HO372.out).2.2 | (with_reducible refine Kd.C_alloc ?_ _) | (with_reducible refine Kd.C_drewN ?_ _) | (with_reducible refine Kd.C_drew ?_))); (case side2 => exact (Kd.R_reads' HO372.out).2.1); rintro e w34 ⟨rfl, hb⟩; refine ⟨_, rfl, ?_⟩; have n0_ := Aside0.mk (Kd.R_below (by (with_reducible repeat (first | apply Kd.R_alloc | apply Kd.R_drewN | apply Kd.R_drew)); exact HO369.out) hb); have n1_ := Aside0.mk (Kd.R_below (by (with_reducible repeat (first | apply Kd.R_alloc | apply Kd.R_drewN | apply Kd.R_drew)); exact HO372.out) hb); have n2_ := Aside0.mk (below_step (by repeat (first | (with_reducible first | exact HB.out | apply below_alloc | apply pw_below_drewN | apply below_drew1) | exact HB.out)) hb); clear HO369; clear HO372; clear HB; have HO369 := n0_; have HO372 := n1_; have HB := n2_; clear n0_ n1_ n2_; (try clear hb); (try clear hb2); (try clear hk); (try clear hi)) | ((with_reducible refine gate_callee (f := 21) rfl ?_); refine goesL_ (some 21) rfl rfl Try.func21 (by kernel_rfl) rfl #[.slice Ao33 t370.length co33] rfl (by (try simp only [List.map_toArray, List.map_cons, List.map_nil]); first | done | rfl | (simp only [List.length_drop, List.length_take]; rfl)) ?_; (with_reducible refine (attr_Encode.calls k _ _ t370 t376 t377 _ ?side1 ?side2 A3.out).mono ?_); (case side1 => repeat (first | exact (Kd.R_reads' HO372.out).2.2 | (with_reducible refine Kd.C_alloc ?_ _) | (with_reducible refine Kd.C_drewN ?_ _) | (with_reducible refine Kd.C_drew ?_))); (case side2 => exact (Kd.R_reads' HO372.out).2.1); rintro e w35 ⟨v378, rfl, ho0, hb⟩; refine ⟨_, rfl, ?_⟩; have n0_ := Aside0.mk (Kd.R_below (by (with_reducible repeat (first | apply Kd.R_alloc | apply Kd.R_drewN | apply Kd.R_drew)); exact HO369.out) hb); have n1_ := Aside0.mk (Kd.R_below (by (with_reducible repeat (first | apply Kd.R_alloc | apply Kd.R_drewN | apply Kd.R_drew)); exact HO372.out) hb); have n2_ := Aside0.mk (Kd.R_lower ho0 (below_size (by repeat (first | (with_reducible first | exact HB.out | apply below_alloc | apply pw_below_drewN | apply below_drew1) | exact HB.out)))); have n3_ := Aside0.mk (below_step (by repeat (first | (with_reducible first | exact HB.out | apply below_alloc | apply pw_below_drewN | apply below_drew1) | exact HB.out)) hb); clear HO369; clear HO372; clear HB; have HO369 := n0_; have HO372 := n1_; have HO379 := n2_; have HB := n3_; clear n0_ n1_ n2_ n3_; (try clear hb); (try clear hb2); (try clear hk); (try clear hi); (try clear ho0); have p380 : 0 ≤ (0 : Int) := (by omega); have q380 : 0 < (t370.length : Int) := of_decide_eq_true (by first | (with_reducible assumption) | assumption); obtain ⟨ad380, e380, hx380_0, hx380_1⟩ := at_T26 (Kd.R_reads' HO372.out).2.2 0 p380 q380; cases e380; have qi380 : (0 < t370.length) = True := eq_true (by omega); (try rw [show ((0 : Int)).toNat = 0 from rfl] at hx380_0); (try rw [show 0 * 2 = 0 from rfl] at hx380_0); (try rw [Addr.add_zero'] at hx380_0); (try rw [show ((0 : Int)).toNat = 0 from rfl] at hx380_1); (try rw [show 0 * 2 = 0 from rfl] at hx380_1); (try rw [Addr.add_zero'] at hx380_1); replace p380 := eq_true p380; replace q380 := eq_true q380))
                go_ret
                exact ⟨by first | rfl | (simp [errW_none, errW_some] <;> rfl) | (simp [*, errW_none, errW_some] <;> rfl), by repeat (first | (with_reducible first | exact HB.out | apply below_alloc | apply pw_below_drewN | apply below_drew1) | exact HB.out)⟩
            · rw [if_neg c9] at H
              have c9b0 : (t374.toList == ([49] : List UInt8)) = false := beq_eq_false_iff_ne.mpr c9
              have c9b1 : (t374.toList != ([49] : List UInt8)) = true := bne_iff_ne.mpr c9
              obtain rfl := Option.some.inj H
              go_enter Try.func13, Try.ntmps13
              go_wp2_with (first | ((with_reducible refine gate_dst (N := 9) rfl ?_); (try (refine gate_guard (by rfl) ?_; dsimp only)); refine Kd.R_lit k26 _ 26 ?hg (N := 9) ?hd (xs := ([(⟨(⟨#[98]⟩ : ByteArray), (⟨#[49]⟩ : ByteArray)⟩ : S26)] : List (S26))) (inner := [.string (⟨#[98]⟩ : ByteArray), .string (⟨#[49]⟩ : ByteArray)]) (ok := fun _ => True) (okp := fun _ => True) ?hr ?hp (fun _ hk => hk) trivial (Below.refl _ _) (Nat.le_refl _) (by simp) ?_; (case hd => rfl); (case hg => rfl); (case hr => first | (go_simp; done) | (go_simp; rfl)); (case hp => exact (Reps.c2 (show Kd.M k26 _ _ _ (⟨(⟨#[98]⟩ : ByteArray), (⟨#[49]⟩ : ByteArray)⟩ : S26) [.string (⟨#[98]⟩ : ByteArray), .string (⟨#[49]⟩ : ByteArray)] from (k26_mkM _ _ _ (⟨(⟨#[98]⟩ : ByteArray), (⟨#[49]⟩ : ByteArray)⟩ : S26) )) (Reps.none _ _))); intro v368 w36 ho37 hb hg_ hnew_; clear hg_ hnew_; (first | rw [← Ny367.out] at ho37 | (simp only [Int.reduceToNat] at ho37; rw [← Ny367.out] at ho37)); have n0_ := Aside0.mk (Kd.R_lower ho37 (below_size (by repeat (first | (with_reducible first | exact HB.out | apply below_alloc | apply pw_below_drewN | apply below_drew1) | exact HB.out)))); have n1_ := Aside0.mk (below_step (by repeat (first | (with_reducible first | exact HB.out | apply below_alloc | apply pw_below_drewN | apply below_drew1) | exact HB.out)) hb); clear HB; have HO369 := n0_; have HB := n1_; clear n0_ n1_; clear hb ho37; obtain ⟨Ao38, co38, eo38⟩ := Kd.R_slice HO369.out; subst eo38) | ((with_reducible refine gate_callee (f := 14) rfl ?_); refine goesL_ (some 11) rfl rfl Try.func14 (by kernel_rfl) rfl #[.slice Ao38 y367.length co38, .agg #[.string (⟨#[97]⟩ : ByteArray), .string (⟨#[50]⟩ : ByteArray)]] rfl (by (try simp only [List.map_toArray, List.map_cons, List.map_nil]); first | done | rfl | (simp only [List.length_drop, List.length_take]; rfl)) ?_; (with_reducible refine (attr_Set.calls k _ _ y367 (⟨#[97]⟩ : ByteArray) (⟨#[50]⟩ : ByteArray) t370 t373 _ ?side1 ?side2 A1.out).mono ?_); (case side1 => repeat (first | exact (Kd.R_reads' HO369.out).2.2 | (with_reducible refine Kd.C_alloc ?_ _) | (with_reducible refine Kd.C_drewN ?_ _) | (with_reducible refine Kd.C_drew ?_))); (case side2 => exact (Kd.R_reads' HO369.out).2.1); rintro e w39 ⟨v371, rfl, ho0, hb⟩; refine ⟨_, rfl, ?_⟩; have n0_ := Aside0.mk (Kd.R_elder' (by (with_reducible repeat (first | apply Kd.R_alloc | apply Kd.R_drewN | apply Kd.R_drew)); exact HO369.out) (Kd.R_base ho0) hb); have n1_ := Aside0.mk (Kd.R_lower (Kd.R_new' ho0 (Kd.R_lt (by (with_reducible repeat (first | apply Kd.R_alloc | apply Kd.R_drewN | apply Kd.R_drew)); exact HO369.out))) (below_size (by repeat (first | (with_reducible first | exact HB.out | apply below_alloc | apply pw_below_drewN | apply below_drew1) | exact HB.out)))); have n2_ := Aside0.mk (below_step (by repeat (first | (with_reducible first | exact HB.out | apply below_alloc | apply pw_below_drewN | apply below_drew1) | exact HB.out)) hb); clear HO369; clear HB; have HO369 := n0_; have HO372 := n1_; have HB := n2_; clear n0_ n1_ n2_; (try clear hb); (try clear hb2); (try clear hk); (try clear hi); (try clear ho0); obtain ⟨Ao40, co40, eo40⟩ := Kd.R_slice HO372.out; subst eo40) | ((with_reducible refine gate_callee (f := 19) rfl ?_); refine goesL_ (some 16) rfl rfl Try.func19 (by kernel_rfl) rfl #[.slice Ao40 t370.length co40, .string (⟨#[98]⟩ : ByteArray)] rfl (by (try simp only [List.map_toArray, List.map_cons, List.map_nil]); first | done | rfl | (simp only [List.length_drop, List.length_take]; rfl)) ?_; (with_reducible refine (attr_Get.calls k _ _ t370 (⟨#[98]⟩ : ByteArray) t374 t375 _ ?side1 ?side2 A2.out).mono ?_); (case side1 => repeat (first | exact (Kd.R_reads' HO372.out).2.2 | (with_reducible refine Kd.C_alloc ?_ _) | (with_reducible refine Kd.C_drewN ?_ _) | (with_reducible refine Kd.C_drew ?_))); (case side2 => exact (Kd.R_reads' HO372.out).2.1); rintro e w41 ⟨rfl, hb⟩; refine ⟨_, rfl, ?_⟩; have n0_ := Aside0.mk (Kd.R_below (by (with_reducible repeat (first | apply Kd.R_alloc | apply Kd.R_drewN | apply Kd.R_drew)); exact HO369.out) hb); have n1_ := Aside0.mk (Kd.R_below (by (with_reducible repeat (first | apply Kd.R_alloc | apply Kd.R_drewN | apply Kd.R_drew)); exact HO372.out) hb); have n2_ := Aside0.mk (below_step (by repeat (first | (with_reducible first | exact HB.out | apply below_alloc | apply pw_below_drewN | apply below_drew1) | exact HB.out)) hb); clear HO369; clear HO372; clear HB; have HO369 := n0_; have HO372 := n1_; have HB := n2_; clear n0_ n1_ n2_; (try clear hb); (try clear hb2); (try clear hk); (try clear hi)) | ((with_reducible refine gate_callee (f := 21) rfl ?_); refine goesL_ (some 21) rfl rfl Try.func21 (by kernel_rfl) rfl #[.slice Ao40 t370.length co40] rfl (by (try simp only [List.map_toArray, List.map_cons, List.map_nil]); first | done | rfl | (simp only [List.length_drop, List.length_take]; rfl)) ?_; (with_reducible refine (attr_Encode.calls k _ _ t370 t376 t377 _ ?side1 ?side2 A3.out).mono ?_); (case side1 => repeat (first | exact (Kd.R_reads' HO372.out).2.2 | (with_reducible refine Kd.C_alloc ?_ _) | (with_reducible refine Kd.C_drewN ?_ _) | (with_reducible refine Kd.C_drew ?_))); (case side2 => exact (Kd.R_reads' HO372.out).2.1); rintro e w42 ⟨v378, rfl, ho0, hb⟩; refine ⟨_, rfl, ?_⟩; have n0_ := Aside0.mk (Kd.R_below (by (with_reducible repeat (first | apply Kd.R_alloc | apply Kd.R_drewN | apply Kd.R_drew)); exact HO369.out) hb); have n1_ := Aside0.mk (Kd.R_below (by (with_reducible repeat (first | apply Kd.R_alloc | apply Kd.R_drewN | apply Kd.R_drew)); exact HO372.out) hb); have n2_ := Aside0.mk (Kd.R_lower ho0 (below_size (by repeat (first | (with_reducible first | exact HB.out | apply below_alloc | apply pw_below_drewN | apply below_drew1) | exact HB.out)))); have n3_ := Aside0.mk (below_step (by repeat (first | (with_reducible first | exact HB.out | apply below_alloc | apply pw_below_drewN | apply below_drew1) | exact HB.out)) hb); clear HO369; clear HO372; clear HB; have HO369 := n0_; have HO372 := n1_; have HO379 := n2_; have HB := n3_; clear n0_ n1_ n2_ n3_; (try clear hb); (try clear hb2); (try clear hk); (try clear hi); (try clear ho0); have p380 : 0 ≤ (0 : Int) := (by omega); have q380 : 0 < (t370.length : Int) := of_decide_eq_true (by first | (with_reducible assumption) | assumption); obtain ⟨ad380, e380, hx380_0, hx380_1⟩ := at_T26 (Kd.R_reads' HO372.out).2.2 0 p380 q380; cases e380; have qi380 : (0 < t370.length) = True := eq_true (by omega); (try rw [show ((0 : Int)).toNat = 0 from rfl] at hx380_0); (try rw [show 0 * 2 = 0 from rfl] at hx380_0); (try rw [Addr.add_zero'] at hx380_0); (try rw [show ((0 : Int)).toNat = 0 from rfl] at hx380_1); (try rw [show 0 * 2 = 0 from rfl] at hx380_1); (try rw [Addr.add_zero'] at hx380_1); replace p380 := eq_true p380; replace q380 := eq_true q380))
              go_ret
              exact ⟨by first | rfl | (simp [errW_none, errW_some] <;> rfl) | (simp [*, errW_none, errW_some] <;> rfl), by repeat (first | (with_reducible first | exact HB.out | apply below_alloc | apply pw_below_drewN | apply below_drew1) | exact HB.out)⟩
          · rw [if_neg c8] at H
            have c8b0 : (t375 == 0) = false := beq_eq_false_iff_ne.mpr c8
            have c8b1 : (t375 != 0) = true := bne_iff_ne.mpr c8
            obtain rfl := Option.some.inj H
            go_enter Try.func13, Try.ntmps13
            go_wp2_with (first | ((with_reducible refine gate_dst (N := 9) rfl ?_); (try (refine gate_guard (by rfl) ?_; dsimp only)); refine Kd.R_lit k26 _ 26 ?hg (N := 9) ?hd (xs := ([(⟨(⟨#[98]⟩ : ByteArray), (⟨#[49]⟩ : ByteArray)⟩ : S26)] : List (S26))) (inner := [.string (⟨#[98]⟩ : ByteArray), .string (⟨#[49]⟩ : ByteArray)]) (ok := fun _ => True) (okp := fun _ => True) ?hr ?hp (fun _ hk => hk) trivial (Below.refl _ _) (Nat.le_refl _) (by simp) ?_; (case hd => rfl); (case hg => rfl); (case hr => first | (go_simp; done) | (go_simp; rfl)); (case hp => exact (Reps.c2 (show Kd.M k26 _ _ _ (⟨(⟨#[98]⟩ : ByteArray), (⟨#[49]⟩ : ByteArray)⟩ : S26) [.string (⟨#[98]⟩ : ByteArray), .string (⟨#[49]⟩ : ByteArray)] from (k26_mkM _ _ _ (⟨(⟨#[98]⟩ : ByteArray), (⟨#[49]⟩ : ByteArray)⟩ : S26) )) (Reps.none _ _))); intro v368 w43 ho44 hb hg_ hnew_; clear hg_ hnew_; (first | rw [← Ny367.out] at ho44 | (simp only [Int.reduceToNat] at ho44; rw [← Ny367.out] at ho44)); have n0_ := Aside0.mk (Kd.R_lower ho44 (below_size (by repeat (first | (with_reducible first | exact HB.out | apply below_alloc | apply pw_below_drewN | apply below_drew1) | exact HB.out)))); have n1_ := Aside0.mk (below_step (by repeat (first | (with_reducible first | exact HB.out | apply below_alloc | apply pw_below_drewN | apply below_drew1) | exact HB.out)) hb); clear HB; have HO369 := n0_; have HB := n1_; clear n0_ n1_; clear hb ho44; obtain ⟨Ao45, co45, eo45⟩ := Kd.R_slice HO369.out; subst eo45) | ((with_reducible refine gate_callee (f := 14) rfl ?_); refine goesL_ (some 11) rfl rfl Try.func14 (by kernel_rfl) rfl #[.slice Ao45 y367.length co45, .agg #[.string (⟨#[97]⟩ : ByteArray), .string (⟨#[50]⟩ : ByteArray)]] rfl (by (try simp only [List.map_toArray, List.map_cons, List.map_nil]); first | done | rfl | (simp only [List.length_drop, List.length_take]; rfl)) ?_; (with_reducible refine (attr_Set.calls k _ _ y367 (⟨#[97]⟩ : ByteArray) (⟨#[50]⟩ : ByteArray) t370 t373 _ ?side1 ?side2 A1.out).mono ?_); (case side1 => repeat (first | exact (Kd.R_reads' HO369.out).2.2 | (with_reducible refine Kd.C_alloc ?_ _) | (with_reducible refine Kd.C_drewN ?_ _) | (with_reducible refine Kd.C_drew ?_))); (case side2 => exact (Kd.R_reads' HO369.out).2.1); rintro e w46 ⟨v371, rfl, ho0, hb⟩; refine ⟨_, rfl, ?_⟩; have n0_ := Aside0.mk (Kd.R_elder' (by (with_reducible repeat (first | apply Kd.R_alloc | apply Kd.R_drewN | apply Kd.R_drew)); exact HO369.out) (Kd.R_base ho0) hb); have n1_ := Aside0.mk (Kd.R_lower (Kd.R_new' ho0 (Kd.R_lt (by (with_reducible repeat (first | apply Kd.R_alloc | apply Kd.R_drewN | apply Kd.R_drew)); exact HO369.out))) (below_size (by repeat (first | (with_reducible first | exact HB.out | apply below_alloc | apply pw_below_drewN | apply below_drew1) | exact HB.out)))); have n2_ := Aside0.mk (below_step (by repeat (first | (with_reducible first | exact HB.out | apply below_alloc | apply pw_below_drewN | apply below_drew1) | exact HB.out)) hb); clear HO369; clear HB; have HO369 := n0_; have HO372 := n1_; have HB := n2_; clear n0_ n1_ n2_; (try clear hb); (try clear hb2); (try clear hk); (try clear hi); (try clear ho0); obtain ⟨Ao47, co47, eo47⟩ := Kd.R_slice HO372.out; subst eo47) | ((with_reducible refine gate_callee (f := 19) rfl ?_); refine goesL_ (some 16) rfl rfl Try.func19 (by kernel_rfl) rfl #[.slice Ao47 t370.length co47, .string (⟨#[98]⟩ : ByteArray)] rfl (by (try simp only [List.map_toArray, List.map_cons, List.map_nil]); first | done | rfl | (simp only [List.length_drop, List.length_take]; rfl)) ?_; (with_reducible refine (attr_Get.calls k _ _ t370 (⟨#[98]⟩ : ByteArray) t374 t375 _ ?side1 ?side2 A2.out).mono ?_); (case side1 => repeat (first | exact (Kd.R_reads' HO372.out).2.2 | (with_reducible refine Kd.C_alloc ?_ _) | (with_reducible refine Kd.C_drewN ?_ _) | (with_reducible refine Kd.C_drew ?_))); (case side2 => exact (Kd.R_reads' HO372.out).2.1); rintro e w48 ⟨rfl, hb⟩; refine ⟨_, rfl, ?_⟩; have n0_ := Aside0.mk (Kd.R_below (by (with_reducible repeat (first | apply Kd.R_alloc | apply Kd.R_drewN | apply Kd.R_drew)); exact HO369.out) hb); have n1_ := Aside0.mk (Kd.R_below (by (with_reducible repeat (first | apply Kd.R_alloc | apply Kd.R_drewN | apply Kd.R_drew)); exact HO372.out) hb); have n2_ := Aside0.mk (below_step (by repeat (first | (with_reducible first | exact HB.out | apply below_alloc | apply pw_below_drewN | apply below_drew1) | exact HB.out)) hb); clear HO369; clear HO372; clear HB; have HO369 := n0_; have HO372 := n1_; have HB := n2_; clear n0_ n1_ n2_; (try clear hb); (try clear hb2); (try clear hk); (try clear hi)) | ((with_reducible refine gate_callee (f := 21) rfl ?_); refine goesL_ (some 21) rfl rfl Try.func21 (by kernel_rfl) rfl #[.slice Ao47 t370.length co47] rfl (by (try simp only [List.map_toArray, List.map_cons, List.map_nil]); first | done | rfl | (simp only [List.length_drop, List.length_take]; rfl)) ?_; (with_reducible refine (attr_Encode.calls k _ _ t370 t376 t377 _ ?side1 ?side2 A3.out).mono ?_); (case side1 => repeat (first | exact (Kd.R_reads' HO372.out).2.2 | (with_reducible refine Kd.C_alloc ?_ _) | (with_reducible refine Kd.C_drewN ?_ _) | (with_reducible refine Kd.C_drew ?_))); (case side2 => exact (Kd.R_reads' HO372.out).2.1); rintro e w49 ⟨v378, rfl, ho0, hb⟩; refine ⟨_, rfl, ?_⟩; have n0_ := Aside0.mk (Kd.R_below (by (with_reducible repeat (first | apply Kd.R_alloc | apply Kd.R_drewN | apply Kd.R_drew)); exact HO369.out) hb); have n1_ := Aside0.mk (Kd.R_below (by (with_reducible repeat (first | apply Kd.R_alloc | apply Kd.R_drewN | apply Kd.R_drew)); exact HO372.out) hb); have n2_ := Aside0.mk (Kd.R_lower ho0 (below_size (by repeat (first | (with_reducible first | exact HB.out | apply below_alloc | apply pw_below_drewN | apply below_drew1) | exact HB.out)))); have n3_ := Aside0.mk (below_step (by repeat (first | (with_reducible first | exact HB.out | apply below_alloc | apply pw_below_drewN | apply below_drew1) | exact HB.out)) hb); clear HO369; clear HO372; clear HB; have HO369 := n0_; have HO372 := n1_; have HO379 := n2_; have HB := n3_; clear n0_ n1_ n2_ n3_; (try clear hb); (try clear hb2); (try clear hk); (try clear hi); (try clear ho0); have p380 : 0 ≤ (0 : Int) := (by omega); have q380 : 0 < (t370.length : Int) := of_decide_eq_true (by first | (with_reducible assumption) | assumption); obtain ⟨ad380, e380, hx380_0, hx380_1⟩ := at_T26 (Kd.R_reads' HO372.out).2.2 0 p380 q380; cases e380; have qi380 : (0 < t370.length) = True := eq_true (by omega); (try rw [show ((0 : Int)).toNat = 0 from rfl] at hx380_0); (try rw [show 0 * 2 = 0 from rfl] at hx380_0); (try rw [Addr.add_zero'] at hx380_0); (try rw [show ((0 : Int)).toNat = 0 from rfl] at hx380_1); (try rw [show 0 * 2 = 0 from rfl] at hx380_1); (try rw [Addr.add_zero'] at hx380_1); replace p380 := eq_true p380; replace q380 := eq_true q380))
            go_ret
            exact ⟨by first | rfl | (simp [errW_none, errW_some] <;> rfl) | (simp [*, errW_none, errW_some] <;> rfl), by repeat (first | (with_reducible first | exact HB.out | apply below_alloc | apply pw_below_drewN | apply below_drew1) | exact HB.out)⟩
        · rw [if_neg c7] at H
          have c7b0 : (((rd_T26 t370 0).f0).toList == ([97] : List UInt8)) = false := beq_eq_false_iff_ne.mpr c7
          have c7b1 : (((rd_T26 t370 0).f0).toList != ([97] : List UInt8)) = true := bne_iff_ne.mpr c7
          obtain rfl := Option.some.inj H
          go_enter Try.func13, Try.ntmps13
          go_wp2_with (first | ((with_reducible refine gate_dst (N := 9) rfl ?_); (try (refine gate_guard (by rfl) ?_; dsimp only)); refine Kd.R_lit k26 _ 26 ?hg (N := 9) ?hd (xs := ([(⟨(⟨#[98]⟩ : ByteArray), (⟨#[49]⟩ : ByteArray)⟩ : S26)] : List (S26))) (inner := [.string (⟨#[98]⟩ : ByteArray), .string (⟨#[49]⟩ : ByteArray)]) (ok := fun _ => True) (okp := fun _ => True) ?hr ?hp (fun _ hk => hk) trivial (Below.refl _ _) (Nat.le_refl _) (by simp) ?_; (case hd => rfl); (case hg => rfl); (case hr => first | (go_simp; done) | (go_simp; rfl)); (case hp => exact (Reps.c2 (show Kd.M k26 _ _ _ (⟨(⟨#[98]⟩ : ByteArray), (⟨#[49]⟩ : ByteArray)⟩ : S26) [.string (⟨#[98]⟩ : ByteArray), .string (⟨#[49]⟩ : ByteArray)] from (k26_mkM _ _ _ (⟨(⟨#[98]⟩ : ByteArray), (⟨#[49]⟩ : ByteArray)⟩ : S26) )) (Reps.none _ _))); intro v368 w50 ho51 hb hg_ hnew_; clear hg_ hnew_; (first | rw [← Ny367.out] at ho51 | (simp only [Int.reduceToNat] at ho51; rw [← Ny367.out] at ho51)); have n0_ := Aside0.mk (Kd.R_lower ho51 (below_size (by repeat (first | (with_reducible first | exact HB.out | apply below_alloc | apply pw_below_drewN | apply below_drew1) | exact HB.out)))); have n1_ := Aside0.mk (below_step (by repeat (first | (with_reducible first | exact HB.out | apply below_alloc | apply pw_below_drewN | apply below_drew1) | exact HB.out)) hb); clear HB; have HO369 := n0_; have HB := n1_; clear n0_ n1_; clear hb ho51; obtain ⟨Ao52, co52, eo52⟩ := Kd.R_slice HO369.out; subst eo52) | ((with_reducible refine gate_callee (f := 14) rfl ?_); refine goesL_ (some 11) rfl rfl Try.func14 (by kernel_rfl) rfl #[.slice Ao52 y367.length co52, .agg #[.string (⟨#[97]⟩ : ByteArray), .string (⟨#[50]⟩ : ByteArray)]] rfl (by (try simp only [List.map_toArray, List.map_cons, List.map_nil]); first | done | rfl | (simp only [List.length_drop, List.length_take]; rfl)) ?_; (with_reducible refine (attr_Set.calls k _ _ y367 (⟨#[97]⟩ : ByteArray) (⟨#[50]⟩ : ByteArray) t370 t373 _ ?side1 ?side2 A1.out).mono ?_); (case side1 => repeat (first | exact (Kd.R_reads' HO369.out).2.2 | (with_reducible refine Kd.C_alloc ?_ _) | (with_reducible refine Kd.C_drewN ?_ _) | (with_reducible refine Kd.C_drew ?_))); (case side2 => exact (Kd.R_reads' HO369.out).2.1); rintro e w53 ⟨v371, rfl, ho0, hb⟩; refine ⟨_, rfl, ?_⟩; have n0_ := Aside0.mk (Kd.R_elder' (by (with_reducible repeat (first | apply Kd.R_alloc | apply Kd.R_drewN | apply Kd.R_drew)); exact HO369.out) (Kd.R_base ho0) hb); have n1_ := Aside0.mk (Kd.R_lower (Kd.R_new' ho0 (Kd.R_lt (by (with_reducible repeat (first | apply Kd.R_alloc | apply Kd.R_drewN | apply Kd.R_drew)); exact HO369.out))) (below_size (by repeat (first | (with_reducible first | exact HB.out | apply below_alloc | apply pw_below_drewN | apply below_drew1) | exact HB.out)))); have n2_ := Aside0.mk (below_step (by repeat (first | (with_reducible first | exact HB.out | apply below_alloc | apply pw_below_drewN | apply below_drew1) | exact HB.out)) hb); clear HO369; clear HB; have HO369 := n0_; have HO372 := n1_; have HB := n2_; clear n0_ n1_ n2_; (try clear hb); (try clear hb2); (try clear hk); (try clear hi); (try clear ho0); obtain ⟨Ao54, co54, eo54⟩ := Kd.R_slice HO372.out; subst eo54) | ((with_reducible refine gate_callee (f := 19) rfl ?_); refine goesL_ (some 16) rfl rfl Try.func19 (by kernel_rfl) rfl #[.slice Ao54 t370.length co54, .string (⟨#[98]⟩ : ByteArray)] rfl (by (try simp only [List.map_toArray, List.map_cons, List.map_nil]); first | done | rfl | (simp only [List.length_drop, List.length_take]; rfl)) ?_; (with_reducible refine (attr_Get.calls k _ _ t370 (⟨#[98]⟩ : ByteArray) t374 t375 _ ?side1 ?side2 A2.out).mono ?_); (case side1 => repeat (first | exact (Kd.R_reads' HO372.out).2.2 | (with_reducible refine Kd.C_alloc ?_ _) | (with_reducible refine Kd.C_drewN ?_ _) | (with_reducible refine Kd.C_drew ?_))); (case side2 => exact (Kd.R_reads' HO372.out).2.1); rintro e w55 ⟨rfl, hb⟩; refine ⟨_, rfl, ?_⟩; have n0_ := Aside0.mk (Kd.R_below (by (with_reducible repeat (first | apply Kd.R_alloc | apply Kd.R_drewN | apply Kd.R_drew)); exact HO369.out) hb); have n1_ := Aside0.mk (Kd.R_below (by (with_reducible repeat (first | apply Kd.R_alloc | apply Kd.R_drewN | apply Kd.R_drew)); exact HO372.out) hb); have n2_ := Aside0.mk (below_step (by repeat (first | (with_reducible first | exact HB.out | apply below_alloc | apply pw_below_drewN | apply below_drew1) | exact HB.out)) hb); clear HO369; clear HO372; clear HB; have HO369 := n0_; have HO372 := n1_; have HB := n2_; clear n0_ n1_ n2_; (try clear hb); (try clear hb2); (try clear hk); (try clear hi)) | ((with_reducible refine gate_callee (f := 21) rfl ?_); refine goesL_ (some 21) rfl rfl Try.func21 (by kernel_rfl) rfl #[.slice Ao54 t370.length co54] rfl (by (try simp only [List.map_toArray, List.map_cons, List.map_nil]); first | done | rfl | (simp only [List.length_drop, List.length_take]; rfl)) ?_; (with_reducible refine (attr_Encode.calls k _ _ t370 t376 t377 _ ?side1 ?side2 A3.out).mono ?_); (case side1 => repeat (first | exact (Kd.R_reads' HO372.out).2.2 | (with_reducible refine Kd.C_alloc ?_ _) | (with_reducible refine Kd.C_drewN ?_ _) | (with_reducible refine Kd.C_drew ?_))); (case side2 => exact (Kd.R_reads' HO372.out).2.1); rintro e w56 ⟨v378, rfl, ho0, hb⟩; refine ⟨_, rfl, ?_⟩; have n0_ := Aside0.mk (Kd.R_below (by (with_reducible repeat (first | apply Kd.R_alloc | apply Kd.R_drewN | apply Kd.R_drew)); exact HO369.out) hb); have n1_ := Aside0.mk (Kd.R_below (by (with_reducible repeat (first | apply Kd.R_alloc | apply Kd.R_drewN | apply Kd.R_drew)); exact HO372.out) hb); have n2_ := Aside0.mk (Kd.R_lower ho0 (below_size (by repeat (first | (with_reducible first | exact HB.out | apply below_alloc | apply pw_below_drewN | apply below_drew1) | exact HB.out)))); have n3_ := Aside0.mk (below_step (by repeat (first | (with_reducible first | exact HB.out | apply below_alloc | apply pw_below_drewN | apply below_drew1) | exact HB.out)) hb); clear HO369; clear HO372; clear HB; have HO369 := n0_; have HO372 := n1_; have HO379 := n2_; have HB := n3_; clear n0_ n1_ n2_ n3_; (try clear hb); (try clear hb2); (try clear hk); (try clear hi); (try clear ho0); have p380 : 0 ≤ (0 : Int) := (by omega); have q380 : 0 < (t370.length : Int) := of_decide_eq_true (by first | (with_reducible assumption) | assumption); obtain ⟨ad380, e380, hx380_0, hx380_1⟩ := at_T26 (Kd.R_reads' HO372.out).2.2 0 p380 q380; cases e380; have qi380 : (0 < t370.length) = True := eq_true (by omega); (try rw [show ((0 : Int)).toNat = 0 from rfl] at hx380_0); (try rw [show 0 * 2 = 0 from rfl] at hx380_0); (try rw [Addr.add_zero'] at hx380_0); (try rw [show ((0 : Int)).toNat = 0 from rfl] at hx380_1); (try rw [show 0 * 2 = 0 from rfl] at hx380_1); (try rw [Addr.add_zero'] at hx380_1); replace p380 := eq_true p380; replace q380 := eq_true q380))
          go_ret
          exact ⟨by first | rfl | (simp [errW_none, errW_some] <;> rfl) | (simp [*, errW_none, errW_some] <;> rfl), by repeat (first | (with_reducible first | exact HB.out | apply below_alloc | apply pw_below_drewN | apply below_drew1) | exact HB.out)⟩
      · rw [if_neg c6] at H
        exact absurd H (by simp)
    · rw [if_neg c5] at H
      have c5b0 : ((t370.length : Int) == 2) = false := beq_eq_false_iff_ne.mpr c5
      have c5b1 : ((t370.length : Int) != 2) = true := bne_iff_ne.mpr c5
      obtain rfl := Option.some.inj H
      go_enter Try.func13, Try.ntmps13
      go_wp2_with (first | ((with_reducible refine gate_dst (N := 9) rfl ?_); (try (refine gate_guard (by rfl) ?_; dsimp only)); refine Kd.R_lit k26 _ 26 ?hg (N := 9) ?hd (xs := ([(⟨(⟨#[98]⟩ : ByteArray), (⟨#[49]⟩ : ByteArray)⟩ : S26)] : List (S26))) (inner := [.string (⟨#[98]⟩ : ByteArray), .string (⟨#[49]⟩ : ByteArray)]) (ok := fun _ => True) (okp := fun _ => True) ?hr ?hp (fun _ hk => hk) trivial (Below.refl _ _) (Nat.le_refl _) (by simp) ?_; (case hd => rfl); (case hg => rfl); (case hr => first | (go_simp; done) | (go_simp; rfl)); (case hp => exact (Reps.c2 (show Kd.M k26 _ _ _ (⟨(⟨#[98]⟩ : ByteArray), (⟨#[49]⟩ : ByteArray)⟩ : S26) [.string (⟨#[98]⟩ : ByteArray), .string (⟨#[49]⟩ : ByteArray)] from (k26_mkM _ _ _ (⟨(⟨#[98]⟩ : ByteArray), (⟨#[49]⟩ : ByteArray)⟩ : S26) )) (Reps.none _ _))); intro v368 w57 ho58 hb hg_ hnew_; clear hg_ hnew_; (first | rw [← Ny367.out] at ho58 | (simp only [Int.reduceToNat] at ho58; rw [← Ny367.out] at ho58)); have n0_ := Aside0.mk (Kd.R_lower ho58 (below_size (by repeat (first | (with_reducible first | exact HB.out | apply below_alloc | apply pw_below_drewN | apply below_drew1) | exact HB.out)))); have n1_ := Aside0.mk (below_step (by repeat (first | (with_reducible first | exact HB.out | apply below_alloc | apply pw_below_drewN | apply below_drew1) | exact HB.out)) hb); clear HB; have HO369 := n0_; have HB := n1_; clear n0_ n1_; clear hb ho58; obtain ⟨Ao59, co59, eo59⟩ := Kd.R_slice HO369.out; subst eo59) | ((with_reducible refine gate_callee (f := 14) rfl ?_); refine goesL_ (some 11) rfl rfl Try.func14 (by kernel_rfl) rfl #[.slice Ao59 y367.length co59, .agg #[.string (⟨#[97]⟩ : ByteArray), .string (⟨#[50]⟩ : ByteArray)]] rfl (by (try simp only [List.map_toArray, List.map_cons, List.map_nil]); first | done | rfl | (simp only [List.length_drop, List.length_take]; rfl)) ?_; (with_reducible refine (attr_Set.calls k _ _ y367 (⟨#[97]⟩ : ByteArray) (⟨#[50]⟩ : ByteArray) t370 t373 _ ?side1 ?side2 A1.out).mono ?_); (case side1 => repeat (first | exact (Kd.R_reads' HO369.out).2.2 | (with_reducible refine Kd.C_alloc ?_ _) | (with_reducible refine Kd.C_drewN ?_ _) | (with_reducible refine Kd.C_drew ?_))); (case side2 => exact (Kd.R_reads' HO369.out).2.1); rintro e w60 ⟨v371, rfl, ho0, hb⟩; refine ⟨_, rfl, ?_⟩; have n0_ := Aside0.mk (Kd.R_elder' (by (with_reducible repeat (first | apply Kd.R_alloc | apply Kd.R_drewN | apply Kd.R_drew)); exact HO369.out) (Kd.R_base ho0) hb); have n1_ := Aside0.mk (Kd.R_lower (Kd.R_new' ho0 (Kd.R_lt (by (with_reducible repeat (first | apply Kd.R_alloc | apply Kd.R_drewN | apply Kd.R_drew)); exact HO369.out))) (below_size (by repeat (first | (with_reducible first | exact HB.out | apply below_alloc | apply pw_below_drewN | apply below_drew1) | exact HB.out)))); have n2_ := Aside0.mk (below_step (by repeat (first | (with_reducible first | exact HB.out | apply below_alloc | apply pw_below_drewN | apply below_drew1) | exact HB.out)) hb); clear HO369; clear HB; have HO369 := n0_; have HO372 := n1_; have HB := n2_; clear n0_ n1_ n2_; (try clear hb); (try clear hb2); (try clear hk); (try clear hi); (try clear ho0); obtain ⟨Ao61, co61, eo61⟩ := Kd.R_slice HO372.out; subst eo61) | ((with_reducible refine gate_callee (f := 19) rfl ?_); refine goesL_ (some 16) rfl rfl Try.func19 (by kernel_rfl) rfl #[.slice Ao61 t370.length co61, .string (⟨#[98]⟩ : ByteArray)] rfl (by (try simp only [List.map_toArray, List.map_cons, List.map_nil]); first | done | rfl | (simp only [List.length_drop, List.length_take]; rfl)) ?_; (with_reducible refine (attr_Get.calls k _ _ t370 (⟨#[98]⟩ : ByteArray) t374 t375 _ ?side1 ?side2 A2.out).mono ?_); (case side1 => repeat (first | exact (Kd.R_reads' HO372.out).2.2 | (with_reducible refine Kd.C_alloc ?_ _) | (with_reducible refine Kd.C_drewN ?_ _) | (with_reducible refine Kd.C_drew ?_))); (case side2 => exact (Kd.R_reads' HO372.out).2.1); rintro e w62 ⟨rfl, hb⟩; refine ⟨_, rfl, ?_⟩; have n0_ := Aside0.mk (Kd.R_below (by (with_reducible repeat (first | apply Kd.R_alloc | apply Kd.R_drewN | apply Kd.R_drew)); exact HO369.out) hb); have n1_ := Aside0.mk (Kd.R_below (by (with_reducible repeat (first | apply Kd.R_alloc | apply Kd.R_drewN | apply Kd.R_drew)); exact HO372.out) hb); have n2_ := Aside0.mk (below_step (by repeat (first | (with_reducible first | exact HB.out | apply below_alloc | apply pw_below_drewN | apply below_drew1) | exact HB.out)) hb); clear HO369; clear HO372; clear HB; have HO369 := n0_; have HO372 := n1_; have HB := n2_; clear n0_ n1_ n2_; (try clear hb); (try clear hb2); (try clear hk); (try clear hi)) | ((with_reducible refine gate_callee (f := 21) rfl ?_); refine goesL_ (some 21) rfl rfl Try.func21 (by kernel_rfl) rfl #[.slice Ao61 t370.length co61] rfl (by (try simp only [List.map_toArray, List.map_cons, List.map_nil]); first | done | rfl | (simp only [List.length_drop, List.length_take]; rfl)) ?_; (with_reducible refine (attr_Encode.calls k _ _ t370 t376 t377 _ ?side1 ?side2 A3.out).mono ?_); (case side1 => repeat (first | exact (Kd.R_reads' HO372.out).2.2 | (with_reducible refine Kd.C_alloc ?_ _) | (with_reducible refine Kd.C_drewN ?_ _) | (with_reducible refine Kd.C_drew ?_))); (case side2 => exact (Kd.R_reads' HO372.out).2.1); rintro e w63 ⟨v378, rfl, ho0, hb⟩; refine ⟨_, rfl, ?_⟩; have n0_ := Aside0.mk (Kd.R_below (by (with_reducible repeat (first | apply Kd.R_alloc | apply Kd.R_drewN | apply Kd.R_drew)); exact HO369.out) hb); have n1_ := Aside0.mk (Kd.R_below (by (with_reducible repeat (first | apply Kd.R_alloc | apply Kd.R_drewN | apply Kd.R_drew)); exact HO372.out) hb); have n2_ := Aside0.mk (Kd.R_lower ho0 (below_size (by repeat (first | (with_reducible first | exact HB.out | apply below_alloc | apply pw_below_drewN | apply below_drew1) | exact HB.out)))); have n3_ := Aside0.mk (below_step (by repeat (first | (with_reducible first | exact HB.out | apply below_alloc | apply pw_below_drewN | apply below_drew1) | exact HB.out)) hb); clear HO369; clear HO372; clear HB; have HO369 := n0_; have HO372 := n1_; have HO379 := n2_; have HB := n3_; clear n0_ n1_ n2_ n3_; (try clear hb); (try clear hb2); (try clear hk); (try clear hi); (try clear ho0)))
      go_ret
      exact ⟨by first | rfl | (simp [errW_none, errW_some] <;> rfl) | (simp [*, errW_none, errW_some] <;> rfl), by repeat (first | (with_reducible first | exact HB.out | apply below_alloc | apply pw_below_drewN | apply below_drew1) | exact HB.out)⟩
  · rw [if_neg c4] at H
    have c4b0 : (t373 == 0) = false := beq_eq_false_iff_ne.mpr c4
    have c4b1 : (t373 != 0) = true := bne_iff_ne.mpr c4
    obtain rfl := Option.some.inj H
    go_enter Try.func13, Try.ntmps13
    go_wp2_with (first | ((with_reducible refine gate_dst (N := 9) rfl ?_); (try (refine gate_guard (by rfl) ?_; dsimp only)); refine Kd.R_lit k26 _ 26 ?hg (N := 9) ?hd (xs := ([(⟨(⟨#[98]⟩ : ByteArray), (⟨#[49]⟩ : ByteArray)⟩ : S26)] : List (S26))) (inner := [.string (⟨#[98]⟩ : ByteArray), .string (⟨#[49]⟩ : ByteArray)]) (ok := fun _ => True) (okp := fun _ => True) ?hr ?hp (fun _ hk => hk) trivial (Below.refl _ _) (Nat.le_refl _) (by simp) ?_; (case hd => rfl); (case hg => rfl); (case hr => first | (go_simp; done) | (go_simp; rfl)); (case hp => exact (Reps.c2 (show Kd.M k26 _ _ _ (⟨(⟨#[98]⟩ : ByteArray), (⟨#[49]⟩ : ByteArray)⟩ : S26) [.string (⟨#[98]⟩ : ByteArray), .string (⟨#[49]⟩ : ByteArray)] from (k26_mkM _ _ _ (⟨(⟨#[98]⟩ : ByteArray), (⟨#[49]⟩ : ByteArray)⟩ : S26) )) (Reps.none _ _))); intro v368 w64 ho65 hb hg_ hnew_; clear hg_ hnew_; (first | rw [← Ny367.out] at ho65 | (simp only [Int.reduceToNat] at ho65; rw [← Ny367.out] at ho65)); have n0_ := Aside0.mk (Kd.R_lower ho65 (below_size (by repeat (first | (with_reducible first | exact HB.out | apply below_alloc | apply pw_below_drewN | apply below_drew1) | exact HB.out)))); have n1_ := Aside0.mk (below_step (by repeat (first | (with_reducible first | exact HB.out | apply below_alloc | apply pw_below_drewN | apply below_drew1) | exact HB.out)) hb); clear HB; have HO369 := n0_; have HB := n1_; clear n0_ n1_; clear hb ho65; obtain ⟨Ao66, co66, eo66⟩ := Kd.R_slice HO369.out; subst eo66) | ((with_reducible refine gate_callee (f := 14) rfl ?_); refine goesL_ (some 11) rfl rfl Try.func14 (by kernel_rfl) rfl #[.slice Ao66 y367.length co66, .agg #[.string (⟨#[97]⟩ : ByteArray), .string (⟨#[50]⟩ : ByteArray)]] rfl (by (try simp only [List.map_toArray, List.map_cons, List.map_nil]); first | done | rfl | (simp only [List.length_drop, List.length_take]; rfl)) ?_; (with_reducible refine (attr_Set.calls k _ _ y367 (⟨#[97]⟩ : ByteArray) (⟨#[50]⟩ : ByteArray) t370 t373 _ ?side1 ?side2 A1.out).mono ?_); (case side1 => repeat (first | exact (Kd.R_reads' HO369.out).2.2 | (with_reducible refine Kd.C_alloc ?_ _) | (with_reducible refine Kd.C_drewN ?_ _) | (with_reducible refine Kd.C_drew ?_))); (case side2 => exact (Kd.R_reads' HO369.out).2.1); rintro e w67 ⟨v371, rfl, ho0, hb⟩; refine ⟨_, rfl, ?_⟩; have n0_ := Aside0.mk (Kd.R_elder' (by (with_reducible repeat (first | apply Kd.R_alloc | apply Kd.R_drewN | apply Kd.R_drew)); exact HO369.out) (Kd.R_base ho0) hb); have n1_ := Aside0.mk (Kd.R_lower (Kd.R_new' ho0 (Kd.R_lt (by (with_reducible repeat (first | apply Kd.R_alloc | apply Kd.R_drewN | apply Kd.R_drew)); exact HO369.out))) (below_size (by repeat (first | (with_reducible first | exact HB.out | apply below_alloc | apply pw_below_drewN | apply below_drew1) | exact HB.out)))); have n2_ := Aside0.mk (below_step (by repeat (first | (with_reducible first | exact HB.out | apply below_alloc | apply pw_below_drewN | apply below_drew1) | exact HB.out)) hb); clear HO369; clear HB; have HO369 := n0_; have HO372 := n1_; have HB := n2_; clear n0_ n1_ n2_; (try clear hb); (try clear hb2); (try clear hk); (try clear hi); (try clear ho0); obtain ⟨Ao68, co68, eo68⟩ := Kd.R_slice HO372.out; subst eo68) | ((with_reducible refine gate_callee (f := 19) rfl ?_); refine goesL_ (some 16) rfl rfl Try.func19 (by kernel_rfl) rfl #[.slice Ao68 t370.length co68, .string (⟨#[98]⟩ : ByteArray)] rfl (by (try simp only [List.map_toArray, List.map_cons, List.map_nil]); first | done | rfl | (simp only [List.length_drop, List.length_take]; rfl)) ?_; (with_reducible refine (attr_Get.calls k _ _ t370 (⟨#[98]⟩ : ByteArray) t374 t375 _ ?side1 ?side2 A2.out).mono ?_); (case side1 => repeat (first | exact (Kd.R_reads' HO372.out).2.2 | (with_reducible refine Kd.C_alloc ?_ _) | (with_reducible refine Kd.C_drewN ?_ _) | (with_reducible refine Kd.C_drew ?_))); (case side2 => exact (Kd.R_reads' HO372.out).2.1); rintro e w69 ⟨rfl, hb⟩; refine ⟨_, rfl, ?_⟩; have n0_ := Aside0.mk (Kd.R_below (by (with_reducible repeat (first | apply Kd.R_alloc | apply Kd.R_drewN | apply Kd.R_drew)); exact HO369.out) hb); have n1_ := Aside0.mk (Kd.R_below (by (with_reducible repeat (first | apply Kd.R_alloc | apply Kd.R_drewN | apply Kd.R_drew)); exact HO372.out) hb); have n2_ := Aside0.mk (below_step (by repeat (first | (with_reducible first | exact HB.out | apply below_alloc | apply pw_below_drewN | apply below_drew1) | exact HB.out)) hb); clear HO369; clear HO372; clear HB; have HO369 := n0_; have HO372 := n1_; have HB := n2_; clear n0_ n1_ n2_; (try clear hb); (try clear hb2); (try clear hk); (try clear hi)) | ((with_reducible refine gate_callee (f := 21) rfl ?_); refine goesL_ (some 21) rfl rfl Try.func21 (by kernel_rfl) rfl #[.slice Ao68 t370.length co68] rfl (by (try simp only [List.map_toArray, List.map_cons, List.map_nil]); first | done | rfl | (simp only [List.length_drop, List.length_take]; rfl)) ?_; (with_reducible refine (attr_Encode.calls k _ _ t370 t376 t377 _ ?side1 ?side2 A3.out).mono ?_); (case side1 => repeat (first | exact (Kd.R_reads' HO372.out).2.2 | (with_reducible refine Kd.C_alloc ?_ _) | (with_reducible refine Kd.C_drewN ?_ _) | (with_reducible refine Kd.C_drew ?_))); (case side2 => exact (Kd.R_reads' HO372.out).2.1); rintro e w70 ⟨v378, rfl, ho0, hb⟩; refine ⟨_, rfl, ?_⟩; have n0_ := Aside0.mk (Kd.R_below (by (with_reducible repeat (first | apply Kd.R_alloc | apply Kd.R_drewN | apply Kd.R_drew)); exact HO369.out) hb); have n1_ := Aside0.mk (Kd.R_below (by (with_reducible repeat (first | apply Kd.R_alloc | apply Kd.R_drewN | apply Kd.R_drew)); exact HO372.out) hb); have n2_ := Aside0.mk (Kd.R_lower ho0 (below_size (by repeat (first | (with_reducible first | exact HB.out | apply below_alloc | apply pw_below_drewN | apply below_drew1) | exact HB.out)))); have n3_ := Aside0.mk (below_step (by repeat (first | (with_reducible first | exact HB.out | apply below_alloc | apply pw_below_drewN | apply below_drew1) | exact HB.out)) hb); clear HO369; clear HO372; clear HB; have HO369 := n0_; have HO372 := n1_; have HO379 := n2_; have HB := n3_; clear n0_ n1_ n2_ n3_; (try clear hb); (try clear hb2); (try clear hk); (try clear hi); (try clear ho0)))
    go_ret
    exact ⟨by first | rfl | (simp [errW_none, errW_some] <;> rfl) | (simp [*, errW_none, errW_some] <;> rfl), by repeat (first | (with_reducible first | exact HB.out | apply below_alloc | apply pw_below_drewN | apply below_drew1) | exact HB.out)⟩
end Go.Proofs.Ytffaggckhneakaa.Pr
end
section
namespace Go.Proofs.Ytffaggckhneakaa.At
open Go.RowKit Go.Proofs.YtffaggckhneakaaW.PrintWords Go.Proofs.YtffaggckhneakaaW.PrintMore Go.Proofs.Ytffaggckhneakaa.Pr Go.Proofs.Ytffaggckhneakaa.Od Go.Proofs.Ytffaggckhneakaa.Cr
set_option linter.unusedVariables false
set_option linter.unusedSimpArgs false
def Fits (l : List E) : Prop := l.length ≤ 4398046510976
theorem o26 : Op.Opens Try.prog 22 (Kd.slice 26 k26) Fits :=
  Op.opens_imp (Op.opens_slice Try.underlying22 (by kernel_rfl) (B := 32) (by kernel_rfl)
    (Op.opens_iso (T := fun _ : E => True) (fun x => ⟨x.1, x.2⟩) (fun _ => rfl) (fun _ _ => trivial)
      (Op.opens_struct Try.underlying26 (by kernel_rfl) (Op.opensAt_cons rfl (by kernel_rfl) (Op.opens_string Try.underlying9) (Op.opensAt_last rfl (by kernel_rfl) (Op.opens_string Try.underlying9))))))
    (fun l h => by unfold Fits; omega)
def xb : E := ⟨⟨#[98]⟩, ⟨#[49]⟩⟩
def xa : E := ⟨⟨#[97]⟩, ⟨#[50]⟩⟩
theorem alive_set : setR [xb] xa = ([xa, xb], 0) := by
  unfold setR
  rw [if_pos ⟨by decide, by decide⟩, if_pos (by decide)]; rfl
theorem alive_get : getR [xa, xb] xb.f0.data.toList = (⟨#[49]⟩, 0) := by
  unfold getR
  rw [if_pos (by decide)]; rfl
theorem alive_enc : (encR [xa, xb]).2 = 0 := encR_iff.2 ⟨by decide, by decide⟩
theorem alive_bytes : (encR [xa, xb]).1 = encP [xa, xb] ++ bytesN 4 (sumB (encP [xa, xb])).toNat := by
  have hi := encR_iff.1 alive_enc
  unfold encR; rw [if_pos hi.1, if_neg (by omega)]
theorem alive_first : rd (encR [xa, xb]).1 0 = 2 := by
  rw [alive_bytes]; rfl
theorem alive_ev : Ev (fun k => undercroftlaw13_alive.f k) true := by
  unfold undercroftlaw13_alive.f
  refine Ev.bind (set_ev [xb] xa (by decide)) ?_
  rw [alive_set]
  refine Ev.bind (get_ev [xa, xb] xb.f0 (by decide)) ?_
  rw [alive_get]
  refine Ev.bind (enc_ev [xa, xb] (by decide)) ?_
  have e2 : (encR [xa, xb]).1.length = 256 := encR_len alive_enc
  have e3 : rd_T26 [xa, xb] 0 = xa := rfl
  have e4 : xa.f0.toList = ([97] : List UInt8) := by rw [Lib.toList_data]; rfl
  have e5 : (⟨#[49]⟩ : ByteArray).toList = ([49] : List UInt8) := by rw [Lib.toList_data]
  simp only [alive_enc, e2, e3, e4, e5, alive_first, if_true, List.length_cons, List.length_nil, show ((256 : Nat) : Int) = 256 from rfl, if_pos (show (0 : Int) < 256 by decide), show ((0 + 1 + 1 : Nat) : Int) = 2 from rfl, if_pos (show (0 : Int) < 2 by decide), beq_self_eq_true]
  exact Ev.now _
end Go.Proofs.Ytffaggckhneakaa.At
end
section
namespace Go.Proofs.Ytffaggckhneakaa.Cr
open Go.RowKit Go.Proofs.YtffaggckhneakaaW.PrintWords Go.Proofs.YtffaggckhneakaaW.PrintMore Go.Proofs.Ytffaggckhneakaa.Pr Go.Proofs.Ytffaggckhneakaa.Od
set_option linter.unusedVariables false
set_option linter.unusedSimpArgs false
def turnB (b : List Int) (j : Nat) : List Int := b.set (j / 8) (Go.bits .xor .u8 (rd b ((j / 8 : Nat) : Int)) (shl .u8 1 ((j % 8 : Nat) : Int)))
theorem xor8 (n m : Nat) (hn : n < 256) (hm : m < 8) : Go.bits .xor .u8 (n : Int) (shl .u8 1 (m : Int)) = ((n ^^^ 2 ^ m : Nat) : Int) ∧ n ^^^ 2 ^ m < 256 := by
  have h2 : 2 ^ m < 2 ^ 8 := Nat.pow_lt_pow_right (by decide) hm
  have hx : n ^^^ 2 ^ m < 2 ^ 8 := Nat.xor_lt_two_pow hn h2
  have es : shl .u8 1 (m : Int) = ((2 ^ m : Nat) : Int) := by
    unfold shl
    rw [u8w, show min (m : Int).toNat IntKind.u8.bits = m by (show min _ 8 = _); omega, Int.one_mul, show ((2 : Int) ^ m) = ((2 ^ m : Nat) : Int) by push_cast; rfl]
    exact Int.emod_eq_of_lt (Int.natCast_nonneg _) (Int.ofNat_lt.2 h2)
  refine ⟨?_, hx⟩
  rw [es]
  unfold Go.bits
  rw [u8w]
  show (((BitVec.ofInt 8 (n : Int) ^^^ BitVec.ofInt 8 ((2 ^ m : Nat) : Int)).toNat : Nat) : Int) % 256 = _
  rw [BitVec.toNat_xor, BitVec.toNat_ofInt, BitVec.toNat_ofInt]
  rw [show (((n : Nat) : Int) % ((2 ^ 8 : Nat) : Int)).toNat = n by omega, show ((((2 ^ m : Nat) : Nat) : Int) % ((2 ^ 8 : Nat) : Int)).toNat = 2 ^ m by rw [Int.emod_eq_of_lt (Int.natCast_nonneg _) (Int.ofNat_lt.2 h2), Int.toNat_natCast]]
  omega
theorem of_xor (n m : Nat) (hm : m < 8) : BitVec.ofInt 32 ((n ^^^ 2 ^ m : Nat) : Int) = BitVec.ofInt 32 (n : Int) ^^^ (1#32 <<< m) := by
  have e : BitVec.ofNat 32 (2 ^ m) = 1#32 <<< m := by
    apply BitVec.eq_of_toNat_eq
    rw [BitVec.toNat_shiftLeft, BitVec.toNat_ofNat, BitVec.toNat_ofNat, Nat.shiftLeft_eq]
    simp
  rw [ofInt_nat, ofInt_nat, ← e]
  apply BitVec.eq_of_getLsbD_eq
  intro i hi
  simp only [BitVec.getLsbD_ofNat, BitVec.getLsbD_xor, Nat.testBit_xor, hi, decide_true, Bool.true_and]
theorem turn_len (b : List Int) (j : Nat) : (turnB b j).length = b.length := by rw [turnB, List.length_set]
theorem turn_byte {b : List Int} (hb : ∀ x ∈ b, isByte x) {j : Nat} (hj : j / 8 < b.length) : ∀ x ∈ turnB b j, isByte x := by
  intro x hx
  rcases List.mem_or_eq_of_mem_set hx with h | rfl
  · exact hb x h
  · have h1 := hb _ (List.getElem_mem hj)
    unfold isByte at h1 ⊢
    rw [rd_get hj, show b[j / 8] = ((b[j / 8].toNat : Nat) : Int) by omega]
    obtain ⟨e, h2⟩ := xor8 b[j / 8].toNat (j % 8) (by omega) (Nat.mod_lt _ (by decide))
    rw [e]; omega
theorem turn_reg {b : List Int} (hb : ∀ x ∈ b, isByte x) (w : B32) {j : Nat} (hj : j / 8 < b.length) : regB w (turnB b j) = regB w b ^^^ Tn (8 * b.length - j) 1#32 := by
  have h1 := hb _ (List.getElem_mem hj)
  unfold isByte at h1
  have hm : j % 8 < 8 := Nat.mod_lt _ (by decide)
  have := regB_turn w b (j / 8) (j % 8) hj hm (Go.bits .xor .u8 (rd b ((j / 8 : Nat) : Int)) (shl .u8 1 ((j % 8 : Nat) : Int))) (by
    rw [rd_get hj]
    have e0 : b[j / 8] = ((b[j / 8].toNat : Nat) : Int) := by omega
    rw [e0, (xor8 b[j / 8].toNat (j % 8) (by omega) hm).1, of_xor _ _ hm, ← e0])
  rw [turnB, this, show 8 * (j / 8) + j % 8 = j by omega]
def Inv (b : List Int) (first i : Nat) (b' : List Int) (t : Bool) : Prop :=
  b'.length = 256 ∧ (∀ x ∈ b', isByte x) ∧ ∃ wd : B32, (∀ q, i ≤ q → wd.getLsbD q = false) ∧ regB (BitVec.allOnes 32) b' = regB (BitVec.allOnes 32) b ^^^ Tn (2048 - first) wd ∧ (t = true → wd ≠ 0#32) ∧ (t = false → b' = b)
theorem inv_start {b : List Int} (hl : b.length = 256) (hb : ∀ x ∈ b, isByte x) (first : Nat) : Inv b first 0 b false :=
  ⟨hl, hb, 0#32, fun _ _ => by simp, by rw [Tn_zero, BitVec.xor_zero], (fun h => by cases h), fun _ => rfl⟩
theorem inv_skip {b b' : List Int} {first i : Nat} {t : Bool} (h : Inv b first i b' t) : Inv b first (i + 1) b' t := by
  obtain ⟨h1, h2, wd, h3, h4⟩ := h
  exact ⟨h1, h2, wd, fun q hq => h3 q (by omega), h4⟩
theorem inv_turn {b b' : List Int} {first i : Nat} {t : Bool} (h : Inv b first i b' t) (hi : i < 32) (hf : first + i < 2048) : Inv b first (i + 1) (turnB b' (first + i)) true := by
  obtain ⟨h1, h2, wd, h3, h4, h5, h6⟩ := h
  have hj : (first + i) / 8 < b'.length := by omega
  refine ⟨by rw [turn_len, h1], turn_byte h2 hj, wd ^^^ (1#32 <<< i), fun q hq => ?_, ?_, fun _ he => ?_, (fun h => by cases h)⟩
  · rw [BitVec.getLsbD_xor, h3 q (by omega), BitVec.getLsbD_shiftLeft]
    have : ¬ (q - i = 0) := by omega
    simp [this]
  · rw [turn_reg h2 _ hj, h4, h1, Tn_xor, Tn_bit hi (by omega), BitVec.xor_assoc, show 8 * 256 - (first + i) = 2048 - first - i by omega]
  · have := congrArg (·.getLsbD i) he
    simp only [BitVec.getLsbD_xor, h3 i (Nat.le_refl _), BitVec.getLsbD_shiftLeft, BitVec.getLsbD_zero] at this
    simp [hi] at this
theorem inv_end {b b' : List Int} {first i : Nat} {t : Bool} (h : Inv b first i b' t) : (t = true → regB (BitVec.allOnes 32) b' ≠ regB (BitVec.allOnes 32) b) ∧ (t = false → b' = b) := by
  obtain ⟨h1, h2, wd, h3, h4, h5, h6⟩ := h
  refine ⟨fun ht he => h5 ht ?_, h6⟩
  rw [h4] at he
  have e : Tn (2048 - first) wd = 0#32 := by
    have := congrArg (regB (BitVec.allOnes 32) b ^^^ ·) he
    simp only [← BitVec.xor_assoc, BitVec.xor_self, BitVec.zero_xor] at this
    exact this
  exact Tn_eq_zero _ e
theorem place {first i : Nat} (hf : first < 2048) (hi : i < 32) : wrap64 ((first : Int) + (i : Int)) = ((first + i : Nat) : Int) ∧ wrap64 (Int.tdiv ((first + i : Nat) : Int) 8) = (((first + i) / 8 : Nat) : Int) ∧ Int.tmod ((first + i : Nat) : Int) 8 = (((first + i) % 8 : Nat) : Int) := by
  have h1 : Int.tdiv ((first + i : Nat) : Int) 8 = (((first + i) / 8 : Nat) : Int) := by
    rw [Int.tdiv_eq_ediv_of_nonneg (by omega)]; omega
  refine ⟨by rw [w64 (by omega) (by omega)]; omega, by rw [h1, w64 (by omega) (by omega)], ?_⟩
  rw [Int.tmod_eq_emod_of_nonneg (by omega)]; omega
end Go.Proofs.Ytffaggckhneakaa.Cr
end
section
namespace Go.Proofs.Ytffaggckhneakaa.Pr
open Go.RowKit Go.Proofs.YtffaggckhneakaaW.PrintWords Go.Proofs.YtffaggckhneakaaW.PrintLast Go.Proofs.YtffaggckhneakaaW.PrintMore
attribute [local go_sem] max2_int min2_int max_two min_two max_three min_three max_four min_four
attribute [local go_sem] Go.Proofs.Ytffaggckhneakaa.Hl.str_geq Go.Proofs.Ytffaggckhneakaa.Hl.str_gtr Go.Proofs.Ytffaggckhneakaa.Hl.str_leq
set_option linter.unusedVariables false
set_option linter.unusedSimpArgs false
theorem eqA26 (d : Nat) (w : World) (x0 y0 : ByteArray) (x1 y1 : ByteArray) :
    (Op.equalIn (d + 2) 26 (.agg #[.string x0, .string x1]) (.agg #[.string y0, .string y1])).run Try.prog w = .ok (x0.toList == y0.toList && (x1.toList == y1.toList)) w := by
  refine eqA_of Try.underlying26 (by kernel_rfl) ?_
  refine eqf_cons (by rfl) (by go_simp; rfl) (by go_simp; rfl) (by go_simp) ?_
  exact eqf_last (by rfl) (by go_simp; rfl) (by go_simp; rfl) (by go_simp)
end Go.Proofs.Ytffaggckhneakaa.Pr
end
section
namespace Go.Proofs.Ytffaggckhneakaa.Pr
open Go.RowKit Go.Proofs.YtffaggckhneakaaW.PrintWords Go.Proofs.YtffaggckhneakaaW.PrintLast Go.Proofs.YtffaggckhneakaaW.PrintMore
attribute [local go_sem] max2_int min2_int max_two min_two max_three min_three max_four min_four
attribute [local go_sem] Go.Proofs.Ytffaggckhneakaa.Hl.str_geq Go.Proofs.Ytffaggckhneakaa.Hl.str_gtr Go.Proofs.Ytffaggckhneakaa.Hl.str_leq
set_option linter.unusedVariables false
set_option linter.unusedSimpArgs false
attribute [local go_sem high] eqA26
def undercroftref13_Same.l0 : Nat → List (S26) → List (S26) → Int → Option (Bool)
  | 0, _, _, _ => none
  | k + 1, x0, x1, x5 => if x5 < (x0.length : Int) then (if 0 ≤ x5 then (if x5 < (x1.length : Int) then (if (!((((rd_T26 x0 x5).f0).toList) == (((rd_T26 x1 x5).f0).toList)) || (!((((rd_T26 x0 x5).f1).toList) == (((rd_T26 x1 x5).f1).toList)))) = true then (some false) else (undercroftref13_Same.l0 k x0 x1 (wrap64 (x5 + 1)))) else (none)) else (none)) else (some true)
def undercroftref13_Same.f (k : Nat) (l0 : List (S26)) (l1 : List (S26)) : Option (Bool) := if (l0.length : Int) = (l1.length : Int) then (undercroftref13_Same.l0 k l0 l1 0) else (some false)
set_option maxHeartbeats 8000000 in
set_option maxRecDepth 100000 in
theorem undercroftref13_Same.calls (k : Nat) (A0 : Option Addr) (c0 : Nat) (l0 : List (S26)) (A1 : Option Addr) (c1 : Nat) (l1 : List (S26)) (r : Bool) (w : World) (hr0 : Kd.C k26 w A0 l0.length l0) (hc0 : l0.length ≤ c0) (hr1 : Kd.C k26 w A1 l1.length l1) (hc1 : l1.length ≤ c1) (h : undercroftref13_Same.f k l0 l1 = some r) :
    Calls Try.prog 15 #[.slice A0 l0.length c0, .slice A1 l1.length c1] w fun e w' => e = .returned (.bool r) ∧ Drawn0 w w' := by
  have hu26 := Try.underlying26
  have HR0 := Aside0.mk hr0
  have HC0 := Aside0.mk hc0
  clear hr0 hc0
  have HR1 := Aside0.mk hr1
  have HC1 := Aside0.mk hc1
  clear hr1 hc1
  have H : (if (l0.length : Int) = (l1.length : Int) then (undercroftref13_Same.l0 k l0 l1 0) else (some false)) = some r := h
  clear h
  by_cases c3 : (l0.length : Int) = (l1.length : Int)
  · rw [if_pos c3] at H
    have c3b0 : ((l0.length : Int) == (l1.length : Int)) = true := beq_iff_eq.mpr c3
    have c3b1 : ((l0.length : Int) != (l1.length : Int)) = false := bne_eq_false_iff_eq.mpr c3
    have c3b2 : (l0.length == l1.length) = true := by first | simpa using c3 | (simp at c3 ⊢; omega)
    clear c3
    have H' := Aside0.mk H
    clear H
    go_enter Try.func15, Try.ntmps15
    go_wp2
    repeat (go_quiet (fail); try go_wp2)
    go_loopg [5] k (fun kq v5 w' => ∃ (x5_1 : Int), v5 = .int .i64 x5_1 ∧ Aside0 (undercroftref13_Same.l0 kq l0 l1 x5_1 = some r) ∧ Aside0 (kq ≤ k) ∧ Drawn0 w w')
    case atStart => exact ⟨(0), (by first | rfl | (simp; done) | (simp [*]; done)), H', ⟨Nat.le_refl _⟩, by repeat (first | exact Drawn0.refl _ | apply Drawn0.step)⟩
    case round =>
      clear H'
      try clear c1
      try clear p2
      try clear c3
      try clear c3b0
      try clear c3b1
      try clear c3b2
      obtain ⟨x5_1, rfl, HA, HK1, ⟨m1, rfl⟩⟩ := hrel
      cases gk with
      | zero => exact absurd HA.out (by intro h_; cases h_)
      | succ k1 =>
        have H := HA.out
        clear HA
        simp only [undercroftref13_Same.l0] at H
        by_cases c4 : x5_1 < (l0.length : Int)
        · rw [if_pos c4] at H
          have c4b0 : decide (x5_1 < (l0.length : Int)) = true := decide_eq_true c4
          clear c4
          by_cases c5 : 0 ≤ x5_1
          · rw [if_pos c5] at H
            have c5b0 : decide (0 ≤ x5_1) = true := decide_eq_true c5
            clear c5
            by_cases c6 : x5_1 < (l1.length : Int)
            · rw [if_pos c6] at H
              have c6b0 : decide (x5_1 < (l1.length : Int)) = true := decide_eq_true c6
              clear c6
              by_cases c7 : (!((((rd_T26 l0 x5_1).f0).toList) == (((rd_T26 l1 x5_1).f0).toList)) || (!((((rd_T26 l0 x5_1).f1).toList) == (((rd_T26 l1 x5_1).f1).toList)))) = true
              · rw [if_pos c7] at H
                have c7b0 : (!((((rd_T26 l0 x5_1).f0).toList) == (((rd_T26 l1 x5_1).f0).toList)) || (!((((rd_T26 l0 x5_1).f1).toList) == (((rd_T26 l1 x5_1).f1).toList)))) = true := c7
                clear c7
                obtain rfl := Option.some.inj H
                have p382 : 0 ≤ (x5_1 : Int) := of_decide_eq_true (by first | (with_reducible assumption) | assumption)
                have q382 : x5_1 < (l0.length : Int) := of_decide_eq_true (by first | (with_reducible assumption) | assumption)
                obtain ⟨ad382, e382, hx382_0, hx382_1⟩ := at_T26 HR0.out x5_1 p382 q382
                cases e382
                replace p382 := eq_true p382
                replace q382 := eq_true q382
                have p383 : 0 ≤ (x5_1 : Int) := of_decide_eq_true (by first | (with_reducible assumption) | assumption)
                have q383 : x5_1 < (l1.length : Int) := of_decide_eq_true (by first | (with_reducible assumption) | assumption)
                obtain ⟨ad383, e383, hx383_0, hx383_1⟩ := at_T26 HR1.out x5_1 p383 q383
                cases e383
                replace p383 := eq_true p383
                replace q383 := eq_true q383
                go_wp2
                repeat (go_quiet (fail); try go_wp2)
                go_ret
                exact ⟨by first | rfl | (simp; done) | (simp [*]; done), by repeat (first | exact Drawn0.refl _ | apply Drawn0.step)⟩
              · rw [if_neg c7] at H
                have c7b0 : (!((((rd_T26 l0 x5_1).f0).toList) == (((rd_T26 l1 x5_1).f0).toList)) || (!((((rd_T26 l0 x5_1).f1).toList) == (((rd_T26 l1 x5_1).f1).toList)))) = false := by simpa using c7
                clear c7
                have H' := Aside0.mk H
                clear H
                have p382 : 0 ≤ (x5_1 : Int) := of_decide_eq_true (by first | (with_reducible assumption) | assumption)
                have q382 : x5_1 < (l0.length : Int) := of_decide_eq_true (by first | (with_reducible assumption) | assumption)
                obtain ⟨ad382, e382, hx382_0, hx382_1⟩ := at_T26 HR0.out x5_1 p382 q382
                cases e382
                replace p382 := eq_true p382
                replace q382 := eq_true q382
                have p383 : 0 ≤ (x5_1 : Int) := of_decide_eq_true (by first | (with_reducible assumption) | assumption)
                have q383 : x5_1 < (l1.length : Int) := of_decide_eq_true (by first | (with_reducible assumption) | assumption)
                obtain ⟨ad383, e383, hx383_0, hx383_1⟩ := at_T26 HR1.out x5_1 p383 q383
                cases e383
                replace p383 := eq_true p383
                replace q383 := eq_true q383
                go_wp2
                repeat (go_quiet (fail); try go_wp2)
                go_roundg k1
                case measure => have := HK1.out; omega
                case rel => exact ⟨(wrap64 (x5_1 + 1)), (by first | rfl | (simp; done) | (simp [*]; done)), H', ⟨by have := HK1.out; omega⟩, by repeat (first | exact Drawn0.refl _ | apply Drawn0.step)⟩
            · rw [if_neg c6] at H
              exact absurd H (by simp)
          · rw [if_neg c5] at H
            exact absurd H (by simp)
        · rw [if_neg c4] at H
          have c4b0 : decide (x5_1 < (l0.length : Int)) = false := decide_eq_false c4
          clear c4
          obtain rfl := Option.some.inj H
          go_wp2
          repeat (go_quiet (fail); try go_wp2)
          go_ret
          exact ⟨by first | rfl | (simp; done) | (simp [*]; done), by repeat (first | exact Drawn0.refl _ | apply Drawn0.step)⟩
  · rw [if_neg c3] at H
    have c3b0 : ((l0.length : Int) == (l1.length : Int)) = false := beq_eq_false_iff_ne.mpr c3
    have c3b1 : ((l0.length : Int) != (l1.length : Int)) = true := bne_iff_ne.mpr c3
    have c3b2 : (l0.length == l1.length) = false := by first | simpa using c3 | (simp at c3 ⊢; omega)
    obtain rfl := Option.some.inj H
    go_enter Try.func15, Try.ntmps15
    go_wp2
    repeat (go_quiet (fail); try go_wp2)
    go_ret
    exact ⟨by first | rfl | (simp; done) | (simp [*]; done), by repeat (first | exact Drawn0.refl _ | apply Drawn0.step)⟩
end Go.Proofs.Ytffaggckhneakaa.Pr
end
section
namespace Go.Proofs.Ytffaggckhneakaa.At
open Go.RowKit Go.Proofs.YtffaggckhneakaaW.PrintWords Go.Proofs.YtffaggckhneakaaW.PrintMore Go.Proofs.Ytffaggckhneakaa.Pr Go.Proofs.Ytffaggckhneakaa.Od Go.Proofs.Ytffaggckhneakaa.Cr
set_option linter.unusedVariables false
set_option linter.unusedSimpArgs false
theorem same_ev (l : List E) (hl : l.length < 4398046511104) : Ev (fun k => undercroftref13_Same.f k l l) true := by
  unfold undercroftref13_Same.f
  simp only [if_true]
  have key : ∀ (n i : Nat), i + n = l.length → Ev (fun k => undercroftref13_Same.l0 k l l (i : Int)) true := by
    intro n
    induction n with
    | zero =>
      intro i hi
      refine Ev.succ ?_
      simp only [undercroftref13_Same.l0, if_neg (show ¬((i : Int) < (l.length : Int)) by omega)]
      exact Ev.now _
    | succ n ih =>
      intro i hi
      refine Ev.succ ?_
      have hil : i < l.length := by omega
      simp only [undercroftref13_Same.l0, if_pos (show ((i : Int) < (l.length : Int)) by omega), if_pos (show (0 : Int) ≤ (i : Int) by omega), beq_self_eq_true, Bool.not_true, Bool.or_self, Bool.false_eq_true, if_false, w64 (show -9223372036854775808 ≤ (i : Int) + 1 by omega) (by omega)]
      exact ih (i + 1) (by omega)
  exact key l.length 0 (by omega)
end Go.Proofs.Ytffaggckhneakaa.At
end
section
namespace Go.Proofs.Ytffaggckhneakaa.Pr
open Go.RowKit Go.Proofs.YtffaggckhneakaaW.PrintWords Go.Proofs.YtffaggckhneakaaW.PrintLast Go.Proofs.YtffaggckhneakaaW.PrintMore
attribute [local go_sem] max2_int min2_int max_two min_two max_three min_three max_four min_four
attribute [local go_sem] Go.Proofs.Ytffaggckhneakaa.Hl.str_geq Go.Proofs.Ytffaggckhneakaa.Hl.str_gtr Go.Proofs.Ytffaggckhneakaa.Hl.str_leq
set_option linter.unusedVariables false
set_option linter.unusedSimpArgs false
def bytes_Equal.f (l0 : List Int) (l1 : List Int) : Option (Bool) := some ((strOfNums l0).toList == (strOfNums l1).toList)
set_option maxHeartbeats 8000000 in
set_option maxRecDepth 100000 in
theorem bytes_Equal.calls (A0 : Option Addr) (c0 : Nat) (l0 : List Int) (A1 : Option Addr) (c1 : Nat) (l1 : List Int) (r : Bool) (w : World) (hr0 : Kd.C (Kd.int .u8) w A0 l0.length l0) (hc0 : l0.length ≤ c0) (hr1 : Kd.C (Kd.int .u8) w A1 l1.length l1) (hc1 : l1.length ≤ c1) (h : bytes_Equal.f l0 l1 = some r) :
    Calls Try.prog 56 #[.slice A0 l0.length c0, .slice A1 l1.length c1] w fun e w' => e = .returned (.bool r) ∧ Drawn0 w w' := by
  have HR0 := Aside0.mk hr0
  have HC0 := Aside0.mk hc0
  clear hr0 hc0
  have HR1 := Aside0.mk hr1
  have HC1 := Aside0.mk hc1
  clear hr1 hc1
  have H : (some ((strOfNums l0).toList == (strOfNums l1).toList)) = some r := h
  clear h
  obtain rfl := Option.some.inj H
  have hcv3 := Kd.C_string (P := Try.prog) (A := A0) (c := c0) Try.underlying37 Try.underlying5 Try.underlying9 HR0.out
  have hcv4 := Kd.C_string (P := Try.prog) (A := A1) (c := c1) Try.underlying37 Try.underlying5 Try.underlying9 HR1.out
  go_enter Try.func56, Try.ntmps56
  go_wp2
  go_ret
  exact ⟨by first | rfl | (simp; done) | (simp [*]; done), by repeat (first | exact Drawn0.refl _ | apply Drawn0.step)⟩
end Go.Proofs.Ytffaggckhneakaa.Pr
end
section
namespace Go.Proofs.Ytffaggckhneakaa.Pr
open Go.RowKit Go.Proofs.YtffaggckhneakaaW.PrintWords Go.Proofs.YtffaggckhneakaaW.PrintLast Go.Proofs.YtffaggckhneakaaW.PrintMore
attribute [local go_sem] max2_int min2_int max_two min_two max_three min_three max_four min_four
attribute [local go_sem] Go.Proofs.Ytffaggckhneakaa.Hl.str_geq Go.Proofs.Ytffaggckhneakaa.Hl.str_gtr Go.Proofs.Ytffaggckhneakaa.Hl.str_leq
set_option linter.unusedVariables false
set_option linter.unusedSimpArgs false
set_option maxHeartbeats 8000000 in
set_option maxRecDepth 100000 in
theorem attr_take (W : World) (Bx : Nat) (A : Option Addr) (c : Nat) (l : List Int) (N : Nat) (hN : l.length = N) (n : Nat) (hbk : W.heap[Bx]? = some (.cells #[.slice A N c] 37 (0, 0))) (hr : Kd.C (Kd.int .u8) W A l.length l) (hc : l.length ≤ c) (hn : n ≤ l.length) :
    Calls Try.prog 58 #[.int .i64 n, .pointer (some ⟨Bx, 0, none⟩)] W fun e w' => e = .returned (.tuple #[.string (strOfNums (l.take n)), .bool true]) ∧
      ∃ A' c', w'.heap[Bx]? = some (.cells #[.slice A' (l.length - n) c'] 37 (0, 0)) ∧ (l.drop n).length ≤ c' ∧ (∀ w1, Kd.C (Kd.int .u8) w1 A l.length l → Kd.C (Kd.int .u8) w1 A' (l.drop n).length (l.drop n)) ∧ w' = W.setCell ⟨Bx, 0, none⟩ (.slice A' (l.length - n) c') := by
  subst hN
  obtain ⟨i0, hi, hz⟩ := Option.map_eq_some_iff.1 info5
  simp only [Prod.mk.injEq] at hz
  have hln : l.length ≤ 9223372036854775807 := hr.2.1
  obtain ⟨hcut1, hA1, hC1⟩ := print_take_of (P := Try.prog) (Value.int .u8) 0 37 5 .i64 Try.underlying37 hi hz.2.1 A c l (n : Int) (by omega) (by omega) hc
  obtain ⟨A2, hcut2, hA2, hC2⟩ := print_drop_of (P := Try.prog) (Value.int .u8) 0 37 5 .i64 Try.underlying37 hi hz.2.1 A c l (n : Int) (by omega) (by omega) hc
  rw [Int.toNat_natCast] at hA1 hA2 hC1 hC2
  simp only [Int.toNat_natCast] at hcut1 hcut2
  have hl1 : (l.take n).length = n := by rw [List.length_take]; omega
  have hl2 : (l.drop n).length = l.length - n := by rw [List.length_drop]
  simp only [hl1] at hcut1
  simp only [hl2] at hcut2
  have hcell : W.cell? ⟨Bx, 0, none⟩ = some (.slice A l.length c) := (blk_cell hbk 0).trans rfl
  have hfz := blk_frozen hbk 0
  have hcv : (convert 37 9 (.slice A n c)).run Try.prog W = .ok (.string (strOfNums (l.take n))) W := by
    have h1 := Kd.C_of_reads (h1 := fun _ => rfl) (hA1 W (Kd.reads_of_C hr))
    have e_ := Kd.C_string (P := Try.prog) (A := A) (c := c) Try.underlying37 Try.underlying5 Try.underlying9 h1
    rw [hl1] at e_
    exact e_
  have hgt : ¬ (l.length < n) := by omega
  obtain ⟨sv, hsv⟩ : ∃ sv, strOfNums (l.take n) = sv := ⟨_, rfl⟩
  rw [hsv] at hcv ⊢
  have HBK := Aside0.mk hbk
  have HC2 := Aside0.mk hC2
  have HA2 := Aside0.mk hA2
  have HL2 := Aside0.mk hl2
  clear hsv hl1 hl2 hA1 hC1 hA2 hC2 hr hc hz hi hln hbk hn
  go_enter Try.func58, Try.ntmps58
  go_wp2
  go_ret2
  exact ⟨rfl, A2, c - n, blk_put (cs := #[.slice A l.length c]) HBK.out 0 _ rfl, HC2.out, fun w1 h1 => Kd.C_of_reads (h1 := fun _ => rfl) (HA2.out w1 (Kd.reads_of_C h1)), rfl⟩
set_option maxHeartbeats 8000000 in
set_option maxRecDepth 100000 in
theorem attr_take_no (W : World) (Bx : Nat) (A : Option Addr) (c : Nat) (N : Nat) (n : Nat) (hbk : W.heap[Bx]? = some (.cells #[.slice A N c] 37 (0, 0))) (hn : N < n) :
    Calls Try.prog 58 #[.int .i64 n, .pointer (some ⟨Bx, 0, none⟩)] W fun e w' => e = .returned (.tuple #[.string ⟨#[]⟩, .bool false]) ∧ w' = W := by
  have hcell : W.cell? ⟨Bx, 0, none⟩ = some (.slice A N c) := (blk_cell hbk 0).trans rfl
  have hgt : N < n := hn
  clear hbk
  go_enter Try.func58, Try.ntmps58
  go_wp2
  go_ret2
  exact ⟨rfl, rfl⟩
def attr_Decode.tail (k : Nat) (b : List Int) (ms : List S26) : Option (List S26 × Int) := (attr_Encode.f k ms).bind fun t => (if t.2 = 0 then ((bytes_Equal.f t.1 b).bind fun q => (if q = true then some (ms, 0) else some ([], 13))) else some ([], 13))
def attr_Decode.l0 : Nat → List Int → Int → Int → List Int → List S26 → Option (List S26 × Int)
  | 0, _, _, _, _, _ => none
  | k + 1, b, n, i, rest, ms => if i < n then (if rest.length < 2 then some ([], 13) else (if 0 ≤ rd rest 0 ∧ rd rest 0 < 256 ∧ 0 ≤ rd rest 1 ∧ rd rest 1 < 256 then (if (rest.drop 2).length < (rd rest 0).toNat then some ([], 13) else (if ((rest.drop 2).drop (rd rest 0).toNat).length < (rd rest 1).toNat then some ([], 13) else (if ms.length < 4398046511104 then attr_Decode.l0 k b n (IntKind.u64.wrap (i + 1)) (((rest.drop 2).drop (rd rest 0).toNat).drop (rd rest 1).toNat) (ms ++ [⟨strOfNums ((rest.drop 2).take (rd rest 0).toNat), strOfNums (((rest.drop 2).drop (rd rest 0).toNat).take (rd rest 1).toNat)⟩]) else none))) else none)) else attr_Decode.tail k b ms
def attr_Decode.f (k : Nat) (l0 : List Int) : Option (List S26 × Int) := if l0.length = 256 then ((crc_Number.f k (l0.take 2)).bind fun v => attr_Decode.l0 k l0 v.1 0 ((l0.take 252).drop 2) []) else some ([], 13)
set_option maxHeartbeats 8000000 in
set_option maxRecDepth 100000 in
theorem attr_Decode.calls (k : Nat) (A0 : Option Addr) (c0 : Nat) (l0 : List Int) (r1 : List (S26)) (r2 : Int) (w : World) (hr0 : Kd.C (Kd.int .u8) w A0 l0.length l0) (hc0 : l0.length ≤ c0) (h : attr_Decode.f k l0 = some (r1, r2)) :
    Calls Try.prog 33 #[.slice A0 l0.length c0] w fun e w' => ∃ v0_ : Value, e = .returned (.tuple #[v0_, .int .i64 r2]) ∧ Kd.R k26 26 w' w.heap.size (fun _ => True) v0_ r1 ∧ Below w.heap.size w w' := by
  unfold attr_Decode.f at h
  have HR0 := Aside0.mk hr0
  have HC0 := Aside0.mk hc0
  clear hr0 hc0
  by_cases hlen : l0.length = 256
  · rw [if_pos hlen] at h
    obtain ⟨⟨nv, nok⟩, hn, h⟩ := Option.bind_eq_some_iff.1 h
    have HN2 := Aside0.mk hlen
    have hlb : ((l0.length : Int) != 256) = false := by simp [hlen]
    have HH := Aside0.mk h
    obtain ⟨i0, hi0_, hz0_⟩ := Option.map_eq_some_iff.1 info5
    simp only [Prod.mk.injEq] at hz0_
    obtain ⟨hcut1, hA1, hC1⟩ := print_take_of (P := Try.prog) (Value.int .u8) 0 37 5 .i64 Try.underlying37 hi0_ hz0_.2.1 A0 c0 l0 2 (by omega) (by omega) HC0.out
    obtain ⟨A2, hcut2, hA2, hC2⟩ := print_mid_of (P := Try.prog) (Value.int .u8) 0 37 5 .i64 .i64 Try.underlying37 hi0_ hz0_.2.1 A0 c0 l0 2 252 (by omega) (by omega) (by omega) HC0.out
    rw [show (2 : Int).toNat = 2 from rfl] at hA1 hC1 hA2 hC2
    rw [show (252 : Int).toNat = 252 from rfl] at hA2 hC2
    simp only [show (2 : Int).toNat = 2 from rfl, show (252 : Int).toNat = 252 from rfl] at hcut1 hcut2
    have hl1 : (l0.take 2).length = 2 := by rw [List.length_take]; omega
    have hl2 : ((l0.take 252).drop 2).length = 250 := by rw [List.length_drop, List.length_take]; omega
    have hcn := crc_Number.calls k A0 c0 (l0.take 2) nv nok w (Kd.C_of_reads (h1 := fun _ => rfl) (hA1 _ (Kd.reads_of_C HR0.out))) hC1 hn
    rw [hl1] at hcn
    simp only [hl1] at hcut1
    simp only [hl2] at hcut2
    obtain ⟨R0, hR0⟩ : ∃ R0, R0 = (l0.take 252).drop 2 := ⟨_, rfl⟩
    have HCN := Aside0.mk hcn
    have HRest := Aside0.mk (show ∀ w1, Kd.C (Kd.int .u8) w1 A0 l0.length l0 → Kd.C (Kd.int .u8) w1 A2 R0.length R0 from fun w1 h1 => by rw [hR0]; exact Kd.C_of_reads (h1 := fun _ => rfl) (hA2 w1 (Kd.reads_of_C h1)))
    have HR0L := Aside0.mk (show R0.length = 250 from by rw [hR0]; exact hl2)
    have HRC := Aside0.mk (show R0.length ≤ c0 - 2 from by rw [hR0]; exact hC2)
    simp only [← hR0] at HH
    clear hn h hlen hi0_ hz0_ hA1 hA2 hC1 hC2 hl1 hl2 hcn hR0
    go_enter Try.func33, Try.ntmps33
    go_wp2_with (go_at_call 55; refine HCN.out.mono ?_; rintro e w1 ⟨rfl, ⟨m1, rfl⟩⟩; have hfz : ((w.drewN m1).alloc (.cells #[.slice none 0 0] 37)).frozen? ⟨w.heap.size, 0, none⟩ = false := blk_frozen (blk_new (w.drewN m1) _) 0; have hcl0 : ((w.drewN m1).alloc (.cells #[.slice none 0 0] 37)).cell? ⟨w.heap.size, 0, none⟩ = some (.slice none 0 0) := (blk_cell (blk_new (w.drewN m1) _) 0).trans rfl)
    have hi54 := info26
    have hu54 := Try.underlying26
    clear hlb hcut1 hcut2 hfz hcl0
    go_loopg [8, 29] k (fun kq v8 v29 w' => ∃ (ms : List S26) (i : Int) (rest : List Int) (A : Option Addr) (c : Nat), v29 = .int .u64 i ∧ Aside0 (attr_Decode.l0 kq l0 nv i rest ms = some (r1, r2)) ∧ Aside0 (kq ≤ k) ∧ Aside0 (w'.heap[w.heap.size]? = some (.cells #[.slice A rest.length c] 37 (0, 0))) ∧ Aside0 (∀ w1, Kd.C (Kd.int .u8) w1 A0 l0.length l0 → Kd.C (Kd.int .u8) w1 A rest.length rest) ∧ Aside0 (rest.length ≤ c) ∧ Aside0 (Kd.R k26 26 w' w.heap.size (fun _ => True) v8 ms) ∧ Aside0 (Below w.heap.size w w'))
    case atStart => exact ⟨[], 0, R0, A2, c0 - 2, rfl, HH, ⟨Nat.le_refl _⟩, ⟨by rw [HR0L.out]; exact blk_put (cs := #[.slice none 0 0]) (blk_new (w.drewN m1) _) 0 _ rfl⟩, HRest, HRC, ⟨Kd.R_nil _ _ _ _ _⟩, ⟨Hl.below_set_ ((pw_below_drewN (Below.refl w.heap.size w) m1).alloc (Nat.le_refl _) _) (Nat.le_refl _)⟩⟩
    case round =>
      obtain ⟨ms, i, rest, A, c, rfl, HL, HK, HBK, HRS, HRL, HO, HB⟩ := hrel
      clear HH HRest HRC HR0L HCN
      cases gk with
      | zero => exact absurd HL.out (by intro h_; cases h_)
      | succ g =>
        have hl := HL.out
        clear HL
        simp only [attr_Decode.l0] at hl
        obtain ⟨Ao, co, hc5_, hr5_, rfl⟩ : ∃ A c, ms.length ≤ c ∧ Kd.C k26 wr A ms.length ms ∧ _ = Value.slice A ms.length c := by
          obtain ⟨A, c, e, hc, hr⟩ := Kd.R_reads HO.out
          exact ⟨A, c, hc, hr, e⟩
        have HC5 := Aside0.mk hc5_
        have HR5 := Aside0.mk hr5_
        clear hc5_ hr5_
        by_cases hi : i < nv
        · rw [if_pos hi] at hl
          have hib : decide (i < nv) = true := decide_eq_true hi
          by_cases h2 : rest.length < 2
          · rw [if_pos h2] at hl
            obtain ⟨rfl, rfl⟩ := Prod.mk.inj (Option.some.inj hl)
            have H2 := Aside0.mk h2
            clear hl h2
            go_wp2_with (go_at_call 58; refine (attr_take_no wr _ A c rest.length 2 HBK.out H2.out).mono ?_; rintro e w2 ⟨rfl, rfl⟩)
            go_ret2
            exact ⟨_, rfl, Kd.R_nil _ _ _ _ _, HB.out⟩
          · obtain ⟨x, y, r, rfl⟩ : ∃ x y r, rest = x :: y :: r := by
              match rest, h2 with
              | x :: y :: r, _ => exact ⟨x, y, r, rfl⟩
              | [_], h => simp at h
              | [], h => simp at h
            simp only [show rd (x :: y :: r) 0 = x from rfl, show rd (x :: y :: r) 1 = y from rfl, List.drop_succ_cons, List.drop_zero] at hl
            rw [if_neg h2] at hl
            by_cases hb : 0 ≤ x ∧ x < 256 ∧ 0 ≤ y ∧ y < 256
            · rw [if_pos hb] at hl
              obtain ⟨xn, rfl⟩ : ∃ xn : Nat, x = (xn : Int) := ⟨x.toNat, by omega⟩
              obtain ⟨yn, rfl⟩ : ∃ yn : Nat, y = (yn : Int) := ⟨y.toNat, by omega⟩
              simp only [Int.toNat_natCast] at hl
              have H2 := Aside0.mk (show 2 ≤ ((xn : Int) :: (yn : Int) :: r).length by simp)
              obtain ⟨s0, hs0⟩ : ∃ s0, strOfNums (((xn : Int) :: (yn : Int) :: r).take 2) = s0 := ⟨_, rfl⟩
              have hsz0 : s0.size = 2 := by rw [← hs0]; rfl
              have hbx : ∀ h : 0 < s0.size, ((s0[0]'h).toNat : Int) = (xn : Int) := by
                subst hs0
                intro h
                show (((UInt8.ofNat ((xn : Int)).toNat).toNat : Nat) : Int) = _
                rw [Int.toNat_natCast, UInt8.toNat_ofNat']
                omega
              have hby : ∀ h : 1 < s0.size, ((s0[1]'h).toNat : Int) = (yn : Int) := by
                subst hs0
                intro h
                show (((UInt8.ofNat ((yn : Int)).toNat).toNat : Nat) : Int) = _
                rw [Int.toNat_natCast, UInt8.toNat_ofNat']
                omega
              have hwx : wrap64 (xn : Int) = (xn : Int) := by unfold wrap64; omega
              have hwy : wrap64 (yn : Int) = (yn : Int) := by unfold wrap64; omega
              have HS0 := Aside0.mk hs0
              clear hb h2 hs0
              by_cases h3 : r.length < xn
              · rw [if_pos h3] at hl
                obtain ⟨rfl, rfl⟩ := Prod.mk.inj (Option.some.inj hl)
                have H3 := Aside0.mk h3
                clear hl h3
                by_cases h4 : r.length < yn
                · have H4 := Aside0.mk h4
                  clear h4
                  go_wp2_with (first | (go_at_call 58; refine (attr_take_no w3 _ A1 c1 r.length yn HBK3.out H4.out).mono ?_; rintro e w4 ⟨rfl, hw4⟩; have HB4 : Aside0 (Below w.heap.size w w4) := ⟨by rw [hw4]; exact HB3.out⟩; clear hw4) | (go_at_call 58; refine (attr_take_no w2 _ A1 c1 r.length xn HBK2.out H3.out).mono ?_; rintro e w3 ⟨rfl, hw3⟩; have HBK3 : Aside0 (w3.heap[w.heap.size]? = some (.cells #[.slice A1 r.length c1] 37 (0, 0))) := ⟨by rw [hw3]; exact HBK2.out⟩; have HB3 : Aside0 (Below w.heap.size w w3) := ⟨by rw [hw3]; exact HB2.out⟩; clear hw3) | (go_at_call 58; refine (attr_take wr _ A c ((xn : Int) :: (yn : Int) :: r) _ rfl 2 HBK.out (HRS.out _ (Kd.C_below HR0.out HB.out)) HRL.out H2.out).mono ?_; rintro e w2 ⟨rfl, A1, c1, hbk2, hle2, htr2, hw2⟩; rw [HS0.out]; have HBK2 : Aside0 (w2.heap[w.heap.size]? = some (.cells #[.slice A1 (r.length) c1] 37 (0, 0))) := ⟨hbk2⟩; have HLE2 : Aside0 (r.length ≤ c1) := ⟨hle2⟩; have HTR2 : Aside0 (∀ w1, Kd.C (Kd.int .u8) w1 A0 l0.length l0 → Kd.C (Kd.int .u8) w1 A1 r.length r) := ⟨fun w1 h1 => htr2 w1 (HRS.out w1 h1)⟩; have HO2 : Aside0 (Kd.R k26 26 w2 w.heap.size (fun _ => True) (.slice Ao ms.length co) ms) := ⟨by rw [hw2]; exact Kd.R_set HO.out HBK.out (by decide) 0 _⟩; have HB2 : Aside0 (Below w.heap.size w w2) := ⟨by rw [hw2]; exact Hl.below_set_ HB.out (Nat.le_refl _)⟩; clear hbk2 hle2 htr2 hw2))
                  go_ret2
                  exact ⟨_, rfl, Kd.R_nil _ _ _ _ _, HB4.out⟩
                · have H4 := Aside0.mk (show yn ≤ r.length by omega)
                  obtain ⟨s2, hs2⟩ : ∃ s2, strOfNums (r.take yn) = s2 := ⟨_, rfl⟩
                  have HS2 := Aside0.mk hs2
                  clear h4 hs2
                  go_wp2_with (first | (go_at_call 58; refine (attr_take w3 _ A1 c1 r _ rfl yn HBK3.out (HTR2.out _ (Kd.C_below HR0.out HB3.out)) HLE2.out H4.out).mono ?_; rintro e w4 ⟨rfl, A5, c5, -, -, -, hw4⟩; rw [HS2.out]; have HB4 : Aside0 (Below w.heap.size w w4) := ⟨by rw [hw4]; exact Hl.below_set_ HB3.out (Nat.le_refl _)⟩; clear hw4) | (go_at_call 58; refine (attr_take_no w2 _ A1 c1 r.length xn HBK2.out H3.out).mono ?_; rintro e w3 ⟨rfl, hw3⟩; have HBK3 : Aside0 (w3.heap[w.heap.size]? = some (.cells #[.slice A1 r.length c1] 37 (0, 0))) := ⟨by rw [hw3]; exact HBK2.out⟩; have HB3 : Aside0 (Below w.heap.size w w3) := ⟨by rw [hw3]; exact HB2.out⟩; clear hw3) | (go_at_call 58; refine (attr_take wr _ A c ((xn : Int) :: (yn : Int) :: r) _ rfl 2 HBK.out (HRS.out _ (Kd.C_below HR0.out HB.out)) HRL.out H2.out).mono ?_; rintro e w2 ⟨rfl, A1, c1, hbk2, hle2, htr2, hw2⟩; rw [HS0.out]; have HBK2 : Aside0 (w2.heap[w.heap.size]? = some (.cells #[.slice A1 (r.length) c1] 37 (0, 0))) := ⟨hbk2⟩; have HLE2 : Aside0 (r.length ≤ c1) := ⟨hle2⟩; have HTR2 : Aside0 (∀ w1, Kd.C (Kd.int .u8) w1 A0 l0.length l0 → Kd.C (Kd.int .u8) w1 A1 r.length r) := ⟨fun w1 h1 => htr2 w1 (HRS.out w1 h1)⟩; have HO2 : Aside0 (Kd.R k26 26 w2 w.heap.size (fun _ => True) (.slice Ao ms.length co) ms) := ⟨by rw [hw2]; exact Kd.R_set HO.out HBK.out (by decide) 0 _⟩; have HB2 : Aside0 (Below w.heap.size w w2) := ⟨by rw [hw2]; exact Hl.below_set_ HB.out (Nat.le_refl _)⟩; clear hbk2 hle2 htr2 hw2))
                  go_ret2
                  exact ⟨_, rfl, Kd.R_nil _ _ _ _ _, HB4.out⟩
              · rw [if_neg h3] at hl
                have H3 := Aside0.mk (show xn ≤ r.length by omega)
                obtain ⟨s1, hs1⟩ : ∃ s1, strOfNums (r.take xn) = s1 := ⟨_, rfl⟩
                rw [hs1] at hl
                have HS1 := Aside0.mk hs1
                have HN3 := Aside0.mk (show (r.drop xn).length = r.length - xn from List.length_drop)
                clear h3 hs1
                by_cases h4 : (r.drop xn).length < yn
                · rw [if_pos h4] at hl
                  obtain ⟨rfl, rfl⟩ := Prod.mk.inj (Option.some.inj hl)
                  have H4 := Aside0.mk (show r.length - xn < yn by have := HN3.out; omega)
                  clear hl h4
                  go_wp2_with (first | (go_at_call 58; refine (attr_take_no w3 _ A4 c4 (r.length - xn) yn HBK3.out H4.out).mono ?_; rintro e w4 ⟨rfl, hw4⟩; have HB4 : Aside0 (Below w.heap.size w w4) := ⟨by rw [hw4]; exact HB3.out⟩; clear hw4) | (go_at_call 58; refine (attr_take w2 _ A1 c1 r _ rfl xn HBK2.out (HTR2.out _ (Kd.C_below HR0.out HB2.out)) HLE2.out H3.out).mono ?_; rintro e w3 ⟨rfl, A4, c4, hbk3, hle3, htr3, hw3⟩; rw [HS1.out]; have HBK3 : Aside0 (w3.heap[w.heap.size]? = some (.cells #[.slice A4 (r.length - xn) c4] 37 (0, 0))) := ⟨hbk3⟩; have HLE3 : Aside0 ((r.drop xn).length ≤ c4) := ⟨hle3⟩; have HTR3 : Aside0 (∀ w1, Kd.C (Kd.int .u8) w1 A0 l0.length l0 → Kd.C (Kd.int .u8) w1 A4 (r.drop xn).length (r.drop xn)) := ⟨fun w1 h1 => htr3 w1 (HTR2.out w1 h1)⟩; have HO3 : Aside0 (Kd.R k26 26 w3 w.heap.size (fun _ => True) (.slice Ao ms.length co) ms) := ⟨by rw [hw3]; exact Kd.R_set HO2.out HBK2.out (by decide) 0 _⟩; have HB3 : Aside0 (Below w.heap.size w w3) := ⟨by rw [hw3]; exact Hl.below_set_ HB2.out (Nat.le_refl _)⟩; clear hbk3 hle3 htr3 hw3) | (go_at_call 58; refine (attr_take wr _ A c ((xn : Int) :: (yn : Int) :: r) _ rfl 2 HBK.out (HRS.out _ (Kd.C_below HR0.out HB.out)) HRL.out H2.out).mono ?_; rintro e w2 ⟨rfl, A1, c1, hbk2, hle2, htr2, hw2⟩; rw [HS0.out]; have HBK2 : Aside0 (w2.heap[w.heap.size]? = some (.cells #[.slice A1 (r.length) c1] 37 (0, 0))) := ⟨hbk2⟩; have HLE2 : Aside0 (r.length ≤ c1) := ⟨hle2⟩; have HTR2 : Aside0 (∀ w1, Kd.C (Kd.int .u8) w1 A0 l0.length l0 → Kd.C (Kd.int .u8) w1 A1 r.length r) := ⟨fun w1 h1 => htr2 w1 (HRS.out w1 h1)⟩; have HO2 : Aside0 (Kd.R k26 26 w2 w.heap.size (fun _ => True) (.slice Ao ms.length co) ms) := ⟨by rw [hw2]; exact Kd.R_set HO.out HBK.out (by decide) 0 _⟩; have HB2 : Aside0 (Below w.heap.size w w2) := ⟨by rw [hw2]; exact Hl.below_set_ HB.out (Nat.le_refl _)⟩; clear hbk2 hle2 htr2 hw2))
                  go_ret2
                  exact ⟨_, rfl, Kd.R_nil _ _ _ _ _, HB4.out⟩
                · rw [if_neg h4] at hl
                  by_cases hms : ms.length < 4398046511104
                  · rw [if_pos hms] at hl
                    have H4 := Aside0.mk (show yn ≤ (r.drop xn).length by omega)
                    obtain ⟨s2, hs2⟩ : ∃ s2, strOfNums ((r.drop xn).take yn) = s2 := ⟨_, rfl⟩
                    rw [hs2] at hl
                    have HS2 := Aside0.mk hs2
                    have HMS := Aside0.mk hms
                    have HLL := Aside0.mk hl
                    clear h4 hs2 hms hl
                    go_wp2_with (first | ((with_reducible refine gate_builtin (b := .append) (xs := #[.tmp 60, .tmp 64]) rfl ?_); at_builtin; refine Kd.R_append k26 (w0 := w) w.heap.size rfl (.tmp 60) (.tmp 64) 22 26 (.agg #[(.string ⟨#[]⟩), (.string ⟨#[]⟩)]) 32 rfl Try.underlying22 info26 rfl (by decide) (by omega) (.slice Ao ms.length co) ms (⟨s1, s2⟩ : S26) [.string s1, .string s2] (fun _ => True) (fun _ => False) rfl rfl (k26_mkM _ _ _ (⟨s1, s2⟩ : S26)) (fun _ hk => hk.elim) (fun _ _ => trivial) HO4.out HB4.out (below_size HB4.out) (by have := HMS.out; omega) ?_; intro v5 w5 ho5 hb5 hg5 hat5; have HBK5 := Aside0.mk (blk_grown HBK4.out hg5 (Kd.R_ne HO4.out HBK4.out (by decide))); have HO5 := Aside0.mk ho5; have HB5 := Aside0.mk hb5; clear ho5 hb5 hg5 hat5) | (go_at_call 58; refine (attr_take w3 _ A4 c4 (r.drop xn) _ HN3.out yn HBK3.out (HTR3.out _ (Kd.C_below HR0.out HB3.out)) HLE3.out H4.out).mono ?_; rintro e w4 ⟨rfl, A5, c5, hbk4, hle4, htr4, hw4⟩; rw [HS2.out]; have HBK4 : Aside0 (w4.heap[w.heap.size]? = some (.cells #[.slice A5 ((r.drop xn).length - yn) c5] 37 (0, 0))) := ⟨hbk4⟩; have HLE4 : Aside0 (((r.drop xn).drop yn).length ≤ c5) := ⟨hle4⟩; have HTR4 : Aside0 (∀ w1, Kd.C (Kd.int .u8) w1 A0 l0.length l0 → Kd.C (Kd.int .u8) w1 A5 ((r.drop xn).drop yn).length ((r.drop xn).drop yn)) := ⟨fun w1 h1 => htr4 w1 (HTR3.out w1 h1)⟩; have HO4 : Aside0 (Kd.R k26 26 w4 w.heap.size (fun _ => True) (.slice Ao ms.length co) ms) := ⟨by rw [hw4]; exact Kd.R_set HO3.out HBK3.out (by decide) 0 _⟩; have HB4 : Aside0 (Below w.heap.size w w4) := ⟨by rw [hw4]; exact Hl.below_set_ HB3.out (Nat.le_refl _)⟩; clear hbk4 hle4 htr4 hw4) | (go_at_call 58; refine (attr_take w2 _ A1 c1 r _ rfl xn HBK2.out (HTR2.out _ (Kd.C_below HR0.out HB2.out)) HLE2.out H3.out).mono ?_; rintro e w3 ⟨rfl, A4, c4, hbk3, hle3, htr3, hw3⟩; rw [HS1.out]; have HBK3 : Aside0 (w3.heap[w.heap.size]? = some (.cells #[.slice A4 (r.length - xn) c4] 37 (0, 0))) := ⟨hbk3⟩; have HLE3 : Aside0 ((r.drop xn).length ≤ c4) := ⟨hle3⟩; have HTR3 : Aside0 (∀ w1, Kd.C (Kd.int .u8) w1 A0 l0.length l0 → Kd.C (Kd.int .u8) w1 A4 (r.drop xn).length (r.drop xn)) := ⟨fun w1 h1 => htr3 w1 (HTR2.out w1 h1)⟩; have HO3 : Aside0 (Kd.R k26 26 w3 w.heap.size (fun _ => True) (.slice Ao ms.length co) ms) := ⟨by rw [hw3]; exact Kd.R_set HO2.out HBK2.out (by decide) 0 _⟩; have HB3 : Aside0 (Below w.heap.size w w3) := ⟨by rw [hw3]; exact Hl.below_set_ HB2.out (Nat.le_refl _)⟩; clear hbk3 hle3 htr3 hw3) | (go_at_call 58; refine (attr_take wr _ A c ((xn : Int) :: (yn : Int) :: r) _ rfl 2 HBK.out (HRS.out _ (Kd.C_below HR0.out HB.out)) HRL.out H2.out).mono ?_; rintro e w2 ⟨rfl, A1, c1, hbk2, hle2, htr2, hw2⟩; rw [HS0.out]; have HBK2 : Aside0 (w2.heap[w.heap.size]? = some (.cells #[.slice A1 (r.length) c1] 37 (0, 0))) := ⟨hbk2⟩; have HLE2 : Aside0 (r.length ≤ c1) := ⟨hle2⟩; have HTR2 : Aside0 (∀ w1, Kd.C (Kd.int .u8) w1 A0 l0.length l0 → Kd.C (Kd.int .u8) w1 A1 r.length r) := ⟨fun w1 h1 => htr2 w1 (HRS.out w1 h1)⟩; have HO2 : Aside0 (Kd.R k26 26 w2 w.heap.size (fun _ => True) (.slice Ao ms.length co) ms) := ⟨by rw [hw2]; exact Kd.R_set HO.out HBK.out (by decide) 0 _⟩; have HB2 : Aside0 (Below w.heap.size w w2) := ⟨by rw [hw2]; exact Hl.below_set_ HB.out (Nat.le_refl _)⟩; clear hbk2 hle2 htr2 hw2))
                    go_roundg g
                    case measure => have := HK.out; omega
                    case rel => exact ⟨_, _, _, A5, c5, rfl, HLL, ⟨by have := HK.out; omega⟩, ⟨by rw [List.length_drop (i := yn)]; exact HBK5.out⟩, HTR4, HLE4, HO5, HB5⟩
                  · rw [if_neg hms] at hl
                    cases hl
            · rw [if_neg hb] at hl
              cases hl
        · rw [if_neg hi] at hl
          have hib : decide (i < nv) = false := decide_eq_false hi
          unfold attr_Decode.tail at hl
          obtain ⟨⟨eb, ee⟩, he, hl⟩ := Option.bind_eq_some_iff.1 hl
          simp only [] at hl
          have HE := Aside0.mk he
          clear he
          by_cases hee : ee = 0
          · subst hee
            rw [if_pos rfl] at hl
            obtain ⟨q, hq, hl⟩ := Option.bind_eq_some_iff.1 hl
            have HQ := Aside0.mk hq
            clear hq
            by_cases hqt : q = true
            · subst hqt
              rw [if_pos rfl] at hl
              obtain ⟨rfl, rfl⟩ := Prod.mk.inj (Option.some.inj hl)
              clear hl
              go_wp2_with (first | (go_at_call 56; refine (bytes_Equal.calls A2 c2 eb A0 c0 l0 true _ HR2.out HC2.out (Kd.C_below HR0.out HB2.out) HC0.out HQ.out).mono ?_; rintro e w3 ⟨rfl, ⟨m3, rfl⟩⟩) | (go_at_call 21; refine (attr_Encode.calls g Ao co ms eb 0 wr HR5.out HC5.out HE.out).mono ?_; rintro e w2 ⟨v2, rfl, ho2, hb2⟩; obtain ⟨A2, c2, rfl, hc2, hr2⟩ := Kd.R_reads ho2; have HR2 := Aside0.mk hr2; have HC2 := Aside0.mk hc2; have HB2 := Aside0.mk (HB.out.trans (hb2.mono HB.out.size)); have HO2 := Aside0.mk (Kd.R_below HO.out hb2); clear hc2 hr2 ho2 hb2))
              go_ret2
              exact ⟨_, rfl, Kd.R_drewN HO2.out _, pw_below_drewN HB2.out _⟩
            · obtain rfl : q = false := by simpa using hqt
              rw [if_neg (by decide)] at hl
              obtain ⟨rfl, rfl⟩ := Prod.mk.inj (Option.some.inj hl)
              clear hl hqt
              go_wp2_with (first | (go_at_call 56; refine (bytes_Equal.calls A2 c2 eb A0 c0 l0 false _ HR2.out HC2.out (Kd.C_below HR0.out HB2.out) HC0.out HQ.out).mono ?_; rintro e w3 ⟨rfl, ⟨m3, rfl⟩⟩) | (go_at_call 21; refine (attr_Encode.calls g Ao co ms eb 0 wr HR5.out HC5.out HE.out).mono ?_; rintro e w2 ⟨v2, rfl, ho2, hb2⟩; obtain ⟨A2, c2, rfl, hc2, hr2⟩ := Kd.R_reads ho2; have HR2 := Aside0.mk hr2; have HC2 := Aside0.mk hc2; have HB2 := Aside0.mk (HB.out.trans (hb2.mono HB.out.size)); clear hc2 hr2 ho2 hb2))
              go_ret2
              exact ⟨_, rfl, Kd.R_nil _ _ _ _ _, pw_below_drewN HB2.out _⟩
          · rw [if_neg hee] at hl
            obtain ⟨rfl, rfl⟩ := Prod.mk.inj (Option.some.inj hl)
            have heb : (ee != 0) = true := bne_iff_ne.2 hee
            clear hl
            go_wp2_with (go_at_call 21; refine (attr_Encode.calls g Ao co ms eb ee wr HR5.out HC5.out HE.out).mono ?_; rintro e w2 ⟨v2, rfl, ho2, hb2⟩; have HB2 := Aside0.mk (HB.out.trans (hb2.mono HB.out.size)); clear ho2 hb2)
            go_ret2
            exact ⟨_, rfl, Kd.R_nil _ _ _ _ _, HB2.out⟩
  · rw [if_neg hlen] at h
    obtain ⟨rfl, rfl⟩ := Prod.mk.inj (Option.some.inj h)
    have hlb : ((l0.length : Int) == 256) = false := beq_eq_false_iff_ne.2 (by omega)
    go_enter Try.func33, Try.ntmps33
    go_wp2
    go_ret2
    exact ⟨_, rfl, Kd.R_nil _ _ _ _ _, Below.refl _ _⟩
end Go.Proofs.Ytffaggckhneakaa.Pr
end
section
namespace Go.Proofs.Ytffaggckhneakaa.At
open Go.RowKit Go.Proofs.YtffaggckhneakaaW.PrintWords Go.Proofs.YtffaggckhneakaaW.PrintMore Go.Proofs.Ytffaggckhneakaa.Pr Go.Proofs.Ytffaggckhneakaa.Od Go.Proofs.Ytffaggckhneakaa.Cr
set_option linter.unusedVariables false
set_option linter.unusedSimpArgs false
def by_ (b : List Int) (x : Nat) : Nat := (rd b (x : Int)).toNat
def tailR (b : List Int) (ms : List E) : List E × Int := if (encR ms).2 = 0 ∧ (encR ms).1 = b then (ms, 0) else ([], 13)
def decL (b : List Int) : Nat → Nat → List E → List E × Int
  | 0, _, ms => tailR b ms
  | m + 1, x, ms => if x > 250 then ([], 13) else (if x + 2 + by_ b x + by_ b (x + 1) > 252 then ([], 13) else
      decL b m (x + 2 + by_ b x + by_ b (x + 1)) (ms ++ [⟨strOfNums ((b.take (x + 2 + by_ b x)).drop (x + 2)), strOfNums ((b.take (x + 2 + by_ b x + by_ b (x + 1))).drop (x + 2 + by_ b x))⟩]))
def decR (b : List Int) : List E × Int := if b.length = 256 then decL b (numN (b.take 2)) 2 [] else ([], 13)
theorem rd_nat {b : List Int} (hb : ∀ x ∈ b, isByte x) {x : Nat} (h : x < b.length) : rd b (x : Int) = (by_ b x : Int) ∧ by_ b x < 256 := by
  have h1 := hb _ (List.getElem_mem h)
  unfold isByte at h1
  unfold by_
  rw [rd_get h]
  omega
theorem rd_drop (b : List Int) (x i : Nat) : rd b ((x + i : Nat) : Int) = rd (b.drop x) (i : Int) := by
  unfold rd; rw [Int.toNat_natCast, Int.toNat_natCast]; simp [List.getD_eq_getElem?_getD, List.getElem?_drop]
theorem rd_take (b : List Int) (x i : Nat) (h : i < x) : rd (b.take x) (i : Int) = rd b (i : Int) := by
  unfold rd; rw [Int.toNat_natCast]; simp [List.getD_eq_getElem?_getD, List.getElem?_take, h]
theorem num2 {b : List Int} (hb : ∀ x ∈ b, isByte x) (h : 2 ≤ b.length) : numN (b.take 2) < 65536 := by
  have h1 := numN_lt (b.take 2) (fun x hx => hb x (List.mem_of_mem_take hx))
  have h2 : (b.take 2).length = 2 := by rw [List.length_take]; omega
  rw [h2] at h1
  exact h1
theorem tail_ev (b : List Int) (hb : ∀ x ∈ b, isByte x) (ms : List E) (hm : ms.length < 4398046511104) : Ev (fun k => attr_Decode.tail k b ms) (tailR b ms) := by
  unfold attr_Decode.tail tailR
  refine Ev.bind (enc_ev ms hm) ?_
  by_cases h0 : (encR ms).2 = 0
  · simp only [if_pos h0, bytes_Equal.f, Option.bind_some, str_beq]
    by_cases h1 : (encR ms).1 = b
    · simp only [h1, h0, decide_true, if_true, and_self]
      exact Ev.now _
    · have : ¬ strOfNums (encR ms).1 = strOfNums b := fun e => h1 ((strOfNums_inj (encR_byte ms) hb).1 e)
      simp only [decide_eq_false this, Bool.false_eq_true, if_false, h1, and_false]
      exact Ev.now _
  · simp only [if_neg h0, h0, false_and, if_false]
    exact Ev.now _
theorem dec_ev (b : List Int) (hb : ∀ x ∈ b, isByte x) : Ev (fun k => attr_Decode.f k b) (decR b) := by
  unfold attr_Decode.f decR
  by_cases hl : b.length = 256
  · simp only [if_pos hl]
    have h2 := num2 hb (by omega)
    refine Ev.bind (crc_number_ev _ (by rw [List.length_take]; omega) (fun x hx => hb x (List.mem_of_mem_take hx))) ?_
    simp only []
    generalize numN (b.take 2) = n at h2
    have key : ∀ (m i x : Nat) (ms : List E), i + m = n → ms.length ≤ i → x ≤ 252 → Ev (fun k => attr_Decode.l0 k b (n : Int) (i : Int) ((b.take 252).drop x) ms) (decL b m x ms) := by
      intro m
      induction m with
      | zero =>
        intro i x ms hi hm hx
        refine Ev.succ ?_
        simp only [attr_Decode.l0, if_neg (show ¬((i : Int) < (n : Int)) by omega), decL]
        exact tail_ev b hb ms (by omega)
      | succ m ih =>
        intro i x ms hi hm hx
        refine Ev.succ ?_
        have hrl : ((b.take 252).drop x).length = 252 - x := by rw [List.length_drop, List.length_take]; omega
        simp only [attr_Decode.l0, if_pos (show ((i : Int) < (n : Int)) by omega), decL, hrl]
        by_cases hx2 : x > 250
        · simp only [if_pos hx2, if_pos (show 252 - x < 2 by omega)]
          exact Ev.now _
        · obtain ⟨e0, g0⟩ := rd_nat hb (x := x) (by omega)
          obtain ⟨e1, g1⟩ := rd_nat hb (x := x + 1) (by omega)
          have f0 : rd ((b.take 252).drop x) 0 = (by_ b x : Int) := by
            have := rd_drop (b.take 252) x 0
            rw [Nat.add_zero, rd_take b 252 x (by omega), e0] at this
            exact this.symm
          have f1 : rd ((b.take 252).drop x) 1 = (by_ b (x + 1) : Int) := by
            have := rd_drop (b.take 252) x 1
            rw [rd_take b 252 (x + 1) (by omega), e1] at this
            exact this.symm
          simp only [if_neg hx2, if_neg (show ¬ 252 - x < 2 by omega), f0, f1, Int.toNat_natCast]
          generalize hn : by_ b x = p at g0 ⊢
          generalize hv : by_ b (x + 1) = q at g1 ⊢
          simp only [if_pos (show 0 ≤ (p : Int) ∧ (p : Int) < 256 ∧ 0 ≤ (q : Int) ∧ (q : Int) < 256 by omega), List.drop_drop, List.length_drop, List.length_take, hl, show min 252 256 = 252 from rfl]
          by_cases hp : 252 - (x + 2) < p
          · simp only [if_pos hp, if_pos (show x + 2 + p + q > 252 by omega)]
            exact Ev.now _
          · simp only [if_neg hp]
            by_cases hq : 252 - (x + 2 + p) < q
            · simp only [if_pos hq, if_pos (show x + 2 + p + q > 252 by omega)]
              exact Ev.now _
            · simp only [if_neg hq, if_neg (show ¬ x + 2 + p + q > 252 by omega), if_pos (show ms.length < 4398046511104 by omega)]
              have t0 : ((b.take 252).drop (x + 2)).take p = (b.take (x + 2 + p)).drop (x + 2) := by
                rw [List.take_drop, List.take_take, Nat.min_eq_left (by omega)]
              have t1 : ((b.take 252).drop (x + 2 + p)).take q = (b.take (x + 2 + p + q)).drop (x + 2 + p) := by
                rw [List.take_drop, List.take_take, Nat.min_eq_left (by omega)]
              rw [t0, t1, show IntKind.u64.wrap ((i : Int) + 1) = ((i + 1 : Nat) : Int) by rw [u64w]; omega]
              exact ih (i + 1) (x + 2 + p + q) _ (by omega) (by rw [List.length_append]; simp; omega) (by omega)
    exact key n 0 2 [] (by omega) (by simp) (by omega)
  · simp only [if_neg hl]
    exact Ev.now _
theorem drop_entB {b : List Int} {x : Nat} {e : E} {r : List Int} (h : b.drop x = entB e ++ r) (hs : e.f0.size < 256) (hn : e.f1.size < 256) :
    by_ b x = e.f0.size ∧ by_ b (x + 1) = e.f1.size ∧ strOfNums ((b.take (x + 2 + e.f0.size)).drop (x + 2)) = e.f0 ∧ strOfNums ((b.take (x + 2 + e.f0.size + e.f1.size)).drop (x + 2 + e.f0.size)) = e.f1 ∧ b.drop (x + 2 + e.f0.size + e.f1.size) = r := by
  have hd : b.drop x = ((e.f0.size : Int) % 256) :: ((e.f1.size : Int) % 256) :: (bytesOf e.f0 ++ (bytesOf e.f1 ++ r)) := by
    rw [h, entB, ← two_bytes]; simp only [List.append_assoc, List.cons_append, List.nil_append]
  have h2 : b.drop (x + 2) = bytesOf e.f0 ++ (bytesOf e.f1 ++ r) := by
    rw [← List.drop_drop, hd]; rfl
  have l0 := bytesOf_length e.f0
  have l1 := bytesOf_length e.f1
  have h3 : b.drop (x + 2 + e.f0.size) = bytesOf e.f1 ++ r := by
    rw [← List.drop_drop, h2, ← l0, List.drop_left]
  refine ⟨?_, ?_, ?_, ?_, ?_⟩
  · have := rd_drop b x 0
    rw [Nat.add_zero] at this
    unfold by_
    rw [this, hd]
    show ((e.f0.size : Int) % 256).toNat = _
    omega
  · unfold by_
    rw [rd_drop b x 1, hd]
    show ((e.f1.size : Int) % 256).toNat = _
    omega
  · rw [← List.take_drop, h2, List.take_append_of_le_length (by omega), List.take_of_length_le (by omega), str_bytes]
  · rw [← List.take_drop, h3, List.take_append_of_le_length (by omega), List.take_of_length_le (by omega), str_bytes]
  · rw [← List.drop_drop, h3, ← l1, List.drop_left]
theorem sumL_append : ∀ a b : List E, sumL (a ++ b) = sumL a + sumL b
  | [], b => by simp [sumL]
  | e :: a, b => by rw [List.cons_append, sumL, sumL, sumL_append a b]; omega
theorem bodyL_append : ∀ a b : List E, bodyL (a ++ b) = bodyL a ++ bodyL b
  | [], b => rfl
  | e :: a, b => by rw [List.cons_append, bodyL, bodyL, bodyL_append a b, List.append_assoc]
theorem sum_ge : ∀ l : List E, 2 * l.length ≤ sumL l
  | [] => by simp [sumL]
  | e :: l => by have := sum_ge l; simp only [sumL, List.length_cons]; omega
theorem dec_enc {l : List E} (h : (encR l).2 = 0) : decR (encR l).1 = (l, 0) := by
  have hi := encR_iff.1 h
  have hlen := encR_len h
  have he : (encR l).1 = encP l ++ bytesN 4 (sumB (encP l)).toNat := by unfold encR; rw [if_pos hi.1, if_neg (by omega)]
  unfold decR
  rw [if_pos hlen]
  have hsum := sum_ge l
  have hn : numN ((encR l).1.take 2) = l.length := by
    rw [he, encP, headP, List.append_assoc, List.append_assoc, List.take_append_of_le_length (by rw [bytesN_len]; omega), List.take_of_length_le (by rw [bytesN_len]; omega), numN_bytesN _ _ (by omega)]
  rw [hn]
  obtain ⟨r, hr⟩ : ∃ r, (encR l).1 = headP l ++ (bodyL l ++ r) := ⟨List.replicate (252 - (2 + sumL l)) 0 ++ bytesN 4 (sumB (encP l)).toNat, by rw [he, encP]; simp only [List.append_assoc]⟩
  have key : ∀ (suf pre : List E) p, pre ++ suf = l → right p suf = true → decL (encR l).1 suf.length (2 + sumL pre) pre = (l, 0) := by
    intro suf
    induction suf with
    | nil =>
      intro pre p hp _
      rw [List.append_nil] at hp
      subst hp
      simp only [List.length_nil, decL, tailR]
      rw [if_pos ⟨h, trivial⟩]
    | cons e suf ih =>
      intro pre p hp hrt
      simp only [right, Bool.and_eq_true] at hrt
      have hz := okE_size hrt.1.1
      have hsl : sumL l = sumL pre + (2 + e.f0.size + e.f1.size + sumL suf) := by rw [← hp, sumL_append, sumL]
      have hd : (encR l).1.drop (2 + sumL pre) = entB e ++ (bodyL suf ++ r) := by
        rw [hr, ← hp, bodyL_append, bodyL]
        have e1 : headP (pre ++ e :: suf) ++ (bodyL pre ++ (entB e ++ bodyL suf) ++ r) = (headP (pre ++ e :: suf) ++ bodyL pre) ++ (entB e ++ (bodyL suf ++ r)) := by simp only [List.append_assoc]
        have e2 : (headP (pre ++ e :: suf) ++ bodyL pre).length = 2 + sumL pre := by rw [List.length_append, headP_len, bodyL_len]
        rw [e1, ← e2, List.drop_left]
      obtain ⟨d1, d2, d3, d4, d5⟩ := drop_entB hd (by omega) (by omega)
      simp only [List.length_cons, decL, d1, d2, d3, d4]
      rw [if_neg (by omega), if_neg (by omega)]
      have := ih (pre ++ [e]) _ (by rw [List.append_assoc]; exact hp) hrt.2
      rw [sumL_append] at this
      simp only [sumL] at this
      rw [show 2 + sumL pre + 2 + e.f0.size + e.f1.size = 2 + (sumL pre + (2 + e.f0.size + e.f1.size + 0)) by omega]
      exact this
  have := key l [] none rfl hi.1
  simpa [sumL] using this
theorem decL_ok {b : List Int} : ∀ (m x : Nat) (ms : List E), (decL b m x ms).2 = 0 → (encR (decL b m x ms).1).2 = 0 ∧ (encR (decL b m x ms).1).1 = b
  | 0, x, ms, h => by
    simp only [decL, tailR] at h ⊢
    by_cases hc : (encR ms).2 = 0 ∧ (encR ms).1 = b
    · rw [if_pos hc]; exact hc
    · rw [if_neg hc] at h; cases h
  | m + 1, x, ms, h => by
    simp only [decL] at h ⊢
    by_cases hx : x > 250
    · rw [if_pos hx] at h; cases h
    · rw [if_neg hx] at h ⊢
      split at h
      · cases h
      · rename_i hy
        rw [if_neg hy]
        exact decL_ok m _ _ h
theorem decL_code (b : List Int) : ∀ (m x : Nat) (ms : List E), (decL b m x ms).2 = 0 ∨ (decL b m x ms) = ([], 13)
  | 0, x, ms => by
    simp only [decL, tailR]
    split
    · exact .inl rfl
    · exact .inr rfl
  | m + 1, x, ms => by
    simp only [decL]
    split
    · exact .inr rfl
    · split
      · exact .inr rfl
      · exact decL_code b m _ _
theorem decR_code (b : List Int) : (decR b).2 = 0 ∨ decR b = ([], 13) := by
  unfold decR
  split
  · exact decL_code b _ _ _
  · exact .inr rfl
theorem decR_ok {b : List Int} (h : (decR b).2 = 0) : (encR (decR b).1).2 = 0 ∧ (encR (decR b).1).1 = b := by
  unfold decR at h ⊢
  by_cases hl : b.length = 256
  · rw [if_pos hl] at h ⊢; exact decL_ok _ _ _ h
  · rw [if_neg hl] at h; cases h
theorem enc_done {l : List E} (h : (encR l).2 = 0) : regB (BitVec.allOnes 32) (encR l).1 = done := by
  have hi := encR_iff.1 h
  unfold encR
  rw [if_pos hi.1, if_neg (by omega)]
  exact reg_done _
end Go.Proofs.Ytffaggckhneakaa.At
end
section
namespace Go.Proofs.Ytffaggckhneakaa.Pr
open Go.RowKit Go.Proofs.YtffaggckhneakaaW.PrintWords Go.Proofs.YtffaggckhneakaaW.PrintLast Go.Proofs.YtffaggckhneakaaW.PrintMore
attribute [local go_sem] max2_int min2_int max_two min_two max_three min_three max_four min_four
attribute [local go_sem] Go.Proofs.Ytffaggckhneakaa.Hl.str_geq Go.Proofs.Ytffaggckhneakaa.Hl.str_gtr Go.Proofs.Ytffaggckhneakaa.Hl.str_leq
set_option linter.unusedVariables false
set_option linter.unusedSimpArgs false
mutual
def undercroftlaw13_AttrBack.j0 : Nat → Int → Int → List Int → Bool → Option (Bool)
  | 0, _, _, _, _ => none
  | k + 1, x1, x2, x7, x44 => if x44 = true then (some false) else (undercroftlaw13_AttrBack.l0 k x2 x7 (wrap64 (Int.tmod (IntKind.u64.wrap (x1)) 2048)) false 0)
def undercroftlaw13_AttrBack.l0 : Nat → Int → List Int → Int → Bool → Int → Option (Bool)
  | 0, _, _, _, _, _ => none
  | k + 1, x2, x7, x11, x12, x13 => if x13 < 32 then (if 0 ≤ x13 then (if (Go.bits .and .u32 (shr .u32 x2 x13) 1) = 1 then (if (wrap64 (x11 + x13)) < 2048 then (if 0 ≤ (wrap64 (Int.tdiv (wrap64 (x11 + x13)) 8)) then (if (wrap64 (Int.tdiv (wrap64 (x11 + x13)) 8)) < (x7.length : Int) then (if 0 ≤ (Int.tmod (wrap64 (x11 + x13)) 8) then (undercroftlaw13_AttrBack.l0 k x2 (x7.set ((wrap64 (Int.tdiv (wrap64 (x11 + x13)) 8)) : Int).toNat (Go.bits .xor .u8 (rd x7 (wrap64 (Int.tdiv (wrap64 (x11 + x13)) 8))) (shl .u8 1 (Int.tmod (wrap64 (x11 + x13)) 8)))) x11 true (wrap64 (x13 + 1))) else (none)) else (none)) else (none)) else (undercroftlaw13_AttrBack.l0 k x2 x7 x11 x12 (wrap64 (x13 + 1)))) else (undercroftlaw13_AttrBack.l0 k x2 x7 x11 x12 (wrap64 (x13 + 1)))) else (none)) else ((attr_Decode.f k x7).bind fun bt537 => (some ((bt537.2 == 13) == x12)))
end
def undercroftlaw13_AttrBack.f (k : Nat) (l0 : List (S26)) (a1 : Int) (a2 : Int) : Option (Bool) := (undercroftlaw13_alive.f k).bind fun t525 => (if t525 = true then ((attr_Encode.f k l0).bind fun bt526 => (if bt526.2 = 0 then ((attr_Decode.f k bt526.1).bind fun bt530 => (if bt530.2 = 0 then ((undercroftref13_Same.f k l0 bt530.1).bind fun t534 => (if t534 = true then (undercroftlaw13_AttrBack.j0 k a1 a2 bt526.1 ((bt526.1.length : Int) != 256)) else (undercroftlaw13_AttrBack.j0 k a1 a2 bt526.1 true))) else (undercroftlaw13_AttrBack.j0 k a1 a2 bt526.1 true))) else (some ((bt526.1.length : Int) == 0)))) else (some false))
def undercroftlaw13_AttrBack.T16 : Bool × List (List Nat × List Nat) := (true, [([], []), ([], []), ([1], [1]), ([0, 2], [0, 2]), ([3], [3]), ([], []), ([5], [5]), ([6], [6]), ([4, 7], [4, 7]), ([0, 2, 0, 1, 2, 3, 4, 5, 6, 7, 8], [0, 2]), ([9, 8, 0, 1, 2, 3, 4, 5, 6, 7, 8], [8, 9])])
def undercroftlaw13_AttrBack.B16 : List Nat := [0, 0, 2, 7, 15, 0, 32, 96, 255, 511, 1023]
theorem undercroftlaw13_AttrBack.tab16 : rtab .any (opsOf Try.f12 16) = undercroftlaw13_AttrBack.T16 := by kernel_rfl
theorem undercroftlaw13_AttrBack.bits16 : waitsOk undercroftlaw13_AttrBack.T16.2 undercroftlaw13_AttrBack.B16 = true := by kernel_rfl
set_option maxHeartbeats 8000000 in
set_option maxRecDepth 100000 in
theorem undercroftlaw13_AttrBack.calls (k : Nat) (A0 : Option Addr) (c0 : Nat) (l0 : List (S26)) (a1 : Int) (a2 : Int) (r : Bool) (w : World) (hr0 : Kd.C k26 w A0 l0.length l0) (hc0 : l0.length ≤ c0) (h : undercroftlaw13_AttrBack.f k l0 a1 a2 = some r) :
    Calls Try.prog 12 #[.slice A0 l0.length c0, .int .i64 a1, .int .u32 a2] w fun e w' => e = .returned (.bool r) ∧ Below w.heap.size w w' := by
  have HR0 := Aside0.mk hr0
  have HC0 := Aside0.mk hc0
  clear hr0 hc0
  have HB := Aside0.mk (Below.refl w.heap.size w)
  have H : ((undercroftlaw13_alive.f k).bind fun t525 => (if t525 = true then ((attr_Encode.f k l0).bind fun bt526 => (if bt526.2 = 0 then ((attr_Decode.f k bt526.1).bind fun bt530 => (if bt530.2 = 0 then ((undercroftref13_Same.f k l0 bt530.1).bind fun t534 => (if t534 = true then (undercroftlaw13_AttrBack.j0 k a1 a2 bt526.1 ((bt526.1.length : Int) != 256)) else (undercroftlaw13_AttrBack.j0 k a1 a2 bt526.1 true))) else (undercroftlaw13_AttrBack.j0 k a1 a2 bt526.1 true))) else (some ((bt526.1.length : Int) == 0)))) else (some false))) = some r := h
  clear h
  replace H := Option.bind_eq_some_iff.mp H
  obtain ⟨t525, A40, H⟩ := H
  replace H : (if t525 = true then ((attr_Encode.f k l0).bind fun bt526 => (if bt526.2 = 0 then ((attr_Decode.f k bt526.1).bind fun bt530 => (if bt530.2 = 0 then ((undercroftref13_Same.f k l0 bt530.1).bind fun t534 => (if t534 = true then (undercroftlaw13_AttrBack.j0 k a1 a2 bt526.1 ((bt526.1.length : Int) != 256)) else (undercroftlaw13_AttrBack.j0 k a1 a2 bt526.1 true))) else (undercroftlaw13_AttrBack.j0 k a1 a2 bt526.1 true))) else (some ((bt526.1.length : Int) == 0)))) else (some false)) = some r := H
  have A4 := Aside0.mk A40
  clear A40
  by_cases c5 : t525 = true
  · subst c5
    have H1 : ((attr_Encode.f k l0).bind fun bt526 => (if bt526.2 = 0 then ((attr_Decode.f k bt526.1).bind fun bt530 => (if bt530.2 = 0 then ((undercroftref13_Same.f k l0 bt530.1).bind fun t534 => (if t534 = true then (undercroftlaw13_AttrBack.j0 k a1 a2 bt526.1 ((bt526.1.length : Int) != 256)) else (undercroftlaw13_AttrBack.j0 k a1 a2 bt526.1 true))) else (undercroftlaw13_AttrBack.j0 k a1 a2 bt526.1 true))) else (some ((bt526.1.length : Int) == 0)))) = some r := by rw [if_pos rfl] at H; exact H
    clear H
    have H := H1
    clear H1
    replace H := Option.bind_eq_some_iff.mp H
    obtain ⟨⟨t526, t527⟩, A60, H⟩ := H
    replace H : (if t527 = 0 then ((attr_Decode.f k t526).bind fun bt530 => (if bt530.2 = 0 then ((undercroftref13_Same.f k l0 bt530.1).bind fun t534 => (if t534 = true then (undercroftlaw13_AttrBack.j0 k a1 a2 t526 ((t526.length : Int) != 256)) else (undercroftlaw13_AttrBack.j0 k a1 a2 t526 true))) else (undercroftlaw13_AttrBack.j0 k a1 a2 t526 true))) else (some ((t526.length : Int) == 0))) = some r := H
    have A6 := Aside0.mk A60
    clear A60
    by_cases c7 : t527 = 0
    · rw [if_pos c7] at H
      have c7b0 : (t527 == 0) = true := beq_iff_eq.mpr c7
      have c7b1 : (t527 != 0) = false := bne_eq_false_iff_eq.mpr c7
      clear c7
      replace H := Option.bind_eq_some_iff.mp H
      obtain ⟨⟨t530, t531⟩, A80, H⟩ := H
      replace H : (if t531 = 0 then ((undercroftref13_Same.f k l0 t530).bind fun t534 => (if t534 = true then (undercroftlaw13_AttrBack.j0 k a1 a2 t526 ((t526.length : Int) != 256)) else (undercroftlaw13_AttrBack.j0 k a1 a2 t526 true))) else (undercroftlaw13_AttrBack.j0 k a1 a2 t526 true)) = some r := H
      have A8 := Aside0.mk A80
      clear A80
      have HC9 := Aside0.mk H
      clear H
      go_enter Try.func12, Try.ntmps12
      go_upto_region 7 with (first | ((with_reducible refine gate_callee (f := 13) rfl ?_); refine goesL_ (some 15) rfl rfl Try.func13 (by kernel_rfl) rfl #[] rfl (by (try simp only [List.map_toArray, List.map_cons, List.map_nil]); first | done | rfl | (simp only [List.length_drop, List.length_take]; rfl)) ?_; (with_reducible refine (undercroftlaw13_alive.calls k  true _ A4.out).mono ?_); rintro e w10 ⟨rfl, hb⟩; refine ⟨_, rfl, ?_⟩; have n0_ := Aside0.mk (below_step (by repeat (first | (with_reducible first | exact HB.out | apply below_alloc | apply pw_below_drewN | apply below_drew1) | exact HB.out)) hb); clear HB; have HB := n0_; clear n0_; (try clear hb); (try clear hb2); (try clear hk); (try clear hi)) | ((with_reducible refine gate_callee (f := 21) rfl ?_); refine goesL_ (some 19) rfl rfl Try.func21 (by kernel_rfl) rfl #[.slice A0 l0.length c0] rfl (by (try simp only [List.map_toArray, List.map_cons, List.map_nil]); first | done | rfl | (simp only [List.length_drop, List.length_take]; rfl)) ?_; (with_reducible refine (attr_Encode.calls k _ _ l0 t526 t527 _ ?side1 ?side2 A6.out).mono ?_); (case side1 => repeat (first | exact (Kd.C_below HR0.out HB.out) | (with_reducible refine Kd.C_alloc ?_ _) | (with_reducible refine Kd.C_drewN ?_ _) | (with_reducible refine Kd.C_drew ?_))); (case side2 => exact HC0.out); rintro e w11 ⟨v528, rfl, ho0, hb⟩; refine ⟨_, rfl, ?_⟩; have n0_ := Aside0.mk (Kd.R_lower ho0 (below_size (by repeat (first | (with_reducible first | exact HB.out | apply below_alloc | apply pw_below_drewN | apply below_drew1) | exact HB.out)))); have n1_ := Aside0.mk (below_step (by repeat (first | (with_reducible first | exact HB.out | apply below_alloc | apply pw_below_drewN | apply below_drew1) | exact HB.out)) hb); clear HB; have HO529 := n0_; have HB := n1_; clear n0_ n1_; (try clear hb); (try clear hb2); (try clear hk); (try clear hi); (try clear ho0); obtain ⟨Ao12, co12, eo12⟩ := Kd.R_slice HO529.out; subst eo12) | ((with_reducible refine gate_callee (f := 33) rfl ?_); refine goesL_ (some 29) rfl rfl Try.func33 (by kernel_rfl) rfl #[.slice Ao12 t526.length co12] rfl (by (try simp only [List.map_toArray, List.map_cons, List.map_nil]); first | done | rfl | (simp only [List.length_drop, List.length_take]; rfl)) ?_; (with_reducible refine (attr_Decode.calls k _ _ t526 t530 t531 _ ?side1 ?side2 A8.out).mono ?_); (case side1 => repeat (first | exact (Kd.R_reads' HO529.out).2.2 | (with_reducible refine Kd.C_alloc ?_ _) | (with_reducible refine Kd.C_drewN ?_ _) | (with_reducible refine Kd.C_drew ?_))); (case side2 => exact (Kd.R_reads' HO529.out).2.1); rintro e w13 ⟨v532, rfl, ho0, hb⟩; refine ⟨_, rfl, ?_⟩; have n0_ := Aside0.mk (Kd.R_below (by (with_reducible repeat (first | apply Kd.R_alloc | apply Kd.R_drewN | apply Kd.R_drew)); exact HO529.out) hb); have n1_ := Aside0.mk (Kd.R_lower ho0 (below_size (by repeat (first | (with_reducible first | exact HB.out | apply below_alloc | apply pw_below_drewN | apply below_drew1) | exact HB.out)))); have n2_ := Aside0.mk (below_step (by repeat (first | (with_reducible first | exact HB.out | apply below_alloc | apply pw_below_drewN | apply below_drew1) | exact HB.out)) hb); clear HO529; clear HB; have HO529 := n0_; have HO533 := n1_; have HB := n2_; clear n0_ n1_ n2_; (try clear hb); (try clear hb2); (try clear hk); (try clear hi); (try clear ho0)))
      (try simp only [Act.put, List.setIfInBounds_toArray, List.set_cons_zero, List.set_cons_succ])
      go_cut [44] (fun v44 wc => ∃ (kq : Nat) (x44_8 : Bool), v44 = .bool x44_8 ∧ Aside0 (undercroftlaw13_AttrBack.j0 kq a1 a2 t526 x44_8 = some r) ∧ Aside0 (kq ≤ k) ∧ Aside0 (Kd.R (Kd.int .u8) 5 wc w.heap.size (fun _ => True) (.slice Ao12 t526.length co12) t526) ∧ Aside0 (Below w.heap.size w wc))
      case first =>
        have H := HC9.out
        clear HC9
        by_cases c14 : t531 = 0
        · rw [if_pos c14] at H
          have c14b0 : (t531 == 0) = true := beq_iff_eq.mpr c14
          have c14b1 : (t531 != 0) = false := bne_eq_false_iff_eq.mpr c14
          clear c14
          (first | rw [c14b0] | (simp only [i64_w, i32_w]; rw [c14b0]) | skip)
          replace H := Option.bind_eq_some_iff.mp H
          obtain ⟨t534, A150, H⟩ := H
          replace H : (if t534 = true then (undercroftlaw13_AttrBack.j0 k a1 a2 t526 ((t526.length : Int) != 256)) else (undercroftlaw13_AttrBack.j0 k a1 a2 t526 true)) = some r := H
          have A15 := Aside0.mk A150
          clear A150
          by_cases c16 : t534 = true
          · subst c16
            have H1 : (undercroftlaw13_AttrBack.j0 k a1 a2 t526 ((t526.length : Int) != 256)) = some r := by rw [if_pos rfl] at H; exact H
            clear H
            have H := H1
            clear H1
            have H' := Aside0.mk H
            clear H
            obtain ⟨Ao17, co17, eo17⟩ := Kd.R_slice HO533.out
            subst eo17
            go_wp2_with (first | (go_at_call 15; (with_reducible refine (undercroftref13_Same.calls k _ _ l0 _ _ t530 true _ ?side1 ?side2 ?side3 ?side4 A15.out).mono ?_); (case side1 => repeat (first | exact (Kd.C_below HR0.out HB.out) | (with_reducible refine Kd.C_alloc ?_ _) | (with_reducible refine Kd.C_drewN ?_ _) | (with_reducible refine Kd.C_drew ?_))); (case side2 => exact HC0.out); (case side3 => repeat (first | exact (Kd.R_reads' HO533.out).2.2 | (with_reducible refine Kd.C_alloc ?_ _) | (with_reducible refine Kd.C_drewN ?_ _) | (with_reducible refine Kd.C_drew ?_))); (case side4 => exact (Kd.R_reads' HO533.out).2.1); rintro e w' ⟨rfl, ⟨nd, rfl⟩⟩))
            go_meet
            case rel => exact ⟨_, (((t526.length : Int) != 256)), (by first | rfl | (simp; done) | (simp [*]; done)), H', ⟨by first | omega | exact Nat.le_refl _⟩, ⟨by (with_reducible repeat (first | apply Kd.R_alloc | apply Kd.R_drewN | apply Kd.R_drew)); exact HO529.out⟩, ⟨by repeat (first | (with_reducible first | exact HB.out | apply below_alloc | apply pw_below_drewN | apply below_drew1) | exact HB.out)⟩⟩
          · replace c16 := Bool.eq_false_iff.mpr c16
            subst c16
            have H1 : (undercroftlaw13_AttrBack.j0 k a1 a2 t526 true) = some r := by rw [if_neg (show ¬ (false = true) by decide)] at H; exact H
            clear H
            have H := H1
            clear H1
            have H' := Aside0.mk H
            clear H
            obtain ⟨Ao18, co18, eo18⟩ := Kd.R_slice HO533.out
            subst eo18
            go_wp2_with (first | (go_at_call 15; (with_reducible refine (undercroftref13_Same.calls k _ _ l0 _ _ t530 false _ ?side1 ?side2 ?side3 ?side4 A15.out).mono ?_); (case side1 => repeat (first | exact (Kd.C_below HR0.out HB.out) | (with_reducible refine Kd.C_alloc ?_ _) | (with_reducible refine Kd.C_drewN ?_ _) | (with_reducible refine Kd.C_drew ?_))); (case side2 => exact HC0.out); (case side3 => repeat (first | exact (Kd.R_reads' HO533.out).2.2 | (with_reducible refine Kd.C_alloc ?_ _) | (with_reducible refine Kd.C_drewN ?_ _) | (with_reducible refine Kd.C_drew ?_))); (case side4 => exact (Kd.R_reads' HO533.out).2.1); rintro e w' ⟨rfl, ⟨nd, rfl⟩⟩))
            go_meet
            case rel => exact ⟨_, (true), (by first | rfl | (simp; done) | (simp [*]; done)), H', ⟨by first | omega | exact Nat.le_refl _⟩, ⟨by (with_reducible repeat (first | apply Kd.R_alloc | apply Kd.R_drewN | apply Kd.R_drew)); exact HO529.out⟩, ⟨by repeat (first | (with_reducible first | exact HB.out | apply below_alloc | apply pw_below_drewN | apply below_drew1) | exact HB.out)⟩⟩
        · rw [if_neg c14] at H
          have c14b0 : (t531 == 0) = false := beq_eq_false_iff_ne.mpr c14
          have c14b1 : (t531 != 0) = true := bne_iff_ne.mpr c14
          (first | rw [c14b0] | (simp only [i64_w, i32_w]; rw [c14b0]) | skip)
          have H' := Aside0.mk H
          clear H
          go_wp2
          go_meet
          case rel => exact ⟨_, (true), (by first | rfl | (simp; done) | (simp [*]; done)), H', ⟨by first | omega | exact Nat.le_refl _⟩, ⟨by (with_reducible repeat (first | apply Kd.R_alloc | apply Kd.R_drewN | apply Kd.R_drew)); exact HO529.out⟩, ⟨by repeat (first | (with_reducible first | exact HB.out | apply below_alloc | apply pw_below_drewN | apply below_drew1) | exact HB.out)⟩⟩
      case rest =>
        clear HC9
        try clear c1
        try clear c2
        try clear p2
        try clear c3
        try clear c5
        try clear c7
        try clear c7b0
        try clear c7b1
        try clear c12
        try clear c13
        try clear c14
        try clear c14b0
        try clear c14b1
        try clear c16
        obtain ⟨kq, x44_8, rfl, HA, HJ8, HO_7, HB⟩ := hcut
        cases kq with
        | zero => exact absurd HA.out (by intro h_; cases h_)
        | succ kj8 =>
          have H := HA.out
          clear HA
          simp only [undercroftlaw13_AttrBack.j0] at H
          by_cases c19 : x44_8 = true
          · subst c19
            have H1 : (some false) = some r := by rw [if_pos rfl] at H; exact H
            clear H
            have H := H1
            clear H1
            obtain rfl := Option.some.inj H
            go_wp2
            go_ret
            exact ⟨by first | rfl | (simp [errW_none, errW_some] <;> rfl) | (simp [*, errW_none, errW_some] <;> rfl), by repeat (first | (with_reducible first | exact HB.out | apply below_alloc | apply pw_below_drewN | apply below_drew1) | exact HB.out)⟩
          · replace c19 := Bool.eq_false_iff.mpr c19
            subst c19
            have H1 : (undercroftlaw13_AttrBack.l0 kj8 a2 t526 (wrap64 (Int.tmod (IntKind.u64.wrap (a1)) 2048)) false 0) = some r := by rw [if_neg (show ¬ (false = true) by decide)] at H; exact H
            clear H
            have H := H1
            clear H1
            have H' := Aside0.mk H
            clear H
            go_wp2
            go_loopg [12, 13] kj8 (fun kq v12 v13 w' => ∃ (x7_2 : List Int) (x12_2 : Bool) (x13_2 : Int), v12 = .bool x12_2 ∧ v13 = .int .i64 x13_2 ∧ Aside0 (undercroftlaw13_AttrBack.l0 kq a2 x7_2 (wrap64 (Int.tmod (IntKind.u64.wrap (a1)) 2048)) x12_2 x13_2 = some r) ∧ Aside0 (kq ≤ kj8) ∧ Aside0 (Kd.R (Kd.int .u8) 5 w' w.heap.size (fun _ => True) (.slice Ao12 t526.length co12) x7_2) ∧ Aside0 (Below w.heap.size w w'))
            case atStart => exact ⟨(t526), (false), (0), (by first | rfl | (simp; done) | (simp [*]; done)), (by first | rfl | (simp; done) | (simp [*]; done)), H', ⟨Nat.le_refl _⟩, ⟨by (with_reducible repeat (first | apply Kd.R_alloc | apply Kd.R_drewN | apply Kd.R_drew)); exact HO_7.out⟩, ⟨by repeat (first | (with_reducible first | exact HB.out | apply below_alloc | apply pw_below_drewN | apply below_drew1) | exact HB.out)⟩⟩
            case round =>
              clear H'
              try clear c1
              try clear c2
              try clear p2
              try clear c3
              try clear c5
              try clear p6
              try clear c7
              try clear c7b0
              try clear c7b1
              try clear c12
              try clear c13
              try clear c14
              try clear c14b0
              try clear c14b1
              try clear c16
              try clear c19
              try clear p2
              obtain ⟨x7_2, x12_2, x13_2, rfl, rfl, HA, HK2, HO_7, HB⟩ := hrel
              have hl7_2 := (Kd.R_reads' HO_7.out).1
              rw [hl7_2] at HO_7
              (try simp only [hl7_2])
              cases gk with
              | zero => exact absurd HA.out (by intro h_; cases h_)
              | succ k2 =>
                have H := HA.out
                clear HA
                simp only [undercroftlaw13_AttrBack.l0] at H
                by_cases c20 : x13_2 < 32
                · rw [if_pos c20] at H
                  have c20b0 : decide (x13_2 < 32) = true := decide_eq_true c20
                  clear c20
                  by_cases c21 : 0 ≤ x13_2
                  · rw [if_pos c21] at H
                    have c21b0 := eq_true c21
                    have c21b1 : decide (0 ≤ x13_2) = true := decide_eq_true c21
                    clear c21
                    obtain ⟨ji22, hji22⟩ : ∃ j_ : Int, (shr .u32 a2 x13_2) = j_ := ⟨_, rfl⟩
                    replace H : (if (Go.bits .and .u32 (ji22) 1) = 1 then (if (wrap64 ((wrap64 (Int.tmod (IntKind.u64.wrap (a1)) 2048)) + x13_2)) < 2048 then (if 0 ≤ (wrap64 (Int.tdiv (wrap64 ((wrap64 (Int.tmod (IntKind.u64.wrap (a1)) 2048)) + x13_2)) 8)) then (if (wrap64 (Int.tdiv (wrap64 ((wrap64 (Int.tmod (IntKind.u64.wrap (a1)) 2048)) + x13_2)) 8)) < (x7_2.length : Int) then (if 0 ≤ (Int.tmod (wrap64 ((wrap64 (Int.tmod (IntKind.u64.wrap (a1)) 2048)) + x13_2)) 8) then (undercroftlaw13_AttrBack.l0 k2 a2 (x7_2.set ((wrap64 (Int.tdiv (wrap64 ((wrap64 (Int.tmod (IntKind.u64.wrap (a1)) 2048)) + x13_2)) 8)) : Int).toNat (Go.bits .xor .u8 (rd x7_2 (wrap64 (Int.tdiv (wrap64 ((wrap64 (Int.tmod (IntKind.u64.wrap (a1)) 2048)) + x13_2)) 8))) (shl .u8 1 (Int.tmod (wrap64 ((wrap64 (Int.tmod (IntKind.u64.wrap (a1)) 2048)) + x13_2)) 8)))) (wrap64 (Int.tmod (IntKind.u64.wrap (a1)) 2048)) true (wrap64 (x13_2 + 1))) else (none)) else (none)) else (none)) else (undercroftlaw13_AttrBack.l0 k2 a2 x7_2 (wrap64 (Int.tmod (IntKind.u64.wrap (a1)) 2048)) x12_2 (wrap64 (x13_2 + 1)))) else (undercroftlaw13_AttrBack.l0 k2 a2 x7_2 (wrap64 (Int.tmod (IntKind.u64.wrap (a1)) 2048)) x12_2 (wrap64 (x13_2 + 1)))) = some r := by first | (rw [hji22] at H; exact H) | (simp only [hji22] at H ⊢; exact H)
                    have hji22_ : (a2 / 2 ^ min x13_2.toNat 32) = ji22 := hji22
                    have hji22z : x13_2 ≤ 32 → (a2 / 2 ^ x13_2.toNat) = ji22 := shr_small hji22
                    by_cases c23 : (Go.bits .and .u32 (ji22) 1) = 1
                    · rw [if_pos c23] at H
                      have c23b0 : ((Go.bits .and .u32 (ji22) 1) == 1) = true := beq_iff_eq.mpr c23
                      have c23b1 : ((Go.bits .and .u32 (ji22) 1) != 1) = false := bne_eq_false_iff_eq.mpr c23
                      clear c23
                      by_cases c24 : (wrap64 ((wrap64 (Int.tmod (IntKind.u64.wrap (a1)) 2048)) + x13_2)) < 2048
                      · rw [if_pos c24] at H
                        have c24b0 : decide ((wrap64 ((wrap64 (Int.tmod (IntKind.u64.wrap (a1)) 2048)) + x13_2)) < 2048) = true := decide_eq_true c24
                        clear c24
                        obtain ⟨ji25, hji25⟩ : ∃ j_ : Int, (wrap64 (Int.tdiv (wrap64 ((wrap64 (Int.tmod (IntKind.u64.wrap (a1)) 2048)) + x13_2)) 8)) = j_ := ⟨_, rfl⟩
                        replace H : (if 0 ≤ (ji25) then (if (ji25) < (x7_2.length : Int) then (if 0 ≤ (Int.tmod (wrap64 ((wrap64 (Int.tmod (IntKind.u64.wrap (a1)) 2048)) + x13_2)) 8) then (undercroftlaw13_AttrBack.l0 k2 a2 (x7_2.set ((ji25) : Int).toNat (Go.bits .xor .u8 (rd x7_2 (ji25)) (shl .u8 1 (Int.tmod (wrap64 ((wrap64 (Int.tmod (IntKind.u64.wrap (a1)) 2048)) + x13_2)) 8)))) (wrap64 (Int.tmod (IntKind.u64.wrap (a1)) 2048)) true (wrap64 (x13_2 + 1))) else (none)) else (none)) else (none)) = some r := by first | (rw [hji25] at H; exact H) | (simp only [hji25] at H ⊢; exact H)
                        have hji25w : (IntKind.i64.wrap (Int.tdiv (wrap64 ((wrap64 (Int.tmod (IntKind.u64.wrap (a1)) 2048)) + x13_2)) 8)) = ji25 := (i64_w _).trans hji25
                        (try rw [hji25] at c7b0)
                        (try rw [hji25] at c7b1)
                        (try rw [hji25] at c20b0)
                        (try rw [hji25] at c21b0)
                        (try rw [hji25] at c21b1)
                        (try rw [hji25] at c23b0)
                        (try rw [hji25] at c23b1)
                        (try rw [hji25] at c24b0)
                        by_cases c26 : 0 ≤ (ji25)
                        · rw [if_pos c26] at H
                          have c26b0 : decide (0 ≤ (ji25)) = true := decide_eq_true c26
                          clear c26
                          by_cases c27 : (ji25) < (x7_2.length : Int)
                          · rw [if_pos c27] at H
                            have c27b0 : decide ((ji25) < (x7_2.length : Int)) = true := decide_eq_true c27
                            clear c27
                            obtain ⟨ji28, hji28⟩ : ∃ j_ : Int, (Int.tmod (wrap64 ((wrap64 (Int.tmod (IntKind.u64.wrap (a1)) 2048)) + x13_2)) 8) = j_ := ⟨_, rfl⟩
                            replace H : (if 0 ≤ (ji28) then (undercroftlaw13_AttrBack.l0 k2 a2 (x7_2.set ((ji25) : Int).toNat (Go.bits .xor .u8 (rd x7_2 (ji25)) (shl .u8 1 (ji28)))) (wrap64 (Int.tmod (IntKind.u64.wrap (a1)) 2048)) true (wrap64 (x13_2 + 1))) else (none)) = some r := by first | (rw [hji28] at H; exact H) | (simp only [hji28] at H ⊢; exact H)
                            by_cases c29 : 0 ≤ (ji28)
                            · rw [if_pos c29] at H
                              have c29b0 := eq_true c29
                              have c29b1 : decide (0 ≤ (ji28)) = true := decide_eq_true c29
                              clear c29
                              obtain ⟨ji30, hji30⟩ : ∃ j_ : Int, (shl .u8 1 (ji28)) = j_ := ⟨_, rfl⟩
                              replace H : (undercroftlaw13_AttrBack.l0 k2 a2 (x7_2.set ((ji25) : Int).toNat (Go.bits .xor .u8 (rd x7_2 (ji25)) (ji30))) (wrap64 (Int.tmod (IntKind.u64.wrap (a1)) 2048)) true (wrap64 (x13_2 + 1))) = some r := by first | (rw [hji30] at H; exact H) | (simp only [hji30] at H ⊢; exact H)
                              have hji30_ : (IntKind.u8.wrap (1 * 2 ^ min (ji28).toNat 8)) = ji30 := hji30
                              have hji30z : (ji28) ≤ 8 → (IntKind.u8.wrap (1 * 2 ^ (ji28).toNat)) = ji30 := shl_small hji30
                              have hji30u : (IntKind.u8.wrap (2 ^ min (ji28).toNat 8)) = ji30 := by have h_ := hji30_; rw [Int.one_mul] at h_; exact h_
                              have hji30v : (ji28) ≤ 8 → (IntKind.u8.wrap (2 ^ (ji28).toNat)) = ji30 := fun hle_ => by have h_ := hji30z hle_; rw [Int.one_mul] at h_; exact h_
                              obtain ⟨y536, hy536⟩ : ∃ y_ : List Int, y_ = (x7_2.set ((ji25) : Int).toNat (Go.bits .xor .u8 (rd x7_2 (ji25)) (ji30))) := ⟨_, rfl⟩
                              replace H : (undercroftlaw13_AttrBack.l0 k2 a2 y536 (wrap64 (Int.tmod (IntKind.u64.wrap (a1)) 2048)) true (wrap64 (x13_2 + 1))) = some r := by first | (rw [hy536]; with_reducible exact H) | (have H2_ := (Option.bind_some _ _).symm.trans H; rw [hy536]; with_reducible exact H2_) | (have H2_ := (Option.bind_some _ _).symm.trans H; with_reducible exact H2_) | with_reducible exact H | (rw [hy536]; exact H) | exact H
                              have Ny536 := Aside0.mk hy536
                              clear hy536
                              have H' := Aside0.mk H
                              clear H
                              try go_wp2
                              have n0_ := Aside0.mk (Kd.R_drew HO_7.out)
                              have n1_ := Aside0.mk (below_drew1 HB.out)
                              clear HO_7
                              clear HB
                              have HO_7 := n0_
                              have HB := n1_
                              clear n0_ n1_
                              have p535 : 0 ≤ ((ji25) : Int) := of_decide_eq_true (by first | (with_reducible assumption) | assumption)
                              have q535 : (ji25) < (x7_2.length : Int) := of_decide_eq_true (by first | (with_reducible assumption) | assumption)
                              obtain ⟨ad535, e535, hx535_0⟩ := Kd.at_int (Kd.R_reads' HO_7.out).2.2 (ji25) p535 q535
                              cases e535
                              replace p535 := eq_true p535
                              replace q535 := eq_true q535
                              have p31 : 0 ≤ ((ji25) : Int) := of_decide_eq_true (by first | (with_reducible assumption) | assumption)
                              have q31 : ((ji25) : Int) < ((x7_2.length : Int) : Int) := of_decide_eq_true (by first | (with_reducible assumption) | assumption)
                              obtain ⟨go31, co31, eo31, gb31, gl31, cl31, HG31⟩ := Kd.R_form HO_7.out (by omega)
                              (first | cases eo31 | (injection eo31 with ea_ en_ ec_; (first | subst ea_ | (injection ea_ with ea_; subst ea_)); subst ec_; clear en_))
                              have GB31 := Aside0.mk gb31
                              have GG31 := Aside0.mk HG31
                              clear gb31 gl31 HG31
                              (first | simp only [add_plain] at hx535_0 | skip)
                              obtain ⟨hx31_0, hf31_0⟩ := Kd.R_celln 0 HO_7.out ((ji25) : Int) p31 q31
                              replace p31 := eq_true p31
                              replace q31 := eq_true q31
                              have HP33 := Kd.R_putn HO_7.out ((ji25) : Int) (Go.bits .xor .u8 (rd x7_2 (ji25)) (ji30))
                              rw [← Ny536.out] at HP33
                              have HQ33 := Aside0.mk HP33
                              clear HP33
                              refine start_ (n := 11) (S := fun w' => w'.cell? ⟨go31, ((ji25)).toNat, none⟩ = some (.int .u8 (rd x7_2 (ji25)))) (ds := [10]) #[false, false, false, false, false, false, false, false, false, false, false] (by kernel_rfl) rfl rfl (hx535_0) (fun hHeld => ?_); refine with_tabW undercroftlaw13_AttrBack.tab16 undercroftlaw13_AttrBack.bits16 (fun HT_ HW_ => ?_)
                              generalize wr.drew = w32 at HO_7 HB GG31 HQ33 hf31_0 hx31_0 hx535_0 hHeld ⊢
                              refine pure_ (i := 0) (N := some 65) (v := ?_) (a' := ?_) #[true, false, false, false, false, false, false, false, false, false, false] rfl rfl (any_of HT_.out (by kernel_rfl)) (fun _ _ _ h => h) (Or.inl ⟨by rfl, ?_⟩) ?_ ?_
                              rotate_left
                              · intro w'
                                go_simp
                                with_reducible rfl
                              rotate_left
                              · simp only [Act.put, List.setIfInBounds_toArray, List.set_cons_zero, List.set_cons_succ, i64_w, i32_w]
                                rfl
                              refine pure_ (i := 1) (N := some 66) (v := ?_) (a' := ?_) #[true, true, false, false, false, false, false, false, false, false, false] rfl rfl (any_of HT_.out (by kernel_rfl)) (fun _ _ _ h => h) (Or.inl ⟨by rfl, ?_⟩) ?_ ?_
                              rotate_left
                              · intro w'
                                go_simp
                                with_reducible rfl
                              rotate_left
                              · simp only [Act.put, List.setIfInBounds_toArray, List.set_cons_zero, List.set_cons_succ, i64_w, i32_w]
                                rfl
                              refine pure_ (i := 2) (N := some 67) (v := ?_) (a' := ?_) #[true, true, true, false, false, false, false, false, false, false, false] rfl rfl (any_of HT_.out (by kernel_rfl)) (fun _ _ _ h => h) (Or.inl ⟨by rfl, ?_⟩) ?_ ?_
                              rotate_left
                              · intro w'
                                go_simp
                                with_reducible rfl
                              rotate_left
                              · simp only [Act.put, List.setIfInBounds_toArray, List.set_cons_zero, List.set_cons_succ, i64_w, i32_w]
                                rfl
                              refine pure_ (i := 3) (N := some 68) (v := ?_) (a' := ?_) #[true, true, true, true, false, false, false, false, false, false, false] rfl rfl (any_of HT_.out (by kernel_rfl)) (fun _ _ _ h => h) (Or.inl ⟨by rfl, ?_⟩) ?_ ?_
                              rotate_left
                              · intro w'
                                go_simp
                                with_reducible rfl
                              rotate_left
                              · simp only [Act.put, List.setIfInBounds_toArray, List.set_cons_zero, List.set_cons_succ, i64_w, i32_w]
                                rfl
                              refine pure_ (i := 5) (N := some 70) (v := ?_) (a' := ?_) #[true, true, true, true, false, true, false, false, false, false, false] rfl rfl (any_of HT_.out (by kernel_rfl)) (fun _ _ _ h => h) (Or.inl ⟨by rfl, ?_⟩) ?_ ?_
                              rotate_left
                              · intro w'
                                go_simp
                                with_reducible rfl
                              rotate_left
                              · simp only [Act.put, List.setIfInBounds_toArray, List.set_cons_zero, List.set_cons_succ, i64_w, i32_w]
                                rfl
                              refine pure_ (i := 6) (N := some 71) (v := ?_) (a' := ?_) #[true, true, true, true, false, true, true, false, false, false, false] rfl rfl (any_of HT_.out (by kernel_rfl)) (fun _ _ _ h => h) (Or.inl ⟨by rfl, ?_⟩) ?_ ?_
                              rotate_left
                              · intro w'
                                go_simp
                                with_reducible rfl
                              rotate_left
                              · simp only [Act.put, List.setIfInBounds_toArray, List.set_cons_zero, List.set_cons_succ, i64_w, i32_w]
                                rfl
                              refine pure_ (i := 7) (N := some 72) (v := ?_) (a' := ?_) #[true, true, true, true, false, true, true, true, false, false, false] rfl rfl (any_of HT_.out (by kernel_rfl)) (fun _ _ _ h => h) (Or.inl ⟨by rfl, ?_⟩) ?_ ?_
                              rotate_left
                              · intro w'
                                go_simp
                                with_reducible rfl
                              rotate_left
                              · simp only [Act.put, List.setIfInBounds_toArray, List.set_cons_zero, List.set_cons_succ, i64_w, i32_w]
                                rfl
                              refine take_ (i := 4) (N := some 69) (v := ?_) (a' := ?_) #[true, true, true, true, true, true, true, true, false, false, false] rfl rfl (take_ofW HT_.out HW_.out (by kernel_rfl)) (fun _ _ _ h => h) (Or.inl ⟨by rfl, ?_⟩) hHeld ?_ ?_
                              rotate_left
                              · intro w' s0
                                go_simp
                                with_reducible rfl
                              rotate_left
                              · simp only [Act.put, List.setIfInBounds_toArray, List.set_cons_zero, List.set_cons_succ, i64_w, i32_w]
                                rfl
                              refine pure_ (i := 8) (N := some 73) (v := ?_) (a' := ?_) #[true, true, true, true, true, true, true, true, true, false, false] rfl rfl (any_of HT_.out (by kernel_rfl)) (fun _ _ _ h => h) (Or.inl ⟨by rfl, ?_⟩) ?_ ?_
                              rotate_left
                              · intro w'
                                go_simp
                                with_reducible rfl
                              rotate_left
                              · simp only [Act.put, List.setIfInBounds_toArray, List.set_cons_zero, List.set_cons_succ, i64_w, i32_w]
                                rfl
                              refine pure_ (i := 9) (N := some 74) (v := ?_) (a' := ?_) #[true, true, true, true, true, true, true, true, true, true, false] rfl rfl (any_of HT_.out (by kernel_rfl)) (fun _ _ _ h => h) (Or.inl ⟨by rfl, ?_⟩) ?_ ?_
                              rotate_left
                              · intro w'
                                go_simp
                                with_reducible rfl
                              rotate_left
                              · simp only [Act.put, List.setIfInBounds_toArray, List.set_cons_zero, List.set_cons_succ, i64_w, i32_w]
                                rfl
                              refine last_ (i := 10) (N := none) #[true, true, true, true, true, true, true, true, true, true, true] rfl rfl (one_of HT_.out (by kernel_rfl)) (by decide) (fun K hK => ?_)
                              refine skip_ (w1 := ?_) (by rfl) rfl ?_ ?_
                              rotate_left
                              · go_simp
                                rfl
                              refine hK.out _ _ ?_
                              clear hK K
                              refine done_ (done_of HT_.out (by kernel_rfl)) ?_
                              try go_wp2
                              (try simp only [← hl7_2])
                              go_roundg k2
                              case measure => have := HJ8.out; have := HK2.out; omega
                              case rel => exact ⟨(y536), (true), (wrap64 (x13_2 + 1)), (by first | rfl | (simp; done) | (simp [*]; done)), (by first | rfl | (simp; done) | (simp [*]; done)), H', ⟨by have := HJ8.out; have := HK2.out; omega⟩, ⟨by (try simp only [hl7_2]); (with_reducible repeat (first | apply Kd.R_alloc | apply Kd.R_drewN | apply Kd.R_drew)); exact HQ33.out⟩, ⟨by repeat (first | (with_reducible first | exact HB.out | apply below_alloc | apply pw_below_drewN | apply below_drew1 | refine below_set ?_ GB31.out) | exact HB.out)⟩⟩
                            · rw [if_neg c29] at H
                              exact absurd H (by simp)
                          · rw [if_neg c27] at H
                            exact absurd H (by simp)
                        · rw [if_neg c26] at H
                          exact absurd H (by simp)
                      · rw [if_neg c24] at H
                        have c24b0 : decide ((wrap64 ((wrap64 (Int.tmod (IntKind.u64.wrap (a1)) 2048)) + x13_2)) < 2048) = false := decide_eq_false c24
                        clear c24
                        have H' := Aside0.mk H
                        clear H
                        go_wp2
                        (try simp only [← hl7_2])
                        go_roundg k2
                        case measure => have := HJ8.out; have := HK2.out; omega
                        case rel => exact ⟨(x7_2), (x12_2), (wrap64 (x13_2 + 1)), (by first | rfl | (simp; done) | (simp [*]; done)), (by first | rfl | (simp; done) | (simp [*]; done)), H', ⟨by have := HJ8.out; have := HK2.out; omega⟩, ⟨by (try simp only [hl7_2]); (with_reducible repeat (first | apply Kd.R_alloc | apply Kd.R_drewN | apply Kd.R_drew)); exact HO_7.out⟩, ⟨by repeat (first | (with_reducible first | exact HB.out | apply below_alloc | apply pw_below_drewN | apply below_drew1) | exact HB.out)⟩⟩
                    · rw [if_neg c23] at H
                      have c23b0 : ((Go.bits .and .u32 (ji22) 1) == 1) = false := beq_eq_false_iff_ne.mpr c23
                      have c23b1 : ((Go.bits .and .u32 (ji22) 1) != 1) = true := bne_iff_ne.mpr c23
                      have H' := Aside0.mk H
                      clear H
                      go_wp2
                      (try simp only [← hl7_2])
                      go_roundg k2
                      case measure => have := HJ8.out; have := HK2.out; omega
                      case rel => exact ⟨(x7_2), (x12_2), (wrap64 (x13_2 + 1)), (by first | rfl | (simp; done) | (simp [*]; done)), (by first | rfl | (simp; done) | (simp [*]; done)), H', ⟨by have := HJ8.out; have := HK2.out; omega⟩, ⟨by (try simp only [hl7_2]); (with_reducible repeat (first | apply Kd.R_alloc | apply Kd.R_drewN | apply Kd.R_drew)); exact HO_7.out⟩, ⟨by repeat (first | (with_reducible first | exact HB.out | apply below_alloc | apply pw_below_drewN | apply below_drew1) | exact HB.out)⟩⟩
                  · rw [if_neg c21] at H
                    exact absurd H (by simp)
                · rw [if_neg c20] at H
                  have c20b0 : decide (x13_2 < 32) = false := decide_eq_false c20
                  clear c20
                  replace H := Option.bind_eq_some_iff.mp H
                  obtain ⟨⟨t537, t538⟩, A340, H⟩ := H
                  replace H : (some ((t538 == 13) == x12_2)) = some r := H
                  have A34 := Aside0.mk A340
                  clear A340
                  obtain rfl := Option.some.inj H
                  go_wp2_with (first | ((with_reducible refine gate_callee (f := 33) rfl ?_); refine goesL_ (some 77) rfl rfl Try.func33 (by kernel_rfl) rfl #[.slice Ao12 x7_2.length co12] rfl (by (try simp only [List.map_toArray, List.map_cons, List.map_nil]); first | done | rfl | (simp only [List.length_drop, List.length_take]; rfl)) ?_; (with_reducible refine (attr_Decode.calls k2 _ _ x7_2 t537 t538 _ ?side1 ?side2 A34.out).mono ?_); (case side1 => repeat (first | exact (Kd.R_reads' HO_7.out).2.2 | (with_reducible refine Kd.C_alloc ?_ _) | (with_reducible refine Kd.C_drewN ?_ _) | (with_reducible refine Kd.C_drew ?_))); (case side2 => exact (Kd.R_reads' HO_7.out).2.1); rintro e w35 ⟨v539, rfl, ho0, hb⟩; refine ⟨_, rfl, ?_⟩; have n0_ := Aside0.mk (Kd.R_below (by (with_reducible repeat (first | apply Kd.R_alloc | apply Kd.R_drewN | apply Kd.R_drew)); exact HO_7.out) hb); have n1_ := Aside0.mk (Kd.R_lower ho0 (below_size (by repeat (first | (with_reducible first | exact HB.out | apply below_alloc | apply pw_below_drewN | apply below_drew1) | exact HB.out)))); have n2_ := Aside0.mk (below_step (by repeat (first | (with_reducible first | exact HB.out | apply below_alloc | apply pw_below_drewN | apply below_drew1) | exact HB.out)) hb); clear HO_7; clear HB; have HO_7 := n0_; have HO540 := n1_; have HB := n2_; clear n0_ n1_ n2_; (try clear hb); (try clear hb2); (try clear hk); (try clear hi); (try clear ho0)))
                  go_ret
                  exact ⟨by first | rfl | (simp [errW_none, errW_some] <;> rfl) | (simp [*, errW_none, errW_some] <;> rfl), by repeat (first | (with_reducible first | exact HB.out | apply below_alloc | apply pw_below_drewN | apply below_drew1) | exact HB.out)⟩
    · rw [if_neg c7] at H
      have c7b0 : (t527 == 0) = false := beq_eq_false_iff_ne.mpr c7
      have c7b1 : (t527 != 0) = true := bne_iff_ne.mpr c7
      obtain rfl := Option.some.inj H
      go_enter Try.func12, Try.ntmps12
      go_wp2_with (first | ((with_reducible refine gate_callee (f := 13) rfl ?_); refine goesL_ (some 15) rfl rfl Try.func13 (by kernel_rfl) rfl #[] rfl (by (try simp only [List.map_toArray, List.map_cons, List.map_nil]); first | done | rfl | (simp only [List.length_drop, List.length_take]; rfl)) ?_; (with_reducible refine (undercroftlaw13_alive.calls k  true _ A4.out).mono ?_); rintro e w36 ⟨rfl, hb⟩; refine ⟨_, rfl, ?_⟩; have n0_ := Aside0.mk (below_step (by repeat (first | (with_reducible first | exact HB.out | apply below_alloc | apply pw_below_drewN | apply below_drew1) | exact HB.out)) hb); clear HB; have HB := n0_; clear n0_; (try clear hb); (try clear hb2); (try clear hk); (try clear hi)) | ((with_reducible refine gate_callee (f := 21) rfl ?_); refine goesL_ (some 19) rfl rfl Try.func21 (by kernel_rfl) rfl #[.slice A0 l0.length c0] rfl (by (try simp only [List.map_toArray, List.map_cons, List.map_nil]); first | done | rfl | (simp only [List.length_drop, List.length_take]; rfl)) ?_; (with_reducible refine (attr_Encode.calls k _ _ l0 t526 t527 _ ?side1 ?side2 A6.out).mono ?_); (case side1 => repeat (first | exact (Kd.C_below HR0.out HB.out) | (with_reducible refine Kd.C_alloc ?_ _) | (with_reducible refine Kd.C_drewN ?_ _) | (with_reducible refine Kd.C_drew ?_))); (case side2 => exact HC0.out); rintro e w37 ⟨v528, rfl, ho0, hb⟩; refine ⟨_, rfl, ?_⟩; have n0_ := Aside0.mk (Kd.R_lower ho0 (below_size (by repeat (first | (with_reducible first | exact HB.out | apply below_alloc | apply pw_below_drewN | apply below_drew1) | exact HB.out)))); have n1_ := Aside0.mk (below_step (by repeat (first | (with_reducible first | exact HB.out | apply below_alloc | apply pw_below_drewN | apply below_drew1) | exact HB.out)) hb); clear HB; have HO529 := n0_; have HB := n1_; clear n0_ n1_; (try clear hb); (try clear hb2); (try clear hk); (try clear hi); (try clear ho0); obtain ⟨Ao38, co38, eo38⟩ := Kd.R_slice HO529.out; subst eo38))
      go_ret
      exact ⟨by first | rfl | (simp [errW_none, errW_some] <;> rfl) | (simp [*, errW_none, errW_some] <;> rfl), by repeat (first | (with_reducible first | exact HB.out | apply below_alloc | apply pw_below_drewN | apply below_drew1) | exact HB.out)⟩
  · replace c5 := Bool.eq_false_iff.mpr c5
    subst c5
    have H1 : (some false) = some r := by rw [if_neg (show ¬ (false = true) by decide)] at H; exact H
    clear H
    have H := H1
    clear H1
    obtain rfl := Option.some.inj H
    go_enter Try.func12, Try.ntmps12
    go_wp2_with (first | ((with_reducible refine gate_callee (f := 13) rfl ?_); refine goesL_ (some 15) rfl rfl Try.func13 (by kernel_rfl) rfl #[] rfl (by (try simp only [List.map_toArray, List.map_cons, List.map_nil]); first | done | rfl | (simp only [List.length_drop, List.length_take]; rfl)) ?_; (with_reducible refine (undercroftlaw13_alive.calls k  false _ A4.out).mono ?_); rintro e w39 ⟨rfl, hb⟩; refine ⟨_, rfl, ?_⟩; have n0_ := Aside0.mk (below_step (by repeat (first | (with_reducible first | exact HB.out | apply below_alloc | apply pw_below_drewN | apply below_drew1) | exact HB.out)) hb); clear HB; have HB := n0_; clear n0_; (try clear hb); (try clear hb2); (try clear hk); (try clear hi)))
    go_ret
    exact ⟨by first | rfl | (simp [errW_none, errW_some] <;> rfl) | (simp [*, errW_none, errW_some] <;> rfl), by repeat (first | (with_reducible first | exact HB.out | apply below_alloc | apply pw_below_drewN | apply below_drew1) | exact HB.out)⟩
end Go.Proofs.Ytffaggckhneakaa.Pr
end
section
namespace Go.Proofs.Ytffaggckhneakaa.At
open Go.RowKit Go.Proofs.YtffaggckhneakaaW.PrintWords Go.Proofs.YtffaggckhneakaaW.PrintMore Go.Proofs.Ytffaggckhneakaa.Pr Go.Proofs.Ytffaggckhneakaa.Od Go.Proofs.Ytffaggckhneakaa.Cr
set_option linter.unusedVariables false
set_option linter.unusedSimpArgs false
theorem AttrBack (l : List E) (a : Int) (u : Int) (hl : Fits l) : ∃ k, undercroftlaw13_AttrBack.f k l a u = some true := by
  refine Ev.rounds ?_
  unfold Fits at hl
  unfold undercroftlaw13_AttrBack.f
  refine Ev.bind alive_ev ?_
  simp only [if_true]
  refine Ev.bind (enc_ev l (by omega)) ?_
  by_cases h0 : (encR l).2 = 0
  · simp only [if_pos h0]
    refine Ev.bind (dec_ev _ (encR_byte l)) ?_
    rw [dec_enc h0]
    simp only [if_true]
    refine Ev.bind (same_ev l (by omega)) ?_
    have hlen := encR_len h0
    simp only [if_true, hlen, show (((256 : Nat) : Int) != 256) = false from rfl]
    refine Ev.succ ?_
    simp only [undercroftlaw13_AttrBack.j0, Bool.false_eq_true, if_false]
    obtain ⟨first, hf, hf2⟩ : ∃ first : Nat, wrap64 (Int.tmod (IntKind.u64.wrap a) 2048) = (first : Int) ∧ first < 2048 := by
      have h1 : 0 ≤ IntKind.u64.wrap a := by rw [u64w]; omega
      rw [Int.tmod_eq_emod_of_nonneg h1]
      refine ⟨(IntKind.u64.wrap a % 2048).toNat, ?_, by omega⟩
      rw [w64 (by omega) (by omega)]; omega
    rw [hf]
    have key : ∀ (n i : Nat) (b' : List Int) (t : Bool), i + n = 32 → Inv (encR l).1 first i b' t → Ev (fun k => undercroftlaw13_AttrBack.l0 k u b' (first : Int) t (i : Int)) true := by
      intro n
      induction n with
      | zero =>
        intro i b' t hi hI
        refine Ev.succ ?_
        simp only [undercroftlaw13_AttrBack.l0, if_neg (show ¬((i : Int) < 32) by omega)]
        refine Ev.bind (dec_ev b' hI.2.1) ?_
        obtain ⟨e1, e2⟩ := inv_end hI
        cases t with
        | false =>
          rw [e2 rfl, dec_enc h0]
          exact Ev.now _
        | true =>
          have hne := e1 rfl
          rcases decR_code b' with h | h
          · obtain ⟨g1, g2⟩ := decR_ok h
            have := enc_done g1
            rw [g2] at this
            exact absurd (this.trans (enc_done h0).symm) hne
          · rw [h]
            exact Ev.now _
      | succ n ih =>
        intro i b' t hi hI
        refine Ev.succ ?_
        obtain ⟨p1, p2, p3⟩ := place (i := i) hf2 (by omega)
        simp only [undercroftlaw13_AttrBack.l0, if_pos (show ((i : Int) < 32) by omega), if_pos (show (0 : Int) ≤ (i : Int) by omega), p1, p2, p3, w64 (show -9223372036854775808 ≤ (i : Int) + 1 by omega) (by omega)]
        have hskip := ih (i + 1) b' t (by omega) (inv_skip hI)
        by_cases hbit : Go.bits .and .u32 (shr .u32 u (i : Int)) 1 = 1
        · simp only [if_pos hbit]
          by_cases hlt : first + i < 2048
          · have hl8 : (first + i) / 8 < b'.length := by rw [hI.1]; omega
            simp only [if_pos (show ((first + i : Nat) : Int) < 2048 by omega), if_pos (show (0 : Int) ≤ (((first + i) / 8 : Nat) : Int) by omega), if_pos (show (((first + i) / 8 : Nat) : Int) < (b'.length : Int) by omega), if_pos (show (0 : Int) ≤ (((first + i) % 8 : Nat) : Int) by omega), Int.toNat_natCast]
            exact ih (i + 1) (turnB b' (first + i)) true (by omega) (inv_turn hI (by omega) hlt)
          · simp only [if_neg (show ¬ ((first + i : Nat) : Int) < 2048 by omega)]
            exact hskip
        · simp only [if_neg hbit]
          exact hskip
    exact key 32 0 _ false rfl (inv_start hlen (encR_byte l) first)
  · simp only [if_neg h0]
    have : (encR l).1 = [] := by
      unfold encR at h0 ⊢
      by_cases hr : right none l = true
      · rw [if_pos hr] at h0 ⊢
        by_cases hs : sumL l > 250
        · rw [if_pos hs]
        · rw [if_neg hs] at h0; exact absurd rfl h0
      · rw [if_neg hr]
    rw [this]
    exact Ev.now _
end Go.Proofs.Ytffaggckhneakaa.At
end
section
namespace Go.Proofs.Ytffaggckhneakaa.attrBack
open Go.ChangeShapes Go.WideShapes Go.ChangeAt Go.RowKit Go.Proofs.YtffaggckhneakaaW.PrintWords Go.Proofs.Ytffaggckhneakaa.Pr Go.Proofs.Ytffaggckhneakaa.Op Go.Joins
open Go.ChangeMaps (open_string shut_string)
set_option linter.unusedVariables false
theorem own : ownKnob Try.prog.godebug = none := by kernel_rfl
theorem laidOut : laidOutB Try.prog = true := by kernel_rfl
set_option maxRecDepth 100000 in
theorem contract (H : Type) (enc : TypeId × Value → H) (W : World) (base : Nat) (args : Array Value) (ds gs : List (DataW H)) (before : List MemPlace)
    (hval : ∀ (j : Nat) t v, Try.f12.params[j]? = some t → args[j]? = some v → Value.okWide Try.prog W .any base t v)
    (hW : DataW.Whole enc Try.prog Try.f12.params.toList Rows.attrBackSpec.vars false W args.toList ds gs before)
    (hsz : (DataW.weightsEach Try.prog (Try.f12.params.toList ++ Rows.attrBackSpec.plain.varTypes Try.prog) (ds ++ gs)).all (· ≤ reachBytes) = true) :
    Calls Try.prog 12 args W fun e W' => ∃ v, e = .returned v ∧ Rows.attrBackSpec.post enc Try.prog Try.f12 false true false false W args v W' := by
  have hW' := hW
  obtain ⟨p, q, hA0, hV, rfl, hfz, hnd⟩ := hW
  have hA : DataW.TrodAll enc Try.prog W 0 (fun _ => true) true Try.f12.params.toList args.toList ds p := hA0
  rw [Try.params12] at hA hval hsz
  obtain ⟨v0, vs0, d0, ds0, p0, q0, hargs, rfl, rfl, h0, r0⟩ := trodAll_cons hA
  obtain ⟨v1, vs1, d1, ds1, p1, q1, rfl, rfl, rfl, h1, r1⟩ := trodAll_cons r0
  obtain ⟨v2, vs2, d2, ds2, p2, q2, rfl, rfl, rfl, h2, r2⟩ := trodAll_cons r1
  obtain ⟨rfl, rfl, rfl⟩ := trodAll_nil r2
  obtain rfl : args = #[v0, v1, v2] := by cases args; simp_all
  obtain ⟨rfl, rfl⟩ := trodVars_none hV
  have lt0 : ∀ x ∈ p0, x.block < W.heap.size := by obtain ⟨m, hm⟩ := h0; exact DataW.trod_lt m _ _ _ hm
  have k0 := h0
  obtain ⟨A0, l0, c0, rfl, hc0, hr0, hs0⟩ := arg_slice Try.underlying22 At.o26 (hval 0 22 v0 rfl rfl) h0 hsz (j := 0) (t := 22) rfl rfl
  have lt1 : ∀ x ∈ p1, x.block < W.heap.size := by obtain ⟨m, hm⟩ := h1; exact DataW.trod_lt m _ _ _ hm
  have k1 := h1
  obtain ⟨a1, rfl, rfl, rfl, w1⟩ := open_int Try.underlying3 (hval 1 3 v1 rfl rfl) h1
  have b1 := bounds_i64 w1
  have lt2 : ∀ x ∈ p2, x.block < W.heap.size := by obtain ⟨m, hm⟩ := h2; exact DataW.trod_lt m _ _ _ hm
  have k2 := h2
  obtain ⟨a2, rfl, rfl, rfl, w2⟩ := open_int Try.underlying51 (hval 2 51 v2 rfl rfl) h2
  have b2 := bounds_u32 w2
  clear hA0
  obtain ⟨k, hk⟩ := At.AttrBack l0 a1 a2 hs0
  refine (undercroftlaw13_AttrBack.calls k A0 c0 l0 a1 a2 true W hr0 hc0 hk).mono fun e W' ⟨he, bel⟩ => ?_
  subst he
  exact ⟨_, rfl, _, _, _, [], _, [], hW', trodAll_mk1 (shut_bool Try.underlying4 _), (trodAll_cons_mk (Below.trod laidOut (by kernel_rfl) (of_decide_eq_true (by kernel_rfl)) k0 bel lt0) (trodAll_cons_mk (Below.trod laidOut (by kernel_rfl) (of_decide_eq_true (by kernel_rfl)) k1 bel lt1) (trodAll_cons_mk (Below.trod laidOut (by kernel_rfl) (of_decide_eq_true (by kernel_rfl)) k2 bel lt2) trodAll_mk0))), rfl, bel.frame _, fun h => by cases h⟩
set_option maxRecDepth 100000 in
theorem lifted (os : Os) (started : os.Started) (H : Type) (enc : TypeId × Value → H) :
    ReturnsInHanded {} Try.checked os 12 .any (Rows.attrBackSpec.pre6 enc Try.prog Try.f12 Rows.attrBackRow.domain false) (Rows.attrBackSpec.post enc Try.prog Try.f12 false true false false) := by
  refine returnsInHanded_of_change_sized (C := Try.checked) own started (by kernel_rfl) Try.func12
    (ChangeSpec.witness6 (enc := enc) (C := Try.checked) false ⟨#[], #[.slice none 0 0, .int .i64 0, .int .u32 0], []⟩ 8 (by kernel_rfl) (by kernel_rfl) (by kernel_rfl) (by kernel_rfl)) ?_
  intro W base args ds gs before hval hW _ hsz _
  exact contract H enc W base args ds gs before hval hW hsz
theorem over : Rows.attrBackRow.holds Try.pinned (OpenSpec.ofChange Rows.attrBackSpec) :=
  OpenClaim.holds_of_wide 12 Try.f12 rfl rfl rfl rfl rfl rfl rfl ⟨rfl, rfl, rfl, rfl, rfl⟩ rfl rfl rfl rfl rfl (by kernel_rfl) Try.func12 (by kernel_rfl)
    (of_decide_eq_true (by kernel_rfl)) (by unfold Func.isWrapper; first | (rw [if_pos (by decide +kernel)]; kernel_rfl) | (rw [if_neg (by decide +kernel)]; exact ⟨rfl, rfl⟩))
    (fun os started H enc _ => lifted os started H enc)
theorem proved : Rows.AttrBackSaid := over
end Go.Proofs.Ytffaggckhneakaa.attrBack
namespace Go.Proofs.Ytffaggckhneakaa
theorem attrBack_holds : Rows.AttrBackSaid := attrBack.proved
end Go.Proofs.Ytffaggckhneakaa
end
