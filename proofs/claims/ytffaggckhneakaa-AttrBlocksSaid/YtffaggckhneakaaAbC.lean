/- Ab: this session's texts for the one law, put together (part 3 of 4): what its program computes, function by function, and that this answers true; the row stands at the end of the last part. Conditions: those that each theorem names; the last theorem has none. -/
import Derived.Lib.AppendZerosOnto
import Derived.Lib.Overlaps
import Derived.Laws.Externs
import Derived.Laws.CopyRow
import Derived.Deep.DeepAppendWide
import Derived.Test.YtffaggckhneakaaAbB
section
namespace Go.Proofs.Ytffaggckhneakaa.Pr
open Go.RowKit Go.Proofs.YtffaggckhneakaaW.PrintWords Go.Proofs.YtffaggckhneakaaW.PrintLast Go.Proofs.YtffaggckhneakaaW.PrintMore
attribute [local go_sem] max2_int min2_int max_two min_two max_three min_three max_four min_four
attribute [local go_sem] Go.Proofs.Ytffaggckhneakaa.Hl.str_geq Go.Proofs.Ytffaggckhneakaa.Hl.str_gtr Go.Proofs.Ytffaggckhneakaa.Hl.str_leq
set_option linter.unusedVariables false
set_option linter.unusedSimpArgs false
def undercroftref13_Fits.l0 : Nat → List (S26) → Int → Int → Option (Bool)
  | 0, _, _, _ => none
  | k + 1, x0, x3, x4 => if x4 < (x0.length : Int) then (if 0 ≤ x4 then (undercroftref13_Fits.l0 k x0 (wrap64 (x3 + (wrap64 ((wrap64 (2 + (((rd_T26 x0 x4).f0).size : Int))) + (((rd_T26 x0 x4).f1).size : Int))))) (wrap64 (x4 + 1))) else (none)) else (some (decide (x3 ≤ 250)))
def undercroftref13_Fits.f (k : Nat) (l0 : List (S26)) : Option (Bool) := undercroftref13_Fits.l0 k l0 0 0
set_option maxHeartbeats 8000000 in
set_option maxRecDepth 100000 in
theorem undercroftref13_Fits.calls (k : Nat) (A0 : Option Addr) (c0 : Nat) (l0 : List (S26)) (r : Bool) (w : World) (hr0 : Kd.C k26 w A0 l0.length l0) (hc0 : l0.length ≤ c0) (h : undercroftref13_Fits.f k l0 = some r) :
    Calls Try.prog 43 #[.slice A0 l0.length c0] w fun e w' => e = .returned (.bool r) ∧ Drawn0 w w' := by
  have HR0 := Aside0.mk hr0
  have HC0 := Aside0.mk hc0
  clear hr0 hc0
  have H : (undercroftref13_Fits.l0 k l0 0 0) = some r := h
  clear h
  have H' := Aside0.mk H
  clear H
  go_enter Try.func43, Try.ntmps43
  go_wp2
  repeat (go_quiet (fail); try go_wp2)
  go_loopg [3, 4] k (fun kq v3 v4 w' => ∃ (x3_1 : Int) (x4_1 : Int), v3 = .int .i64 x3_1 ∧ v4 = .int .i64 x4_1 ∧ Aside0 (undercroftref13_Fits.l0 kq l0 x3_1 x4_1 = some r) ∧ Aside0 (kq ≤ k) ∧ Drawn0 w w')
  case atStart => exact ⟨(0), (0), (by first | rfl | (simp; done) | (simp [*]; done)), (by first | rfl | (simp; done) | (simp [*]; done)), H', ⟨Nat.le_refl _⟩, by repeat (first | exact Drawn0.refl _ | apply Drawn0.step)⟩
  case round =>
    clear H'
    obtain ⟨x3_1, x4_1, rfl, rfl, HA, HK1, ⟨m1, rfl⟩⟩ := hrel
    cases gk with
    | zero => exact absurd HA.out (by intro h_; cases h_)
    | succ k1 =>
      have H := HA.out
      clear HA
      simp only [undercroftref13_Fits.l0] at H
      by_cases c2 : x4_1 < (l0.length : Int)
      · rw [if_pos c2] at H
        have c2b0 : decide (x4_1 < (l0.length : Int)) = true := decide_eq_true c2
        clear c2
        by_cases c3 : 0 ≤ x4_1
        · rw [if_pos c3] at H
          have c3b0 : decide (0 ≤ x4_1) = true := decide_eq_true c3
          clear c3
          have H' := Aside0.mk H
          clear H
          have p394 : 0 ≤ (x4_1 : Int) := of_decide_eq_true (by first | (with_reducible assumption) | assumption)
          have q394 : x4_1 < (l0.length : Int) := of_decide_eq_true (by first | (with_reducible assumption) | assumption)
          obtain ⟨ad394, e394, hx394_0, hx394_1⟩ := at_T26 HR0.out x4_1 p394 q394
          cases e394
          replace p394 := eq_true p394
          replace q394 := eq_true q394
          have p395 : 0 ≤ (x4_1 : Int) := of_decide_eq_true (by first | (with_reducible assumption) | assumption)
          have q395 : x4_1 < (l0.length : Int) := of_decide_eq_true (by first | (with_reducible assumption) | assumption)
          obtain ⟨ad395, e395, hx395_0, hx395_1⟩ := at_T26 HR0.out x4_1 p395 q395
          obtain rfl : ad394 = ad395 := (by injection e395)
          replace p395 := eq_true p395
          replace q395 := eq_true q395
          go_wp2
          repeat (go_quiet (fail); try go_wp2)
          go_roundg k1
          case measure => have := HK1.out; omega
          case rel => exact ⟨(wrap64 (x3_1 + (wrap64 ((wrap64 (2 + (((rd_T26 l0 x4_1).f0).size : Int))) + (((rd_T26 l0 x4_1).f1).size : Int))))), (wrap64 (x4_1 + 1)), (by first | rfl | (simp; done) | (simp [*]; done)), (by first | rfl | (simp; done) | (simp [*]; done)), H', ⟨by have := HK1.out; omega⟩, by repeat (first | exact Drawn0.refl _ | apply Drawn0.step)⟩
        · rw [if_neg c3] at H
          exact absurd H (by simp)
      · rw [if_neg c2] at H
        have c2b0 : decide (x4_1 < (l0.length : Int)) = false := decide_eq_false c2
        clear c2
        obtain rfl := Option.some.inj H
        go_wp2
        repeat (go_quiet (fail); try go_wp2)
        go_ret
        exact ⟨by first | rfl | (simp; done) | (simp [*]; done), by repeat (first | exact Drawn0.refl _ | apply Drawn0.step)⟩
end Go.Proofs.Ytffaggckhneakaa.Pr
end
section
namespace Go.Proofs.Ytffaggckhneakaa.At
open Go.RowKit Go.Proofs.YtffaggckhneakaaW.PrintWords Go.Proofs.YtffaggckhneakaaW.PrintMore Go.Proofs.Ytffaggckhneakaa.Pr Go.Proofs.Ytffaggckhneakaa.Od Go.Proofs.Ytffaggckhneakaa.Cr
set_option linter.unusedVariables false
set_option linter.unusedSimpArgs false
abbrev E := S26
abbrev nb (e : E) : List UInt8 := e.f0.data.toList
theorem size_nb (s : ByteArray) : s.size = s.data.toList.length := Lib.size_eq _
def mayB (n v : ByteArray) : Bool := decide (1 ≤ n.size) && decide (n.size ≤ 16) && decide (v.size ≤ 64)
theorem may_some (n v : ByteArray) : attr_may.f n v = some (mayB n v) := by
  unfold attr_may.f mayB
  rw [Lib.toList_data]
  by_cases h0 : n.data.toList = []
  · have : n.size = 0 := by rw [size_nb, h0]; rfl
    rw [if_pos h0, this]; rfl
  · have hp : 1 ≤ n.size := by rw [size_nb]; have := List.length_pos_iff.2 h0; omega
    rw [if_neg h0, decide_eq_true hp]
    by_cases h1 : (n.size : Int) ≤ 16
    · rw [if_pos h1, decide_eq_true (show n.size ≤ 16 by omega), Bool.true_and, Bool.true_and]
      congr 1; exact decide_eq_decide.2 (by omega)
    · rw [if_neg h1, decide_eq_false (show ¬ n.size ≤ 16 by omega)]; rfl
theorem rmay_some (n v : ByteArray) : undercroftref13_May.f n v = some (mayB n v) := by
  unfold undercroftref13_May.f mayB
  by_cases h0 : (n.size : Int) ≥ 1
  · rw [if_pos h0, decide_eq_true (show 1 ≤ n.size by omega)]
    by_cases h1 : (n.size : Int) ≤ 16
    · rw [if_pos h1, decide_eq_true (show n.size ≤ 16 by omega), Bool.true_and, Bool.true_and]
      congr 1; exact decide_eq_decide.2 (by omega)
    · rw [if_neg h1, decide_eq_false (show ¬ n.size ≤ 16 by omega)]; rfl
  · rw [if_neg h0, decide_eq_false (show ¬ 1 ≤ n.size by omega)]; rfl
def okE (e : E) : Bool := mayB e.f0 e.f1
def ahead (p : Option (List UInt8)) (e : E) : Bool := match p with | none => true | some q => less q (nb e)
def right : Option (List UInt8) → List E → Bool
  | _, [] => true
  | p, e :: l => okE e && ahead p e && right (some (nb e)) l
def sumL : List E → Nat
  | [] => 0
  | e :: l => 2 + e.f0.size + e.f1.size + sumL l
def checkR (l : List E) : Bool × Int := if right none l = true then (decide (sumL l ≤ 250), 0) else (false, 1)
theorem okE_size {e : E} (h : okE e = true) : 1 ≤ e.f0.size ∧ e.f0.size ≤ 16 ∧ e.f1.size ≤ 64 := by
  simp only [okE, mayB, Bool.and_eq_true, decide_eq_true_eq] at h
  exact ⟨h.1.1, h.1.2, h.2⟩
theorem right_ok : ∀ (l : List E) p, right p l = true → ∀ e ∈ l, okE e = true
  | [], _, _ => by simp
  | e :: l, p, h => by
    simp only [right, Bool.and_eq_true] at h
    intro x hx
    rcases List.mem_cons.1 hx with rfl | hx
    · exact h.1.1
    · exact right_ok l _ h.2 x hx
theorem right_iff : ∀ (l : List E) p, right p l = true ↔ (∀ e ∈ l, okE e = true) ∧ (∀ e ∈ l, ahead p e = true) ∧ l.Pairwise (fun a b => less (nb a) (nb b) = true)
  | [], p => by simp [right]
  | e :: l, p => by
    have ih := right_iff l (some (nb e))
    simp only [right, Bool.and_eq_true, ih, List.pairwise_cons]
    constructor
    · rintro ⟨⟨h1, h2⟩, h3, h4, h5⟩
      refine ⟨fun x hx => ?_, fun x hx => ?_, h4, h5⟩
      · rcases List.mem_cons.1 hx with rfl | hx
        · exact h1
        · exact h3 x hx
      · rcases List.mem_cons.1 hx with rfl | hx
        · exact h2
        · cases p with
          | none => rfl
          | some q => exact less_trans h2 (h4 x hx)
    · rintro ⟨h1, h2, h3, h4⟩
      exact ⟨⟨h1 e List.mem_cons_self, h2 e List.mem_cons_self⟩, fun x hx => h1 x (List.mem_cons_of_mem _ hx), h3, h4⟩
theorem rdT_get {l : List E} {i : Nat} (h : i < l.length) : rd_T26 l (i : Int) = l[i] := by
  unfold rd_T26; rw [List.getD_eq_getElem?_getD, Int.toNat_natCast, List.getElem?_eq_getElem h]; rfl
def pv (l : List E) (i : Nat) : Option (List UInt8) := if i = 0 then none else some (nb (rd_T26 l ((i : Int) - 1)))
theorem pv_succ {l : List E} {i : Nat} (h : i < l.length) : pv l (i + 1) = some (nb l[i]) := by
  unfold pv
  rw [if_neg (by omega), show ((i + 1 : Nat) : Int) - 1 = (i : Int) by omega, rdT_get h]
theorem check_ev (l : List E) (hl : l.length < 4398046511104) : Ev (fun k => attr_check.f k l) (checkR l) := by
  unfold attr_check.f
  have key : ∀ (n i acc : Nat), i + n = l.length → acc ≤ 82 * i → Ev (fun k => attr_check.l0 k l ((2 + acc : Nat) : Int) l (l.length : Int) (i : Int)) (if right (pv l i) (l.drop i) = true then (decide (acc + sumL (l.drop i) ≤ 250), 0) else (false, 1)) := by
    intro n
    induction n with
    | zero =>
      intro i acc hi ha
      refine Ev.succ ?_
      simp only [attr_check.l0, if_neg (show ¬((i : Int) < (l.length : Int)) by omega)]
      rw [List.drop_of_length_le (by omega)]
      have e : decide (((2 + acc : Nat) : Int) ≤ 252) = decide (acc + sumL [] ≤ 250) := decide_eq_decide.2 (by simp only [sumL]; omega)
      rw [e]
      exact Ev.now _
    | succ n ih =>
      intro i acc hi ha
      refine Ev.succ ?_
      have hil : i < l.length := by omega
      have ih' := fun a h => ih (i + 1) a (by omega) h
      rw [pv_succ hil] at ih'
      simp only [attr_check.l0, if_pos (show ((i : Int) < (l.length : Int)) by omega), if_pos (show (0 : Int) ≤ (i : Int) by omega), rdT_get hil, may_some, Option.bind_some]
      rw [List.drop_eq_getElem_cons hil]
      generalize he : l[i] = e at ih' ⊢
      have hbad : ∀ b, b = false → right (pv l i) (e :: l.drop (i + 1)) = b → Ev (fun _ : Nat => (some (false, 1) : Option (Bool × Int))) (if right (pv l i) (e :: l.drop (i + 1)) = true then (decide (acc + sumL (e :: l.drop (i + 1)) ≤ 250), 0) else (false, 1)) := by
        rintro _ rfl h
        rw [if_neg (by rw [h]; decide)]
        exact Ev.now _
      by_cases hm : mayB e.f0 e.f1 = true
      · simp only [hm, if_true]
        have hok : okE e = true := hm
        have hs := okE_size hok
        have hw : wrap64 (((2 + acc : Nat) : Int) + wrap64 (wrap64 (2 + (e.f0.size : Int)) + (e.f1.size : Int))) = ((2 + (acc + (2 + e.f0.size + e.f1.size)) : Nat) : Int) := by
          rw [w64 (n := 2 + (e.f0.size : Int)) (by omega) (by omega), w64 (n := 2 + (e.f0.size : Int) + (e.f1.size : Int)) (by omega) (by omega), w64 (by omega) (by omega)]; omega
        have hgo : Ev (fun k => attr_check.l0 k l ((2 + (acc + (2 + e.f0.size + e.f1.size)) : Nat) : Int) l (l.length : Int) (wrap64 ((i : Int) + 1))) (if right (some (nb e)) (l.drop (i + 1)) = true then (decide (acc + sumL (e :: l.drop (i + 1)) ≤ 250), 0) else (false, 1)) := by
          rw [w64 (by omega) (by omega), show acc + sumL (e :: l.drop (i + 1)) = (acc + (2 + e.f0.size + e.f1.size)) + sumL (l.drop (i + 1)) by simp only [sumL]; omega]
          exact ih' _ (by omega)
        by_cases hi0 : i = 0
        · subst hi0
          simp only [if_neg (show ¬ (((0 : Nat) : Int) > 0) by decide), hw]
          have e1 : right (pv l 0) (e :: l.drop (0 + 1)) = right (some (nb e)) (l.drop (0 + 1)) := by simp [right, hok, pv, ahead]
          rw [e1]
          exact hgo
        · have hp : pv l i = some (nb (rd_T26 l ((i : Int) - 1))) := by unfold pv; rw [if_neg hi0]
          simp only [if_pos (show ((i : Int) > 0) by omega), w64 (show -9223372036854775808 ≤ (i : Int) - 1 by omega) (by omega), if_pos (show (0 : Int) ≤ (i : Int) - 1 by omega), if_pos (show (i : Int) - 1 < (l.length : Int) by omega), strings_Compare.f, Option.bind_some]
          have hc := compare_neg (rd_T26 l ((i : Int) - 1)).f0.data.toList e.f0.data.toList
          by_cases hlt : less (nb (rd_T26 l ((i : Int) - 1))) (nb e) = true
          · simp only [if_neg (show ¬ (Lib.compareBytes (rd_T26 l ((i : Int) - 1)).f0.data.toList e.f0.data.toList ≥ 0) by have := hc.2 hlt; omega), hw]
            have e1 : right (pv l i) (e :: l.drop (i + 1)) = right (some (nb e)) (l.drop (i + 1)) := by simp [right, hok, hp, ahead, hlt]
            rw [e1]
            exact hgo
          · simp only [if_pos (show (Lib.compareBytes (rd_T26 l ((i : Int) - 1)).f0.data.toList e.f0.data.toList ≥ 0) by
              rcases Int.lt_or_le (Lib.compareBytes (rd_T26 l ((i : Int) - 1)).f0.data.toList e.f0.data.toList) 0 with h | h
              · exact absurd (hc.1 h) hlt
              · exact h)]
            exact hbad _ rfl (by simp [right, hp, ahead, hlt])
      · have hm' : mayB e.f0 e.f1 = false := by simpa using hm
        simp only [hm', Bool.false_eq_true, if_false]
        exact hbad _ rfl (by simp [right, okE, hm'])
  have := key l.length 0 0 (by omega) (by omega)
  rw [List.drop_zero, Nat.zero_add] at this
  exact this
theorem rright_ev (l : List E) (hl : l.length < 4398046511104) : Ev (fun k => undercroftref13_Right.f k l) (right none l) := by
  unfold undercroftref13_Right.f
  have key : ∀ (n i : Nat), i + n = l.length → Ev (fun k => undercroftref13_Right.l0 k l (i : Int)) (right (pv l i) (l.drop i)) := by
    intro n
    induction n with
    | zero =>
      intro i hi
      refine Ev.succ ?_
      simp only [undercroftref13_Right.l0, if_neg (show ¬((i : Int) < (l.length : Int)) by omega)]
      rw [List.drop_of_length_le (by omega)]
      exact Ev.now _
    | succ n ih =>
      intro i hi
      refine Ev.succ ?_
      have hil : i < l.length := by omega
      have ih' := ih (i + 1) (by omega)
      rw [pv_succ hil] at ih'
      simp only [undercroftref13_Right.l0, if_pos (show ((i : Int) < (l.length : Int)) by omega), if_pos (show (0 : Int) ≤ (i : Int) by omega), rdT_get hil, rmay_some, Option.bind_some]
      rw [List.drop_eq_getElem_cons hil]
      generalize he : l[i] = e at ih' ⊢
      by_cases hm : mayB e.f0 e.f1 = true
      · simp only [hm, if_true]
        have hok : okE e = true := hm
        by_cases hi0 : i = 0
        · subst hi0
          simp only [if_neg (show ¬ (((0 : Nat) : Int) > 0) by decide), w64 (show -9223372036854775808 ≤ ((0 : Nat) : Int) + 1 by omega) (by omega)]
          have e1 : right (pv l 0) (e :: l.drop (0 + 1)) = right (some (nb e)) (l.drop (0 + 1)) := by simp [right, hok, pv, ahead]
          rw [e1]
          exact ih'
        · have hp : pv l i = some (nb (rd_T26 l ((i : Int) - 1))) := by unfold pv; rw [if_neg hi0]
          simp only [if_pos (show ((i : Int) > 0) by omega), w64 (show -9223372036854775808 ≤ (i : Int) - 1 by omega) (by omega), w64 (show -9223372036854775808 ≤ (i : Int) + 1 by omega) (by omega), if_pos (show (0 : Int) ≤ (i : Int) - 1 by omega), if_pos (show (i : Int) - 1 < (l.length : Int) by omega), Lib.toList_data]
          by_cases hlt : less (nb (rd_T26 l ((i : Int) - 1))) (nb e) = true
          · simp only [if_pos hlt]
            have e1 : right (pv l i) (e :: l.drop (i + 1)) = right (some (nb e)) (l.drop (i + 1)) := by simp [right, hok, hp, ahead, hlt]
            rw [e1]
            exact ih'
          · simp only [if_neg hlt]
            have : right (pv l i) (e :: l.drop (i + 1)) = false := by simp [right, hp, ahead, hlt]
            rw [this]
            exact Ev.now _
      · have hm' : mayB e.f0 e.f1 = false := by simpa using hm
        simp only [hm', Bool.false_eq_true, if_false]
        have : right (pv l i) (e :: l.drop (i + 1)) = false := by simp [right, okE, hm']
        rw [this]
        exact Ev.now _
  have := key l.length 0 (by omega)
  rw [List.drop_zero] at this
  exact this
theorem rfits_ev (l : List E) (hl : l.length < 4398046511104) (hr : ∀ e ∈ l, okE e = true) : Ev (fun k => undercroftref13_Fits.f k l) (decide (sumL l ≤ 250)) := by
  unfold undercroftref13_Fits.f
  have key : ∀ (n i acc : Nat), i + n = l.length → acc ≤ 82 * i → Ev (fun k => undercroftref13_Fits.l0 k l (acc : Int) (i : Int)) (decide (acc + sumL (l.drop i) ≤ 250)) := by
    intro n
    induction n with
    | zero =>
      intro i acc hi ha
      refine Ev.succ ?_
      simp only [undercroftref13_Fits.l0, if_neg (show ¬((i : Int) < (l.length : Int)) by omega)]
      rw [List.drop_of_length_le (by omega)]
      have e : decide ((acc : Int) ≤ 250) = decide (acc + sumL [] ≤ 250) := decide_eq_decide.2 (by simp only [sumL]; omega)
      rw [e]
      exact Ev.now _
    | succ n ih =>
      intro i acc hi ha
      refine Ev.succ ?_
      have hil : i < l.length := by omega
      rw [List.drop_eq_getElem_cons hil]
      have hs := okE_size (hr l[i] (List.getElem_mem hil))
      have hw : wrap64 ((acc : Int) + wrap64 (wrap64 (2 + (l[i].f0.size : Int)) + (l[i].f1.size : Int))) = ((acc + (2 + l[i].f0.size + l[i].f1.size) : Nat) : Int) := by
        rw [w64 (n := 2 + (l[i].f0.size : Int)) (by omega) (by omega), w64 (n := 2 + (l[i].f0.size : Int) + (l[i].f1.size : Int)) (by omega) (by omega), w64 (by omega) (by omega)]; omega
      simp only [undercroftref13_Fits.l0, if_pos (show ((i : Int) < (l.length : Int)) by omega), if_pos (show (0 : Int) ≤ (i : Int) by omega), rdT_get hil, hw, w64 (show -9223372036854775808 ≤ (i : Int) + 1 by omega) (by omega)]
      rw [show acc + sumL (l[i] :: l.drop (i + 1)) = (acc + (2 + l[i].f0.size + l[i].f1.size)) + sumL (l.drop (i + 1)) by simp only [sumL]; omega]
      exact ih (i + 1) _ (by omega) (by omega)
  have := key l.length 0 0 (by omega) (by omega)
  rw [List.drop_zero, Nat.zero_add] at this
  exact this
theorem split (s : List UInt8) : ∀ (l : List E), l.Pairwise (fun a b => less (nb a) (nb b) = true) → ∃ A M C, l = A ++ (M ++ C) ∧ (∀ e ∈ A, less (nb e) s = true) ∧ (∀ e ∈ C, less s (nb e) = true) ∧ (M = [] ∨ ∃ m, M = [m] ∧ nb m = s)
  | [], _ => ⟨[], [], [], rfl, by simp, by simp, .inl rfl⟩
  | e :: l, h => by
    obtain ⟨h1, h2⟩ := List.pairwise_cons.1 h
    rcases less_tri (nb e) s with hl | hl | hl
    · obtain ⟨A, M, C, rfl, hA, hC, hM⟩ := split s l h2
      refine ⟨e :: A, M, C, rfl, fun x hx => ?_, hC, hM⟩
      rcases List.mem_cons.1 hx with rfl | hx
      · exact hl
      · exact hA x hx
    · exact ⟨[], [e], l, rfl, by simp, fun x hx => hl ▸ h1 x hx, .inr ⟨e, rfl, hl⟩⟩
    · refine ⟨[], [], e :: l, rfl, by simp, fun x hx => ?_, .inl rfl⟩
      rcases List.mem_cons.1 hx with rfl | hx
      · exact hl
      · exact less_trans hl (h1 x hx)
theorem find_ev (A M C : List E) (s : ByteArray) (hA : ∀ e ∈ A, less (nb e) s.data.toList = true) (hC : ∀ e ∈ C, less s.data.toList (nb e) = true) (hM : M = [] ∨ ∃ m, M = [m] ∧ nb m = s.data.toList)
    (hl : (A ++ (M ++ C)).length < 4398046511104) : Ev (fun k => attr_find.f k (A ++ (M ++ C)) s) ((A.length : Int), decide (M ≠ [])) := by
  unfold attr_find.f
  simp only [if_pos hl]
  obtain ⟨l, hL⟩ : ∃ l, A ++ (M ++ C) = l := ⟨_, rfl⟩
  have hlen : l.length = A.length + (M.length + C.length) := by rw [← hL, List.length_append, List.length_append]
  have hlo : ∀ m (h : m < l.length), m < A.length → less (nb l[m]) s.data.toList = true := by
    intro m h hm
    have : l[m] = A[m] := by subst hL; exact List.getElem_append_left hm
    rw [this]
    exact hA _ (List.getElem_mem hm)
  have hhi : ∀ m (h : m < l.length), A.length ≤ m → less (nb l[m]) s.data.toList = false := by
    intro m h hm
    have h2 : m - A.length < (M ++ C).length := by rw [List.length_append]; omega
    have : l[m] = (M ++ C)[m - A.length] := by subst hL; exact List.getElem_append_right hm
    rw [this]
    rcases List.mem_append.1 (List.getElem_mem h2) with hx | hx
    · rcases hM with hM | ⟨y, hM, hy⟩
      · generalize (M ++ C)[m - A.length] = z at hx
        rw [hM] at hx; cases hx
      · generalize (M ++ C)[m - A.length] = z at hx ⊢
        rw [hM] at hx
        rw [List.mem_singleton.1 hx, hy, less_irrefl]
    · exact less_asymm (hC _ hx)
  rw [hL]
  have key : ∀ (n i j : Nat), j - i ≤ n → i ≤ A.length → A.length ≤ j → j ≤ l.length → Ev (fun k => bsf_l0 k l s (i : Int) (j : Int)) ((A.length : Int), decide (M ≠ [])) := by
    intro n
    induction n with
    | zero =>
      intro i j hn hi hj hjl
      refine Ev.succ ?_
      obtain rfl : i = A.length := by omega
      simp only [bsf_l0, if_neg (show ¬ ((A.length : Int) < (j : Int)) by omega), if_pos (show (0 : Int) ≤ (A.length : Int) by omega)]
      by_cases hlt : (A.length : Int) < (l.length : Int)
      · simp only [if_pos hlt]
        have hil : A.length < l.length := by omega
        rw [rdT_get hil]
        have e : (Lib.compareBytes l[A.length].f0.data.toList s.data.toList == 0) = decide (M ≠ []) := by
          rcases hM with rfl | ⟨m, rfl, hm⟩
          · have h2 : 0 < C.length := by simp only [List.length_nil] at hlen; omega
            have : l[A.length] = C[0] := by subst hL; simp
            rw [this]
            have h3 := less_ne (hC _ (List.getElem_mem h2))
            have h4 : ¬ Lib.compareBytes C[0].f0.data.toList s.data.toList = 0 := fun h => h3 ((compare_zero _ _).1 h).symm
            simp [h4]
          · have : l[A.length] = m := by subst hL; simp
            rw [this, (compare_zero _ _).2 hm]; simp
        rw [e]
        exact Ev.now _
      · simp only [if_neg hlt]
        have : M = [] := List.eq_nil_of_length_eq_zero (by omega)
        subst this
        exact Ev.now _
    | succ n ih =>
      intro i j hn hi hj hjl
      by_cases hij : i < j
      · refine Ev.succ ?_
        have em : ((i : Int) + (j : Int)) / 2 = (((i + j) / 2 : Nat) : Int) := by omega
        have hml : (i + j) / 2 < l.length := by omega
        simp only [bsf_l0, if_pos (show ((i : Int) < (j : Int)) by omega), if_pos (show (0 : Int) ≤ (i : Int) ∧ (j : Int) ≤ (l.length : Int) by omega), em, rdT_get hml]
        have hc := compare_neg l[(i + j) / 2].f0.data.toList s.data.toList
        by_cases hmA : (i + j) / 2 < A.length
        · simp only [if_pos (hc.2 (hlo _ hml hmA))]
          have := ih ((i + j) / 2 + 1) j (by omega) (by omega) hj hjl
          rw [show (((i + j) / 2 : Nat) : Int) + 1 = (((i + j) / 2 + 1 : Nat) : Int) by omega]
          exact this
        · have hf : ¬ Lib.compareBytes l[(i + j) / 2].f0.data.toList s.data.toList < 0 := fun h => by
            have h1 := hc.1 h
            have h2 := hhi _ hml (by omega)
            rw [show less l[(i + j) / 2].f0.data.toList s.data.toList = false from h2] at h1
            cases h1
          simp only [if_neg hf]
          exact ih i ((i + j) / 2) (by omega) hi (by omega) (by omega)
      · exact ih i j (by omega) hi hj hjl
  exact key l.length 0 l.length (by omega) (by omega) (by omega) (by omega)
def put (x : E) (l : List E) : List E := l.filter (fun e => less (nb e) (nb x)) ++ x :: l.filter (fun e => less (nb x) (nb e))
def getF (s : List UInt8) (l : List E) : Option E := l.find? (fun e => decide (nb e = s))
theorem fnil {p : E → Bool} {l : List E} (h : ∀ e ∈ l, p e = false) : l.filter p = [] := List.filter_eq_nil_iff.2 (fun e he => by rw [h e he]; decide)
section
variable {A M C : List E} {s : List UInt8} (hA : ∀ e ∈ A, less (nb e) s = true) (hC : ∀ e ∈ C, less s (nb e) = true) (hM : M = [] ∨ ∃ m, M = [m] ∧ nb m = s)
include hA hC hM
theorem lo_split : (A ++ (M ++ C)).filter (fun e => less (nb e) s) = A := by
  rw [List.filter_append, List.filter_append, List.filter_eq_self.2 hA, fnil (l := M) ?_, fnil (l := C) (fun e he => less_asymm (hC e he))]
  · simp
  · intro e he
    rcases hM with rfl | ⟨m, rfl, hm⟩
    · cases he
    · rw [List.mem_singleton.1 he, hm, less_irrefl]
theorem hi_split : (A ++ (M ++ C)).filter (fun e => less s (nb e)) = C := by
  rw [List.filter_append, List.filter_append, List.filter_eq_self.2 hC, fnil (l := M) ?_, fnil (l := A) (fun e he => less_asymm (hA e he))]
  · simp
  · intro e he
    rcases hM with rfl | ⟨m, rfl, hm⟩
    · cases he
    · rw [List.mem_singleton.1 he, hm, less_irrefl]
theorem get_split : getF s (A ++ (M ++ C)) = M.head? := by
  unfold getF
  rw [List.find?_append, List.find?_eq_none.2 (fun e he => by simp [less_ne (hA e he)])]
  rcases hM with rfl | ⟨m, rfl, hm⟩
  · rw [List.nil_append, List.find?_eq_none.2 (fun e he => by simp [(less_ne (hC e he)).symm])]; rfl
  · simp [hm]
end
theorem put_split {A M C : List E} {x : E} (hA : ∀ e ∈ A, less (nb e) (nb x) = true) (hC : ∀ e ∈ C, less (nb x) (nb e) = true) (hM : M = [] ∨ ∃ m, M = [m] ∧ nb m = nb x) :
    put x (A ++ (M ++ C)) = A ++ x :: C := by
  unfold put
  rw [lo_split hA hC hM, hi_split hA hC hM]
theorem put_right {x : E} {l : List E} (hr : right none l = true) (hx : okE x = true) : right none (put x l) = true := by
  obtain ⟨h1, _, h3⟩ := (right_iff l none).1 hr
  refine (right_iff _ none).2 ⟨fun e he => ?_, fun _ _ => rfl, ?_⟩
  · unfold put at he
    rcases List.mem_append.1 he with h | h
    · exact h1 e (List.mem_filter.1 h).1
    · rcases List.mem_cons.1 h with rfl | h
      · exact hx
      · exact h1 e (List.mem_filter.1 h).1
  · unfold put
    refine List.pairwise_append.2 ⟨h3.filter _, List.pairwise_cons.2 ⟨fun e he => (List.mem_filter.1 he).2, h3.filter _⟩, fun a ha b hb => ?_⟩
    have ha' := (List.mem_filter.1 ha).2
    rcases List.mem_cons.1 hb with rfl | hb
    · exact ha'
    · exact less_trans ha' (List.mem_filter.1 hb).2
theorem put_len {x : E} {l : List E} : (put x l).length ≤ l.length + 1 := by
  have key : ∀ l : List E, (l.filter (fun e => less (nb e) (nb x))).length + (l.filter (fun e => less (nb x) (nb e))).length ≤ l.length := by
    intro l
    induction l with
    | nil => simp
    | cons e l ih =>
      simp only [List.filter_cons, List.length_cons]
      by_cases h : less (nb e) (nb x) = true
      · have h2 : less (nb x) (nb e) = false := less_asymm h
        simp only [h, h2, if_true, Bool.false_eq_true, if_false, List.length_cons]; omega
      · have h' : less (nb e) (nb x) = false := by simpa using h
        simp only [h', Bool.false_eq_true, if_false]
        by_cases h2 : less (nb x) (nb e) = true
        · simp only [h2, if_true, List.length_cons]; omega
        · have h2' : less (nb x) (nb e) = false := by simpa using h2
          simp only [h2', Bool.false_eq_true, if_false]; omega
  have := key l
  unfold put
  rw [List.length_append, List.length_cons]; omega
def setR (l : List E) (x : E) : List E × Int := if right none l = true ∧ okE x = true then (if sumL (put x l) ≤ 250 then (put x l, 0) else ([], 15)) else ([], 1)
def getR (l : List E) (s : List UInt8) : ByteArray × Int := if right none l = true then (match getF s l with | some m => (m.f1, 0) | none => (⟨#[]⟩, 15)) else (⟨#[]⟩, 1)
end Go.Proofs.Ytffaggckhneakaa.At
end
section
namespace Go.Proofs.Ytffaggckhneakaa.Pr
open Go.RowKit Go.Proofs.YtffaggckhneakaaW.PrintWords Go.Proofs.YtffaggckhneakaaW.PrintLast Go.Proofs.YtffaggckhneakaaW.PrintMore
attribute [local go_sem] max2_int min2_int max_two min_two max_three min_three max_four min_four
attribute [local go_sem] Go.Proofs.Ytffaggckhneakaa.Hl.str_geq Go.Proofs.Ytffaggckhneakaa.Hl.str_gtr Go.Proofs.Ytffaggckhneakaa.Hl.str_leq
set_option linter.unusedVariables false
set_option linter.unusedSimpArgs false
theorem eqIn_nil {P : Program} (w : World) (d : Nat) (t e : TypeId) (a : Option Addr) (n c n' c' : Nat) (h : P.underlying t = some (.slice e)) : (Op.equalIn (d + 1) t (.slice a n c) (.slice none n' c')).run P w = .ok a.isNone w := by
  cases a <;> simp [Op.equalIn, run_underlying h]
theorem eql_nil {P : Program} (w : World) (t e : TypeId) (a : Option Addr) (n c n' c' : Nat) (h : P.underlying t = some (.slice e)) : (binOp .eql t (.slice a n c) (.slice none n' c')).run P w = .ok (.bool a.isNone) w := by
  simp only [binOp]
  simp [Op.equal, Op.maxDepth, eqIn_nil w 9999 t e a n c n' c' h]
def api_Pair_37.f (l0 : List S26) : Option (List S26) := if l0.length < 4398046511104 then some l0 else none
set_option maxHeartbeats 8000000 in
set_option maxRecDepth 100000 in
theorem api_Pair_37.calls (A0 : Option Addr) (c0 : Nat) (l0 : List (S26)) (r : List (S26)) (w : World) (hr0 : Kd.C k26 w A0 l0.length l0) (hc0 : l0.length ≤ c0) (h : api_Pair_37.f l0 = some r) :
    Calls Try.prog 37 #[.slice A0 l0.length c0] w fun e w' => ∃ v0_ : Value, e = .returned (v0_) ∧ Kd.R k26 26 w' w.heap.size (fun _ => True) v0_ r ∧ Below w.heap.size w w' := by
  unfold api_Pair_37.f at h
  by_cases hl : l0.length < 4398046511104
  · rw [if_pos hl] at h
    obtain rfl := Option.some.inj h
    have hu26 := Try.underlying26
    cases A0 with
    | none =>
      obtain rfl : l0 = [] := by
        rcases Nat.eq_zero_or_pos l0.length with h0 | h0
        · exact List.eq_nil_of_length_eq_zero h0
        · obtain ⟨ad, e, _⟩ := hr0.2.2 h0
          cases e
      clear hr0
      have hq := fun W : World => eql_nil (P := Try.prog) W 22 26 none 0 c0 0 0 Try.underlying22
      simp only [Option.isNone_none] at hq
      go_enter Try.func37, Try.ntmps37
      go_wp2
      go_ret
      exact ⟨_, rfl, Kd.R_nil _ _ _ _ _, Below.refl _ _⟩
    | some ad =>
      have HR0 := Aside0.mk hr0
      have HC0 := Aside0.mk hc0
      have HL := Aside0.mk hl
      clear hr0 hc0 hl h
      have hq := fun W : World => eql_nil (P := Try.prog) W 22 26 (some ad) l0.length c0 0 0 Try.underlying22
      simp only [Option.isNone_some] at hq
      go_enter Try.func37, Try.ntmps37
      go_wp2_with (first | ((with_reducible refine gate_builtin (b := .append) (xs := #[.tmp 5, .tmp 6]) rfl ?_); at_builtin; refine Kd.R_append_rows k26 (w0 := w) w.heap.size rfl (.tmp 5) (.tmp 6) 22 26 (.agg #[(.string ⟨#[]⟩), (.string ⟨#[]⟩)]) 32 rfl Try.underlying22 info26 rfl (by decide) (by omega) v1 [] l0 _ _ _ (fun _ => True) (fun _ => False) rfl rfl ho1.out (Kd.C_below HR0.out hb1.out) (fun _ _ h => h) (fun _ h => h.elim) (fun _ _ => trivial) hb1.out hb1.out.size (by have := HL.out; simp only [List.length_nil]; omega) ?_; intro v2 w2 ho2 hb2 hg2 hat2; rw [List.nil_append] at ho2; have HO2 := Aside0.mk ho2; have HB2 := Aside0.mk hb2; clear ho2 hb2 hg2 hat2) | ((with_reducible refine gate_dst (N := 5) rfl ?_); refine Kd.R_lit k26 (w0 := w) _ 26 ?hg (N := 5) ?hd (xs := ([] : List S26)) (inner := []) (ok := fun _ => True) (okp := fun _ => True) ?hr ?hp (fun _ hk => hk) trivial (Below.refl _ _) (Nat.le_refl _) (by simp) ?_; (case hd => rfl); (case hg => rfl); (case hr => first | (go_simp; done) | (go_simp; rfl)); (case hp => exact (Reps.none _ _)); intro v1 w1 ho1' hb1' hg1 hn1; have ho1 := Aside0.mk ho1'; have hb1 := Aside0.mk hb1'; clear ho1' hb1' hg1 hn1))
      go_ret
      exact ⟨_, rfl, HO2.out, HB2.out⟩
  · rw [if_neg hl] at h
    cases h
end Go.Proofs.Ytffaggckhneakaa.Pr
end
section
namespace Go.Proofs.Ytffaggckhneakaa.Rw
open Go.RowKit Go.Proofs.YtffaggckhneakaaW.PrintWords Go.Proofs.YtffaggckhneakaaW.PrintLast Go.Proofs.YtffaggckhneakaaW.PrintMore Go.Proofs.Ytffaggckhneakaa.Pr
set_option linter.unusedVariables false
set_option linter.unusedSimpArgs false
abbrev E := S26
def cells2 (e : E) : List Value := [.string e.f0, .string e.f1]
def flat (xs : List E) : List Value := xs.flatMap cells2
theorem flat_cons (e : E) (xs : List E) : flat (e :: xs) = cells2 e ++ flat xs := rfl
theorem flat_append (a b : List E) : flat (a ++ b) = flat a ++ flat b := by unfold flat; rw [List.flatMap_append]
theorem flat_len : ∀ xs : List E, (flat xs).length = xs.length * 2
  | [] => rfl
  | e :: xs => by rw [flat_cons, List.length_append, flat_len xs, List.length_cons]; simp [cells2]; omega
theorem flat_take : ∀ (xs : List E) (n : Nat), flat (xs.take n) = (flat xs).take (n * 2)
  | [], n => by simp [flat]
  | e :: xs, 0 => by simp [flat]
  | e :: xs, n + 1 => by
    rw [List.take_succ_cons, flat_cons, flat_cons, flat_take xs n, show (n + 1) * 2 = (cells2 e).length + n * 2 by simp [cells2]; omega, List.take_length_add_append]
theorem flat_drop : ∀ (xs : List E) (n : Nat), flat (xs.drop n) = (flat xs).drop (n * 2)
  | [], n => by simp [flat]
  | e :: xs, 0 => by simp
  | e :: xs, n + 1 => by
    rw [List.drop_succ_cons, flat_cons, flat_drop xs n, show (n + 1) * 2 = (cells2 e).length + n * 2 by simp [cells2]; omega, List.drop_length_add_append]
theorem flat_of : ∀ (xs : List E) (inner : List Value), inner.length = xs.length * 2 → (∀ j p, xs[j]? = some p → (inner.drop (j * 2)).take 2 = cells2 p) → inner = flat xs
  | [], inner, hl, _ => List.eq_nil_of_length_eq_zero (by simpa using hl)
  | e :: xs, inner, hl, h => by
    have h0 := h 0 e rfl
    rw [Nat.zero_mul, List.drop_zero] at h0
    have hr := flat_of xs (inner.drop 2) (by rw [List.length_drop, hl, List.length_cons]; omega) (fun j p hj => by
      have := h (j + 1) p (by simpa using hj)
      rw [List.drop_drop, show 2 + j * 2 = (j + 1) * 2 by omega]
      exact this)
    rw [flat_cons, ← h0, ← hr, List.take_append_drop]
theorem flat_at : ∀ (xs : List E) (j : Nat) (p : E), xs[j]? = some p → ((flat xs).drop (j * 2)).take 2 = cells2 p
  | e :: xs, 0, p, h => by
    simp only [List.getElem?_cons_zero, Option.some.injEq] at h
    subst h
    rw [Nat.zero_mul, List.drop_zero, flat_cons, List.take_append_of_le_length (by simp [cells2]), List.take_of_length_le (by simp [cells2])]
  | e :: xs, j + 1, p, h => by
    rw [← flat_drop, List.drop_succ_cons, flat_drop]
    exact flat_at xs j p (by simpa using h)
theorem flat_one : ∀ (xs : List E), ∀ v ∈ flat xs, v.oneCell' = true := by
  intro xs v hv
  obtain ⟨e, _, h⟩ := List.mem_flatMap.1 hv
  simp only [cells2, List.mem_cons, List.not_mem_nil, or_false] at h
  rcases h with rfl | rfl <;> rfl
theorem R_flat {w : World} {base : Nat} {ok : Nat → Prop} {v : Value} {xs : List E} (h : Kd.R k26 26 w base ok v xs) : w.ownsRow base 26 2 v xs.length (flat xs) := by
  obtain ⟨h0, inner, ho, hr⟩ := h
  have : inner = flat xs := flat_of xs inner hr.1 (fun j p hj => k26_openM (hr.2 j p hj))
  rw [← this]; exact ho
theorem flat_R {w : World} {base : Nat} {ok : Nat → Prop} {v : Value} {xs : List E} (ho : w.ownsRow base 26 2 v xs.length (flat xs)) (hok : ∀ k, v.ownBlock = some k → ok k) : Kd.R k26 26 w base ok v xs :=
  ⟨hok, flat xs, ho, flat_len xs, fun j p hj => by rw [show k26.sz = 2 from rfl, flat_at xs j p hj]; exact k26_mkM _ _ _ p⟩
theorem run_copy_cells {P : Program} (w : World) (dT sT ty elem : TypeId) (g o dLen dCap : Nat) (a : Addr) (sLen sCap : Nat) (cur : Array Value) (t : TypeId) (cs : List Value) (n sz : Nat)
    (hu : P.underlying dT = some (.slice elem)) (hs : (P.info? elem).map (·.size) = some sz)
    (hg : w.heap[g]? = some (.cells cur t (0, 0))) (hn : n = Nat.min sLen dLen) (hcl : cs.length = n * sz)
    (hsrc : ∀ j v, cs[j]? = some v → w.cell? (a.add j) = some v) (hfit : o + cs.length ≤ cur.size) (h1 : ∀ v ∈ cs, v.oneCell' = true) :
    (Builtin.copy_ #[dT, sT] ty #[.slice (some ⟨g, o, none⟩) dLen dCap, .slice (some a) sLen sCap]).run P w =
      .ok (goInt n) (w.setRow g (cur.toList.take o ++ cs ++ cur.toList.drop (o + cs.length)).toArray) := by
  have hl := run_loadCells_list (P := P) w a cs hsrc
  have hst := run_storeCells_at P g o t cs 0 cur w hg (by simpa using hfit) h1
  cases hq : P.info? elem with
  | none => simp [hq] at hs
  | some i =>
    have hi : i.size = sz := by simpa [hq] using hs
    rw [hcl] at hl
    simp [Builtin.copy_, run_underlying hu, Builtin.lenOf, Builtin.firstCells, sizeOf, typeInfo, hq, hi, ← hn, hl, hst]
section
variable {P : Program} {ops : Array Oper} {rest : List Oper} {o : Oper} {a : Act} {Q : Exit → Act → World → Prop} {Kc : Act → World → Prop}
theorem copy_step (w : World) (hw : Region.wanted o (yielded ops a.tmps) = true) (d s : Operand) (t t' : TypeId) (ho : o.op = .call { callee := .builtin .copy, args := #[d, s], argTypes := #[t, t'] }) (v u : Value) (hd : a.eval d = v) (hs : a.eval s = u) {v' : Value} {w' : World}
    (hr : (Builtin.copy_ #[t, t'] o.type #[v, u]).run P w = .ok v' w') (h : Kc (a.put o.dst v') w') : if Region.wanted o (yielded ops a.tmps) = true then Oper.wp P o a w Kc Q else Kc (a.put o.dst undef) w := by
  rw [if_pos hw]
  unfold Oper.wp execOp
  simp only [ho, resolve, invoke, builtin, Sem.run_bind, Sem.run_pure, Result.andThen_ok, List.map_toArray, List.map_cons, List.map_nil, hd, hs, hr]
  exact h
theorem append_ev (w : World) (hgd : o.guard = none) (d s : Operand) (t t' : TypeId) (ho : o.op = .call { callee := .builtin .append, args := #[d, s], argTypes := #[t, t'] }) (v u : Value) (hd : a.eval d = v) (hs : a.eval s = u) {v' : Value} {w' : World}
    (hr : (Builtin.append_ #[t, t'] o.type #[v, u]).run P w = .ok v' w') (h : wpList P ops Q rest (a.put o.dst v') w') : wpList P ops Q (o :: rest) a w := by
  refine wpList_plain hgd fun K hK => ?_
  unfold Oper.wp execOp
  simp only [ho, resolve, invoke, builtin, Sem.run_bind, Sem.run_pure, Result.andThen_ok, List.map_toArray, List.map_cons, List.map_nil, hd, hs, hr]
  exact hK _ _ h
end
theorem own_open {w : World} {base : Nat} {v : Value} {n : Nat} {cs : List Value} {e sz : Nat} (ho : w.ownsRow base e sz v n cs) (hp : 0 < n) :
    ∃ g cap cur, v = .slice (some ⟨g, 0, none⟩) n cap ∧ base ≤ g ∧ w.heap[g]? = some (.cells cur e (0, 0)) ∧ n ≤ cap ∧ cap ≤ maxLen ∧ cur.size = cap * sz ∧ cur.toList.take (n * sz) = cs := by
  rcases ho.2 with ⟨_, h0⟩ | h
  · omega
  · exact h
theorem below_turn {B g : Nat} {w0 w : World} (hb : Below B w0 w) (hBg : B ≤ g) (cs : Array Value) : Below B w0 (w.setRow g cs) :=
  hb.trans ⟨rfl, rfl, rfl, by simp [World.setRow], fun k hk => setRow_other w g k cs (by omega)⟩
theorem zero_len (q : Nat) : (Builtin.zeroCells (Value.agg #[(.string ⟨#[]⟩), (.string ⟨#[]⟩)]).cells q).size = q * 2 := by simp [Builtin.zeroCells, Value.cells]
end Go.Proofs.Ytffaggckhneakaa.Rw
end
section
namespace Go.Proofs.Ytffaggckhneakaa.Pr
open Go.RowKit Go.Proofs.YtffaggckhneakaaW.PrintWords Go.Proofs.YtffaggckhneakaaW.PrintLast Go.Proofs.YtffaggckhneakaaW.PrintMore
attribute [local go_sem] max2_int min2_int max_two min_two max_three min_three max_four min_four
attribute [local go_sem] Go.Proofs.Ytffaggckhneakaa.Hl.str_geq Go.Proofs.Ytffaggckhneakaa.Hl.str_gtr Go.Proofs.Ytffaggckhneakaa.Hl.str_leq
set_option linter.unusedVariables false
set_option linter.unusedSimpArgs false
theorem ins_row (W : World) (vb : Nat) (p : S26) (hV : W.heap[vb]? = some (.cells #[.string p.f0, .string p.f1] 26 (0, 0))) : Kd.C k26 W (some ⟨vb, 0, none⟩) 1 [p] := by
  refine ⟨rfl, by simp, fun _ => ⟨_, rfl, fun j q hj => ?_⟩⟩
  cases j with
  | zero =>
    simp only [List.getElem?_cons_zero, Option.some.injEq] at hj
    subst hj
    refine ⟨[.string p.f0, .string p.f1], rfl, k26_mk _ p, fun i u hu => ?_⟩
    rw [add_plain]
    have e : 0 * k26.sz + i = i := by rw [show k26.sz = 2 from rfl]; omega
    rw [e, blk_cell hV i]
    simpa using hu
  | succ j => simp at hj
def flat2 (xs : List S26) (i : Nat) : List Value := (Rw.flat xs).drop (i * 2)
set_option maxHeartbeats 8000000 in
set_option maxRecDepth 100000 in
theorem ins_calls (W : World) (base : Nat) (v : Value) (xs : List S26) (p : S26) (vb i n : Nat) (hn : xs.length = n) (hO : Kd.R k26 26 W base (fun _ => True) v xs) (hV : W.heap[vb]? = some (.cells #[.string p.f0, .string p.f1] 26 (0, 0)))
    (hne : ∀ g, v.ownBlock = some g → g ≠ vb) (hbase : base ≤ W.heap.size) (hi : i ≤ n) (hl : n < 4398046511103) :
    Calls Try.prog 39 #[v, .int .i64 i, .slice (some ⟨vb, 0, none⟩) 1 1] W fun e w' => ∃ v', e = .returned v' ∧ Kd.R k26 26 w' base (fun _ => True) v' (xs.take i ++ p :: xs.drop i) ∧ Below base W w' := by
  have hw : ∀ z : Int, 0 ≤ z → z < 9223372036854775807 → wrap64 z = z := fun z _ _ => by unfold wrap64; omega
  have hu26 := Try.underlying26
  have hi26 := info26
  obtain ⟨A, c, rfl⟩ := Kd.R_slice hO
  rw [hn] at hO
  by_cases hin : i = n
  · subst hin
    have HO := Aside0.mk hO
    have HL := Aside0.mk hl
    have HN := Aside0.mk hn
    have hCV := Aside0.mk (ins_row W vb p hV)
    have h0 : (0 : Int) ≤ (i : Int) := by omega
    have h1 : (i : Int) ≤ (i : Int) := by omega
    rw [hn]
    clear hO hl hn hV hne hw
    cases A with
    | none =>
      obtain ⟨rfl, rfl⟩ : i = 0 ∧ c = 0 := by
        rcases (Rw.R_flat HO.out).2 with ⟨h, _⟩ | ⟨g', c', cur', h, _⟩
        · injection h with h1 h2 h3
          exact ⟨h2, h3⟩
        · cases h
      go_enter Try.func39, Try.ntmps39
      go_wp2_with ((with_reducible refine gate_builtin (b := .append) (xs := #[.tmp 23, .tmp 24]) rfl ?_); at_builtin; refine Kd.R_append_rows k26 (w0 := W) base rfl (.tmp 23) (.tmp 24) 22 26 (.agg #[(.string ⟨#[]⟩), (.string ⟨#[]⟩)]) 32 rfl Try.underlying22 info26 rfl (by decide) (by omega) _ xs [p] _ _ _ (fun _ => True) (fun _ => False) rfl rfl HO.out hCV.out (fun _ _ h => h) (fun _ h => h.elim) (fun _ _ => trivial) (Below.refl _ _) hbase (by have := HL.out; have := HN.out; omega) ?_; intro v2 w2 ho2 hb2 hg2 hat2; have HO2 := Aside0.mk ho2; have HB2 := Aside0.mk hb2; clear ho2 hb2 hg2 hat2)
      go_ret
      have e1 : ∀ j, xs.length = j → xs.take j ++ p :: xs.drop j = xs ++ [p] := fun j h => by rw [List.take_of_length_le (by omega), List.drop_of_length_le (by omega)]
      rw [e1 _ HN.out]
      exact ⟨_, rfl, HO2.out, HB2.out⟩
    | some ad =>
      by_cases hci : c = i
      · subst hci
        go_enter Try.func39, Try.ntmps39
        go_wp2_with ((with_reducible refine gate_builtin (b := .append) (xs := #[.tmp 23, .tmp 24]) rfl ?_); at_builtin; refine Kd.R_append_rows k26 (w0 := W) base rfl (.tmp 23) (.tmp 24) 22 26 (.agg #[(.string ⟨#[]⟩), (.string ⟨#[]⟩)]) 32 rfl Try.underlying22 info26 rfl (by decide) (by omega) _ xs [p] _ _ _ (fun _ => True) (fun _ => False) rfl rfl HO.out hCV.out (fun _ _ h => h) (fun _ h => h.elim) (fun _ _ => trivial) (Below.refl _ _) hbase (by have := HL.out; have := HN.out; omega) ?_; intro v2 w2 ho2 hb2 hg2 hat2; have HO2 := Aside0.mk ho2; have HB2 := Aside0.mk hb2; clear ho2 hb2 hg2 hat2)
        go_ret
        have e1 : ∀ j, xs.length = j → xs.take j ++ p :: xs.drop j = xs ++ [p] := fun j h => by rw [List.take_of_length_le (by omega), List.drop_of_length_le (by omega)]
        rw [e1 _ HN.out]
        exact ⟨_, rfl, HO2.out, HB2.out⟩
      · skip
        go_enter Try.func39, Try.ntmps39
        go_wp2_with ((with_reducible refine gate_builtin (b := .append) (xs := #[.tmp 23, .tmp 24]) rfl ?_); at_builtin; refine Kd.R_append_rows k26 (w0 := W) base rfl (.tmp 23) (.tmp 24) 22 26 (.agg #[(.string ⟨#[]⟩), (.string ⟨#[]⟩)]) 32 rfl Try.underlying22 info26 rfl (by decide) (by omega) _ xs [p] _ _ _ (fun _ => True) (fun _ => False) rfl rfl HO.out hCV.out (fun _ _ h => h) (fun _ h => h.elim) (fun _ _ => trivial) (Below.refl _ _) hbase (by have := HL.out; have := HN.out; omega) ?_; intro v2 w2 ho2 hb2 hg2 hat2; have HO2 := Aside0.mk ho2; have HB2 := Aside0.mk hb2; clear ho2 hb2 hg2 hat2)
        go_ret
        have e1 : ∀ j, xs.length = j → xs.take j ++ p :: xs.drop j = xs ++ [p] := fun j h => by rw [List.take_of_length_le (by omega), List.drop_of_length_le (by omega)]
        rw [e1 _ HN.out]
        exact ⟨_, rfl, HO2.out, HB2.out⟩
  · have hlt : i < n := by omega
    have hp0 : 0 < xs.length := by omega
    have h0 : (0 : Int) ≤ (i : Int) := by omega
    have h1 : (i : Int) ≤ (n : Int) := by omega
    have hne1 : ((i : Int) == (n : Int)) = false := beq_eq_false_iff_ne.2 (by omega)
    have hn63 : (n : Int) + 1 < 9223372036854775807 := by omega
    have hi63 : (i : Int) + 1 < 9223372036854775807 := by omega
    have HW1 := Aside0.mk (hw ((n : Int) + 1) (by omega) hn63)
    have HW3 := Aside0.mk (hw ((i : Int) + 1) (by omega) hi63)
    have hXl : (flat2 xs i).length = (n - i) * 2 := by unfold flat2; rw [List.length_drop, Rw.flat_len, hn]; omega
    have hflen : (xs.take i ++ p :: xs.drop i).length = n + 1 := by rw [List.length_append, List.length_cons, List.length_take, List.length_drop, hn]; omega
    have HW4 := Aside0.mk ((hw ((n : Int) + 1 - (i : Int)) (by omega) (by omega)).trans (by omega : (n : Int) + 1 - (i : Int) = ((n + 1 - i : Nat) : Int)))
    clear hw hn63 hi63
    obtain ⟨g, c', cur, hv, hbg, hg, hnc, hcm, hcs, htk⟩ := Rw.own_open (Rw.R_flat hO) hp0
    have HCM := Aside0.mk hcm
    clear hcm
    injection hv with hv1 hv2 hv3
    subst hv1
    subst hv3
    clear hv2
    rw [hn] at hnc htk ⊢
    have hgv : g ≠ vb := hne g rfl
    have hglt : g < W.heap.size := blk_lt hg
    have hvlt : vb < W.heap.size := blk_lt hV
    have hcl : cur.toList.length = c * 2 := by rw [Array.length_toList, hcs]
    have hci : ¬ (c = i) := fun e => absurd hlt (by rw [← e]; exact Nat.not_lt.2 hnc)
    have hcells : ∀ j u, (flat2 xs i)[j]? = some u → W.cell? ⟨g, i * 2 + j, none⟩ = some u := by
      intro j u hj
      rw [blk_cell hg, ← Array.getElem?_toList]
      unfold flat2 at hj
      rw [List.getElem?_drop, ← htk, List.getElem?_take] at hj
      split at hj
      · exact hj
      · cases hj
    have hadd : ∀ b o j : Nat, (⟨b, o, none⟩ : Addr).add j = ⟨b, o + j, none⟩ := fun b o j => by unfold Addr.add; split <;> simp_all
    have hfl1 : ∀ v ∈ flat2 xs i, v.oneCell' = true := fun v hv => Rw.flat_one xs v (List.mem_of_mem_drop hv)
    have hpl1 : ∀ v ∈ Rw.cells2 p, v.oneCell' = true := by intro v hv; simp only [Rw.cells2, List.mem_cons, List.not_mem_nil, or_false] at hv; rcases hv with rfl | rfl <;> rfl
    have hfin : Rw.flat (xs.take i ++ p :: xs.drop i) = (Rw.flat xs).take (i * 2) ++ Rw.cells2 p ++ flat2 xs i := by
      rw [Rw.flat_append, Rw.flat_cons, Rw.flat_take, Rw.flat_drop, ← List.append_assoc]; rfl
    by_cases hcap : (n : Int) + 1 > (c : Int)
    ·
      obtain ⟨i0, hi0, hz3⟩ := Option.map_eq_some_iff.1 info26
      simp only [Prod.mk.injEq] at hz3
      obtain ⟨kk, hkk⟩ : ∃ kk, kk = n + 1 - i := ⟨_, rfl⟩
      have hol : ((Rw.flat xs).take (i * 2)).length = i * 2 := by rw [List.length_take, Rw.flat_len, hn]; omega
      have hocell : ∀ j u, ((Rw.flat xs).take (i * 2))[j]? = some u → W.cell? ⟨g, 0 + j, none⟩ = some u := by
        intro j u hj
        rw [Nat.zero_add, blk_cell hg, ← Array.getElem?_toList]
        rw [List.getElem?_take] at hj
        split at hj
        · rw [← htk, List.getElem?_take] at hj
          split at hj
          · exact hj
          · cases hj
        · cases hj
      have hap := Lib.run_append_grow_zeros (P := Try.prog) W 22 3 22 26 i0 (.agg #[(.string ⟨#[]⟩), (.string ⟨#[]⟩)]) .i64 .i64 Try.underlying22 Try.underlying3 hi0 hz3.1 (some ⟨g, 0, none⟩) i c ((Rw.flat xs).take (i * 2)) (by
          have h := run_loadCells_list (P := Try.prog) W.drew ⟨g, 0, none⟩ ((Rw.flat xs).take (i * 2)) (fun j u hj => by rw [hadd]; exact hocell j u hj)
          rw [hol] at h
          rw [hz3.2.1]
          exact h) kk (by omega) (by rw [hz3.2.1]; decide) (by omega) (by omega) (by rw [hz3.2.2]; omega) (by rw [hz3.2.2]; exact growslice_fits_wide (by omega) (by omega))
      have hsum : i + kk = n + 1 := by omega
      rw [hsum] at hap
      obtain ⟨C2, hC2⟩ : ∃ C2, C2 = grownCap W (n + 1) c 26 := ⟨_, rfl⟩
      have hC2n : n + 1 ≤ C2 := by rw [hC2]; exact grownCap_ge _ _ _ _
      have hC2m : C2 ≤ maxLen := by rw [hC2]; exact grownCap_le_maxLen _ _ _ _ (by unfold maxLen; omega)
      rw [← hC2] at hap
      obtain ⟨N0, hN0⟩ : ∃ N0 : Array Value, N0 = ((Rw.flat xs).take (i * 2)).toArray ++ Builtin.zeroCells (Value.agg #[(.string ⟨#[]⟩), (.string ⟨#[]⟩)]).cells kk ++ Builtin.zeroCells (Value.agg #[(.string ⟨#[]⟩), (.string ⟨#[]⟩)]).cells (C2 - (n + 1)) := ⟨_, rfl⟩
      rw [← hN0] at hap
      have hN0s : N0.size = C2 * 2 := by rw [hN0, Array.size_append, Array.size_append, List.size_toArray, hol, Rw.zero_len, Rw.zero_len]; omega
      have hN0l : N0.toList.length = C2 * 2 := by rw [Array.length_toList, hN0s]
      have hN0t : N0.toList.take (i * 2) = (Rw.flat xs).take (i * 2) := by
        rw [hN0, Array.toList_append, Array.toList_append, List.toList_toArray, List.append_assoc, List.take_append_of_le_length (by rw [hol]; exact Nat.le_refl _), List.take_of_length_le (by rw [hol]; exact Nat.le_refl _)]
      have hb0 : (W.alloc (.cells N0 26)).drew.heap[W.heap.size]? = some (.cells N0 26 (0, 0)) := blk_drew (blk_new W _)
      have hl2 : (Rw.cells2 p).length = 2 := rfl
      obtain ⟨N1, hN1⟩ : ∃ N1 : Array Value, N1 = (N0.toList.take (i * 2) ++ Rw.cells2 p ++ N0.toList.drop (i * 2 + (Rw.cells2 p).length)).toArray := ⟨_, rfl⟩
      have hN1s : N1.size = C2 * 2 := by rw [hN1]; simp only [List.size_toArray, List.length_append, List.length_take, List.length_drop, hN0l, hl2]; omega
      have hN1l : N1.toList.length = C2 * 2 := by rw [Array.length_toList, hN1s]
      have hr1 := Rw.run_copy_cells (P := Try.prog) (W.alloc (.cells N0 26)).drew 22 22 3 26 W.heap.size (i * 2) (n + 1 - i) (C2 - i) ⟨vb, 0, none⟩ 1 1 N0 26 (Rw.cells2 p) 1 2 Try.underlying22 (by kernel_rfl) hb0 (by show 1 = min _ _; omega) rfl (fun j u hj => by
          rw [hadd, Nat.zero_add, blk_cell (blk_drew (blk_alloc hV _))]
          simpa [Rw.cells2] using hj) (by rw [hN0s, hl2]; omega) hpl1
      rw [← hN1] at hr1
      obtain ⟨N2, hN2⟩ : ∃ N2 : Array Value, N2 = (N1.toList.take ((i + 1) * 2) ++ flat2 xs i ++ N1.toList.drop ((i + 1) * 2 + (flat2 xs i).length)).toArray := ⟨_, rfl⟩
      have hN2s : N2.size = C2 * 2 := by rw [hN2]; simp only [List.size_toArray, List.length_append, List.length_take, List.length_drop, hN1l, hXl]; omega
      have hgne : g ≠ W.heap.size := by omega
      have hb1 : ((W.alloc (.cells N0 26)).drew.setRow W.heap.size N1).heap[W.heap.size]? = some (.cells N1 26 (0, 0)) := setRow_heap _ _ N0 _ 26 (0, 0) hb0
      have hg1 : ((W.alloc (.cells N0 26)).drew.setRow W.heap.size N1).heap[g]? = some (.cells cur 26 (0, 0)) := by
        rw [setRow_other _ _ _ _ hgne]; exact blk_drew (blk_alloc hg _)
      have hr2 := Rw.run_copy_cells (P := Try.prog) ((W.alloc (.cells N0 26)).drew.setRow W.heap.size N1).drew 22 22 3 26 W.heap.size ((i + 1) * 2) (n - i) (C2 - (i + 1)) ⟨g, i * 2, none⟩ (n - i) (c - i) N1 26 (flat2 xs i) (n - i) 2 Try.underlying22 (by kernel_rfl) (blk_drew hb1) (by show n - i = min _ _; omega) hXl (fun j u hj => by
          rw [hadd, blk_cell (blk_drew hg1), ← blk_cell hg]
          exact hcells j u hj) (by rw [hN1s, hXl]; omega) hfl1
      rw [← hN2] at hr2
      have e1 : N1.toList.take ((i + 1) * 2) = (Rw.flat xs).take (i * 2) ++ Rw.cells2 p := by
        have hl3 : ((Rw.flat xs).take (i * 2) ++ Rw.cells2 p).length = (i + 1) * 2 := by rw [List.length_append, hol, hl2]; omega
        rw [hN1, List.toList_toArray, hN0t, ← hl3, List.take_left]
      have hNew : N2.toList.take ((n + 1) * 2) = Rw.flat (xs.take i ++ p :: xs.drop i) := by
        have hln : ((Rw.flat xs).take (i * 2) ++ Rw.cells2 p ++ flat2 xs i).length = (n + 1) * 2 := by
          rw [List.length_append, List.length_append, hol, hXl, hl2]; omega
        rw [hN2, List.toList_toArray, e1, hfin, ← hln, List.take_left]
      have HFR := Aside0.mk (Rw.flat_R (w := ((W.alloc (.cells N0 26)).drew.setRow W.heap.size N1).drew.setRow W.heap.size N2) (base := base) (ok := fun _ => True) (v := .slice (some ⟨W.heap.size, 0, none⟩) (n + 1) C2) (xs := xs.take i ++ p :: xs.drop i) ⟨Rw.flat_len _, .inr ⟨W.heap.size, C2, N2, by rw [hflen], hbase, setRow_heap _ _ N1 _ 26 (0, 0) (blk_drew hb1), by rw [hflen]; exact hC2n, hC2m, hN2s, by rw [hflen]; exact hNew⟩⟩ (fun _ _ => trivial))
      have HBE := Aside0.mk (Rw.below_turn (below_drew1 (Rw.below_turn (below_drew1 ((Below.refl base W).alloc hbase (.cells N0 26))) hbase N1)) hbase N2)
      have hcb : decide ((c : Int) < (n : Int) + 1) = true := decide_eq_true (by omega)
      have hci2 : ¬ (C2 = i) := by omega
      have hci3 : ¬ (C2 = i + 1) := by omega
      have hic : i ≤ c := by omega
      have g3 : (0 : Int) ≤ (i : Int) + 1 := by omega
      have g4 : ((i : Int) + 1).toNat = i + 1 := by omega
      have g5 : (i : Int) + 1 ≤ (n : Int) + 1 := by omega
      have g6 : i ≤ n + 1 := by omega
      have g12 : (i : Int) ≤ (n : Int) + 1 := by omega
      have g8 := HW1.out
      have g9 := HW3.out
      have g13' : wrap64 ((n : Int) + 1 - (i : Int)) = (kk : Int) := by rw [hkk]; exact HW4.out
      have G13 := Aside0.mk g13'
      clear g13'
      have G11 := Aside0.mk hr2
      have HAP := Aside0.mk hap
      clear hap hr2 e1 hNew hN0 hN1 hN2 hN0s hN1s hN2s hN0l hN1l hN0t hb0 hb1 hg1 hgne hl2 hcap hfin hflen hXl hfl1 hpl1 hadd hcells hcl hcs htk hg hV hO hne hl hlt hp0 hi hn hin hnc hglt hvlt hgv hbg hC2 hC2n hC2m hsum hkk hol hocell hi0 hz3
      go_enter Try.func39, Try.ntmps39
      go_wp2_with ((with_reducible refine gate_builtin (b := .append) (xs := #[.tmp 34, .tmp 39]) rfl ?_); at_builtin; refine Rw.append_ev W rfl (.tmp 34) (.tmp 39) 22 3 rfl (.slice (some ⟨g, 0, none⟩) i c) (.int .i64 (kk : Int)) rfl (congrArg (Value.int .i64) G13.out) HAP.out ?_)
      refine start_ (n := 9) (S := fun w' => True) (ds := []) #[false, false, false, false, false, false, false, false, false] (by kernel_rfl) rfl rfl trivial (fun hHeld => ?_)
      refine pure_ (i := 0) (N := some 46) (v := ?_) (a' := ?_) #[true, false, false, false, false, false, false, false, false] rfl rfl (by kernel_rfl) (fun _ _ _ h => h) (Or.inl ⟨by rfl, ?_⟩) ?_ ?_
      rotate_left
      · intro w'
        go_simp
        with_reducible rfl
      rotate_left
      · simp only [Act.put, List.setIfInBounds_toArray, List.set_cons_zero, List.set_cons_succ, i64_w, i32_w]
        rfl
      refine pure_ (i := 1) (N := some 47) (v := ?_) (a' := ?_) #[true, true, false, false, false, false, false, false, false] rfl rfl (by kernel_rfl) (fun _ _ _ h => h) (Or.inl ⟨by rfl, ?_⟩) ?_ ?_
      rotate_left
      · intro w'
        go_simp
        with_reducible rfl
      rotate_left
      · simp only [Act.put, List.setIfInBounds_toArray, List.set_cons_zero, List.set_cons_succ, i64_w, i32_w]
        rfl
      refine pure_ (i := 2) (N := some 48) (v := ?_) (a' := ?_) #[true, true, true, false, false, false, false, false, false] rfl rfl (by kernel_rfl) (fun _ _ _ h => h) (Or.inl ⟨by rfl, ?_⟩) ?_ ?_
      rotate_left
      · intro w'
        go_simp
        with_reducible rfl
      rotate_left
      · simp only [Act.put, List.setIfInBounds_toArray, List.set_cons_zero, List.set_cons_succ, i64_w, i32_w]
        rfl
      refine pure_ (i := 3) (N := some 49) (v := ?_) (a' := ?_) #[true, true, true, true, false, false, false, false, false] rfl rfl (by kernel_rfl) (fun _ _ _ h => h) (Or.inl ⟨by rfl, ?_⟩) ?_ ?_
      rotate_left
      · intro w'
        go_simp
        with_reducible rfl
      rotate_left
      · simp only [Act.put, List.setIfInBounds_toArray, List.set_cons_zero, List.set_cons_succ, i64_w, i32_w]
        rfl
      refine pure_ (i := 4) (N := some 50) (v := ?_) (a' := ?_) #[true, true, true, true, true, false, false, false, false] rfl rfl (by kernel_rfl) (fun _ _ _ h => h) (Or.inl ⟨by rfl, ?_⟩) ?_ ?_
      rotate_left
      · intro w'
        go_simp
        with_reducible rfl
      rotate_left
      · simp only [Act.put, List.setIfInBounds_toArray, List.set_cons_zero, List.set_cons_succ, i64_w, i32_w]
        rfl
      refine pure_ (i := 5) (N := some 51) (v := ?_) (a' := ?_) #[true, true, true, true, true, true, false, false, false] rfl rfl (by kernel_rfl) (fun _ _ _ h => h) (Or.inl ⟨by rfl, ?_⟩) ?_ ?_
      rotate_left
      · intro w'
        go_simp
        with_reducible rfl
      rotate_left
      · simp only [Act.put, List.setIfInBounds_toArray, List.set_cons_zero, List.set_cons_succ, i64_w, i32_w]
        rfl
      refine pure_ (i := 6) (N := some 52) (v := ?_) (a' := ?_) #[true, true, true, true, true, true, true, false, false] rfl rfl (by kernel_rfl) (fun _ _ _ h => h) (Or.inl ⟨by rfl, ?_⟩) ?_ ?_
      rotate_left
      · intro w'
        go_simp
        with_reducible rfl
      rotate_left
      · simp only [Act.put, List.setIfInBounds_toArray, List.set_cons_zero, List.set_cons_succ, i64_w, i32_w]
        rfl
      refine pure_ (i := 7) (N := some 53) (v := ?_) (a' := ?_) #[true, true, true, true, true, true, true, true, false] rfl rfl (by kernel_rfl) (fun _ _ _ h => h) (Or.inl ⟨by rfl, ?_⟩) ?_ ?_
      rotate_left
      · intro w'
        go_simp
        with_reducible rfl
      rotate_left
      · simp only [Act.put, List.setIfInBounds_toArray, List.set_cons_zero, List.set_cons_succ, i64_w, i32_w]
        rfl
      refine one_ (i := 8) (N := some 54) #[true, true, true, true, true, true, true, true, true] rfl rfl (by kernel_rfl) (by decide) (fun K hK => ?_)
      refine Rw.copy_step ((W.alloc (.cells N0 26)).drew.setRow W.heap.size N1).drew (by rfl) (.tmp 50) (.tmp 53) 22 22 rfl (.slice (some ⟨W.heap.size, (i + 1) * 2, none⟩) (n - i) (C2 - (i + 1))) (.slice (some ⟨g, i * 2, none⟩) (n - i) (c - i)) rfl rfl (v' := goInt ((n - i : Nat) : Int)) (w' := ((W.alloc (.cells N0 26)).drew.setRow W.heap.size N1).drew.setRow W.heap.size N2) G11.out ?_
      refine hK.out _ _ trivial (fun hHeld => ?_)
      clear hK K
      refine norm_ (a' := ?_) ?_ ?_
      rotate_left
      · show Act.put _ (some 54) _ = _
        simp only [Act.put, List.setIfInBounds_toArray, List.set_cons_zero, List.set_cons_succ, i64_w, i32_w]
        rfl
      refine done_ (by kernel_rfl) ?_
      go_wp2
      go_ret
      exact ⟨_, rfl, HFR.out, HBE.out⟩
    · have hcap' : n + 1 ≤ c := by omega
      obtain ⟨N1, hN1⟩ : ∃ N1 : Array Value, N1 = (cur.toList.take ((i + 1) * 2) ++ flat2 xs i ++ cur.toList.drop ((i + 1) * 2 + (flat2 xs i).length)).toArray := ⟨_, rfl⟩
      have hN1s : N1.size = cur.size := by rw [hN1]; simp only [List.size_toArray, List.length_append, List.length_take, List.length_drop, hXl, hcl, hcs]; omega
      have hN1l : N1.toList.length = c * 2 := by rw [Array.length_toList, hN1s, hcs]
      have hr1 : ∀ W2 : World, W2.heap = W.heap → ∀ c1 c2, (Builtin.copy_ #[22, 22] 3 #[.slice (some ⟨g, (i + 1) * 2, none⟩) (n - i) c1, .slice (some ⟨g, i * 2, none⟩) (n + 1 - i) c2]).run Try.prog W2 = .ok (goInt ((n - i : Nat) : Int)) (W2.setRow g N1) := by
        intro W2 hW2 c1 c2
        have h := Rw.run_copy_cells (P := Try.prog) W2 22 22 3 26 g ((i + 1) * 2) (n - i) c1 ⟨g, i * 2, none⟩ (n + 1 - i) c2 cur 26 (flat2 xs i) (n - i) 2 Try.underlying22 (by kernel_rfl) (by rw [hW2]; exact hg) (by show n - i = min _ _; omega) hXl (fun j u hj => by
          rw [hadd]
          have := hcells j u hj
          unfold World.cell? at this ⊢
          rw [hW2]; exact this) (by rw [hXl, hcs]; omega) hfl1
        rw [← hN1] at h
        exact h
      obtain ⟨N2, hN2⟩ : ∃ N2 : Array Value, N2 = (N1.toList.take (i * 2) ++ Rw.cells2 p ++ N1.toList.drop (i * 2 + (Rw.cells2 p).length)).toArray := ⟨_, rfl⟩
      have hN2s : N2.size = cur.size := by rw [hN2]; simp only [List.size_toArray, List.length_append, List.length_take, List.length_drop, hN1l, hcs]; simp only [Rw.cells2, List.length_cons, List.length_nil]; omega
      have hr2 : ∀ W2 : World, W2.heap = W.heap → ∀ c1, (Builtin.copy_ #[22, 22] 3 #[.slice (some ⟨g, i * 2, none⟩) (n + 1 - i) c1, .slice (some ⟨vb, 0, none⟩) 1 1]).run Try.prog (W2.setRow g N1) = .ok (goInt 1) ((W2.setRow g N1).setRow g N2) := by
        intro W2 hW2 c1
        have h := Rw.run_copy_cells (P := Try.prog) (W2.setRow g N1) 22 22 3 26 g (i * 2) (n + 1 - i) c1 ⟨vb, 0, none⟩ 1 1 N1 26 (Rw.cells2 p) 1 2 Try.underlying22 (by kernel_rfl) (setRow_heap _ _ cur _ 26 (0, 0) (by rw [hW2]; exact hg)) (by show 1 = min _ _; omega) rfl (fun j u hj => by
          rw [hadd]
          have hv2 : (W2.setRow g N1).heap[vb]? = some (.cells #[.string p.f0, .string p.f1] 26 (0, 0)) := by rw [setRow_other _ _ _ _ (fun e => hgv e.symm), hW2]; exact hV
          rw [Nat.zero_add, blk_cell hv2]
          simpa [Rw.cells2] using hj) (by rw [hN1s, hcs]; simp only [Rw.cells2, List.length_cons, List.length_nil]; omega) hpl1
        rw [← hN2] at h
        exact h
      have e1 : N1.toList.take (i * 2) = (Rw.flat xs).take (i * 2) := by
        rw [hN1, List.toList_toArray, List.append_assoc, List.take_append_of_le_length (by rw [List.length_take, hcl]; omega), List.take_take, Nat.min_eq_left (by omega), ← htk, List.take_take, Nat.min_eq_left (by omega)]
      have e2 : N1.toList.drop (i * 2 + 2) = flat2 xs i ++ cur.toList.drop ((i + 1) * 2 + (flat2 xs i).length) := by
        have hl2 : (cur.toList.take ((i + 1) * 2)).length = i * 2 + 2 := by rw [List.length_take, hcl]; omega
        rw [hN1, List.toList_toArray, List.append_assoc, ← hl2, List.drop_left]
      have hNew : N2.toList.take ((n + 1) * 2) = Rw.flat (xs.take i ++ p :: xs.drop i) := by
        have hln : ((Rw.flat xs).take (i * 2) ++ Rw.cells2 p ++ flat2 xs i).length = (n + 1) * 2 := by
          rw [List.length_append, List.length_append, List.length_take, Rw.flat_len, hXl, hn, show (Rw.cells2 p).length = 2 from rfl]; omega
        rw [hN2, List.toList_toArray, e1, show (Rw.cells2 p).length = 2 from rfl, e2, ← List.append_assoc, hfin, ← hln, List.take_left]
      have hov : ∀ lb cb, (callFunc 61 #[.slice (some ⟨vb, 0, none⟩) 1 1, .slice (some ⟨g, (i + 1) * 2, none⟩) lb cb]).run Try.prog W = .ok (.value (.bool false)) W := fun lb cb => by
        rw [run_callFunc_extern Try.func61 (by kernel_rfl) (by kernel_rfl) (by kernel_rfl) (e := Extern.SlicesOverlaps.overlaps #[22, 22] #[4]) (by kernel_rfl),
          Lib.run_overlaps_apart W 22 4 26 Try.underlying22 2 Try.sizeOf26 ⟨vb, 0, none⟩ ⟨g, (i + 1) * 2, none⟩ 1 1 lb cb (fun e => hgv e.symm) 26 26 2 cur.size (by simp [World.shape?, hV]) (by simp [World.shape?, hg]) (by rw [hcs]; omega) (blk_frozen hV 0) (blk_frozen hV 2)]
        rfl
      have HFR := Aside0.mk (Rw.flat_R (w := (W.drew.setRow g N1).setRow g N2) (base := base) (ok := fun _ => True) (v := .slice (some ⟨g, 0, none⟩) (n + 1) c) (xs := xs.take i ++ p :: xs.drop i) ⟨Rw.flat_len _, .inr ⟨g, c, N2, by rw [hflen], hbg, setRow_heap _ _ N1 _ 26 (0, 0) (setRow_heap _ _ cur _ 26 (0, 0) hg), by rw [hflen]; exact hcap', HCM.out, by rw [hN2s, hcs], by rw [hflen]; exact hNew⟩⟩ (fun _ _ => trivial))
      have HBE := Aside0.mk (Rw.below_turn (Rw.below_turn (below_drew1 (Below.refl base W)) hbg N1) hbg N2)
      have hcb : decide ((c : Int) < (n : Int) + 1) = false := decide_eq_false (by omega)
      have hci1 : ¬ (c = i + 1) := by omega
      have g1 : (0 : Int) ≤ (n : Int) + 1 := by omega
      have g2 : ((n : Int) + 1).toNat = n + 1 := by omega
      have g3 : (0 : Int) ≤ (i : Int) + 1 := by omega
      have g4 : ((i : Int) + 1).toNat = i + 1 := by omega
      have g5 : (i : Int) + 1 ≤ (n : Int) + 1 := by omega
      have g6 : i ≤ n + 1 := by omega
      have g12 : (i : Int) ≤ (n : Int) + 1 := by omega
      have g7 : (n : Int) + 1 ≤ (c : Int) := by omega
      have g8 := HW1.out
      have g9 := HW3.out
      have g10 := hr1 W.drew rfl
      have g11 := hr2 W.drew rfl
      clear e1 e2 hNew hN1 hN2 hN1s hN2s hN1l hr1 hr2 hcap hfin hflen hXl hfl1 hpl1 hadd hcells hcl hcs htk hg hV hO hne hl hlt hp0 hi hn hin hnc hglt hvlt hgv hbg
      go_enter Try.func39, Try.ntmps39
      go_wp2
      have G10 := Aside0.mk g10
      have G11 := Aside0.mk g11
      clear g10 g11
      refine start_ (n := 9) (S := fun w' => True) (ds := []) #[false, false, false, false, false, false, false, false, false] (by kernel_rfl) rfl rfl trivial (fun hHeld => ?_)
      refine pure_ (i := 0) (N := some 69) (v := ?_) (a' := ?_) #[true, false, false, false, false, false, false, false, false] rfl rfl (by kernel_rfl) (fun _ _ _ h => h) (Or.inl ⟨by rfl, ?_⟩) ?_ ?_
      rotate_left
      · intro w'
        go_simp
        with_reducible rfl
      rotate_left
      · simp only [Act.put, List.setIfInBounds_toArray, List.set_cons_zero, List.set_cons_succ, i64_w, i32_w]
        rfl
      refine pure_ (i := 1) (N := some 70) (v := ?_) (a' := ?_) #[true, true, false, false, false, false, false, false, false] rfl rfl (by kernel_rfl) (fun _ _ _ h => h) (Or.inl ⟨by rfl, ?_⟩) ?_ ?_
      rotate_left
      · intro w'
        go_simp
        with_reducible rfl
      rotate_left
      · simp only [Act.put, List.setIfInBounds_toArray, List.set_cons_zero, List.set_cons_succ, i64_w, i32_w]
        rfl
      refine pure_ (i := 2) (N := some 71) (v := ?_) (a' := ?_) #[true, true, true, false, false, false, false, false, false] rfl rfl (by kernel_rfl) (fun _ _ _ h => h) (Or.inl ⟨by rfl, ?_⟩) ?_ ?_
      rotate_left
      · intro w'
        go_simp
        with_reducible rfl
      rotate_left
      · simp only [Act.put, List.setIfInBounds_toArray, List.set_cons_zero, List.set_cons_succ, i64_w, i32_w]
        rfl
      refine pure_ (i := 3) (N := some 72) (v := ?_) (a' := ?_) #[true, true, true, true, false, false, false, false, false] rfl rfl (by kernel_rfl) (fun _ _ _ h => h) (Or.inl ⟨by rfl, ?_⟩) ?_ ?_
      rotate_left
      · intro w'
        go_simp
        with_reducible rfl
      rotate_left
      · simp only [Act.put, List.setIfInBounds_toArray, List.set_cons_zero, List.set_cons_succ, i64_w, i32_w]
        rfl
      refine pure_ (i := 4) (N := some 73) (v := ?_) (a' := ?_) #[true, true, true, true, true, false, false, false, false] rfl rfl (by kernel_rfl) (fun _ _ _ h => h) (Or.inl ⟨by rfl, ?_⟩) ?_ ?_
      rotate_left
      · intro w'
        go_simp
        with_reducible rfl
      rotate_left
      · simp only [Act.put, List.setIfInBounds_toArray, List.set_cons_zero, List.set_cons_succ, i64_w, i32_w]
        rfl
      refine pure_ (i := 5) (N := some 74) (v := ?_) (a' := ?_) #[true, true, true, true, true, true, false, false, false] rfl rfl (by kernel_rfl) (fun _ _ _ h => h) (Or.inl ⟨by rfl, ?_⟩) ?_ ?_
      rotate_left
      · intro w'
        go_simp
        with_reducible rfl
      rotate_left
      · simp only [Act.put, List.setIfInBounds_toArray, List.set_cons_zero, List.set_cons_succ, i64_w, i32_w]
        rfl
      refine pure_ (i := 6) (N := some 75) (v := ?_) (a' := ?_) #[true, true, true, true, true, true, true, false, false] rfl rfl (by kernel_rfl) (fun _ _ _ h => h) (Or.inl ⟨by rfl, ?_⟩) ?_ ?_
      rotate_left
      · intro w'
        go_simp
        with_reducible rfl
      rotate_left
      · simp only [Act.put, List.setIfInBounds_toArray, List.set_cons_zero, List.set_cons_succ, i64_w, i32_w]
        rfl
      refine pure_ (i := 7) (N := some 76) (v := ?_) (a' := ?_) #[true, true, true, true, true, true, true, true, false] rfl rfl (by kernel_rfl) (fun _ _ _ h => h) (Or.inl ⟨by rfl, ?_⟩) ?_ ?_
      rotate_left
      · intro w'
        go_simp
        with_reducible rfl
      rotate_left
      · simp only [Act.put, List.setIfInBounds_toArray, List.set_cons_zero, List.set_cons_succ, i64_w, i32_w]
        rfl
      refine one_ (i := 8) (N := some 77) #[true, true, true, true, true, true, true, true, true] rfl rfl (by kernel_rfl) (by decide) (fun K hK => ?_)
      refine Rw.copy_step W.drew (by rfl) (.tmp 73) (.tmp 76) 22 22 rfl (.slice (some ⟨g, (i + 1) * 2, none⟩) (n - i) (c - (i + 1))) (.slice (some ⟨g, i * 2, none⟩) (n + 1 - i) (c - i)) rfl rfl (v' := goInt ((n - i : Nat) : Int)) (w' := W.drew.setRow g N1) (G10.out _ _) ?_
      refine hK.out _ _ trivial (fun hHeld => ?_)
      clear hK K
      refine norm_ (a' := ?_) ?_ ?_
      rotate_left
      · show Act.put _ (some 77) _ = _
        simp only [Act.put, List.setIfInBounds_toArray, List.set_cons_zero, List.set_cons_succ, i64_w, i32_w]
        rfl
      refine done_ (by kernel_rfl) ?_
      have g11 := G11.out
      go_wp2
      go_ret
      exact ⟨_, rfl, HFR.out, HBE.out⟩
end Go.Proofs.Ytffaggckhneakaa.Pr
end
section
namespace Go.Proofs.Ytffaggckhneakaa.Pr
open Go.RowKit Go.Proofs.YtffaggckhneakaaW.PrintWords Go.Proofs.YtffaggckhneakaaW.PrintLast Go.Proofs.YtffaggckhneakaaW.PrintMore
attribute [local go_sem] max2_int min2_int max_two min_two max_three min_three max_four min_four
attribute [local go_sem] Go.Proofs.Ytffaggckhneakaa.Hl.str_geq Go.Proofs.Ytffaggckhneakaa.Hl.str_gtr Go.Proofs.Ytffaggckhneakaa.Hl.str_leq
set_option linter.unusedVariables false
set_option linter.unusedSimpArgs false
theorem own_lt {w : World} {base : Nat} {ok : Nat → Prop} {v : Value} {xs : List S26} (h : Kd.R k26 26 w base ok v xs) : ∀ g, v.ownBlock = some g → g < w.heap.size := by
  intro g hg
  rcases (Rw.R_flat h).2 with ⟨rfl, _⟩ | ⟨g', c', cur', rfl, _, hh, _⟩
  · cases hg
  · injection hg with hg
    subst hg
    exact blk_lt hh
def attr_Set.fin (k : Nat) (m : List S26) : Option (List S26 × Int) := (attr_check.f k m).bind fun t => (if t.1 = true then some (m, 0) else some ([], 15))
def attr_Set.f (k : Nat) (l0 : List S26) (a1_0 a1_1 : ByteArray) : Option (List S26 × Int) := (attr_check.f k l0).bind fun t => (if t.2 = 0 then ((attr_may.f a1_0 a1_1).bind fun q => (if q = true then ((attr_find.f k l0 a1_0).bind fun u => (if u.2 = true then (if 0 ≤ u.1 ∧ u.1 < (l0.length : Int) then attr_Set.fin k (l0.set u.1.toNat ⟨a1_0, a1_1⟩) else none) else (if 0 ≤ u.1 ∧ u.1 ≤ (l0.length : Int) ∧ l0.length < 4398046511103 then attr_Set.fin k (l0.take u.1.toNat ++ (⟨a1_0, a1_1⟩ : S26) :: l0.drop u.1.toNat) else none))) else some ([], 1))) else some ([], 1))
set_option maxHeartbeats 8000000 in
set_option maxRecDepth 100000 in
theorem attr_Set.calls (k : Nat) (A0 : Option Addr) (c0 : Nat) (l0 : List (S26)) (a1_0 : ByteArray) (a1_1 : ByteArray) (r1 : List (S26)) (r2 : Int) (w : World) (hr0 : Kd.C k26 w A0 l0.length l0) (hc0 : l0.length ≤ c0) (h : attr_Set.f k l0 a1_0 a1_1 = some (r1, r2)) :
    Calls Try.prog 14 #[.slice A0 l0.length c0, .agg #[.string a1_0, .string a1_1]] w fun e w' => ∃ v0_ : Value, e = .returned (.tuple #[v0_, .int .i64 r2]) ∧ Kd.R k26 26 w' w.heap.size (fun _ => True) v0_ r1 ∧ Below w.heap.size w w' := by
  unfold attr_Set.f at h
  have hu26 := Try.underlying26
  have hi26 := info26
  obtain ⟨⟨t1, t2⟩, ht, h⟩ := Option.bind_eq_some_iff.1 h
  simp only [] at h
  have HR0 := Aside0.mk hr0
  have HC0 := Aside0.mk hc0
  have HT := Aside0.mk ht
  have HBA := Aside0.mk ((Below.refl w.heap.size w).alloc (Nat.le_refl _) (.cells #[.string a1_0, .string a1_1] 26))
  clear hr0 hc0 ht
  by_cases h2 : t2 = 0
  · subst h2
    rw [if_pos rfl] at h
    obtain ⟨q, hq, h⟩ := Option.bind_eq_some_iff.1 h
    have HQ := Aside0.mk hq
    clear hq
    by_cases hqt : q = true
    · subst hqt
      rw [if_pos rfl] at h
      obtain ⟨⟨u1, u2⟩, hu, h⟩ := Option.bind_eq_some_iff.1 h
      simp only [] at h
      have hlen : l0.length < 4398046511104 := by
        unfold attr_find.f at hu
        by_cases hl : l0.length < 4398046511104
        · exact hl
        · rw [if_neg hl] at hu; cases hu
      have HU := Aside0.mk hu
      have HL := Aside0.mk hlen
      clear hu
      by_cases hu2 : u2 = true
      · subst hu2
        rw [if_pos rfl] at h
        by_cases hb : 0 ≤ u1 ∧ u1 < (l0.length : Int)
        · rw [if_pos hb] at h
          obtain ⟨i, rfl⟩ : ∃ i : Nat, u1 = (i : Int) := ⟨u1.toNat, by omega⟩
          rw [Int.toNat_natCast] at h
          have hi0 : (0 : Int) ≤ (i : Int) := hb.1
          have hi1 : (i : Int) < (l0.length : Int) := hb.2
          have HI := Aside0.mk (show i < l0.length by omega)
          clear hb hlen
          obtain ⟨M, hM⟩ : ∃ M : List S26, M = l0.set i ⟨a1_0, a1_1⟩ := ⟨_, rfl⟩
          have hML : M.length = l0.length := by rw [hM, List.length_set]
          have HM := Aside0.mk hM
          have HML := Aside0.mk hML
          rw [← hM] at h
          clear hM hML
          unfold attr_Set.fin at h
          obtain ⟨⟨s1, s2⟩, hs, h⟩ := Option.bind_eq_some_iff.1 h
          simp only [] at h
          have HS := Aside0.mk hs
          clear hs
          by_cases hs1 : s1 = true
          · subst hs1
            rw [if_pos rfl] at h
            obtain ⟨rfl, rfl⟩ := Prod.mk.inj (Option.some.inj h)
            clear h
            go_enter Try.func14, Try.ntmps14
            go_wp2_with (first | (go_at_call 35; have hck := attr_check.calls k (some ⟨g3, 0, none⟩) c3 M _ s2 w5 HR6.out HC6.out HS.out; rw [HML.out] at hck; refine hck.mono ?_; rintro e w7 ⟨rfl, hb7⟩; have HO7 := Aside0.mk (Kd.R_below HO5.out hb7); have HB7 := Aside0.mk (HB5.out.trans (hb7.mono HB5.out.size)); clear hb7 hck) | ((with_reducible refine gate_store (p := 38) rfl ?_); refine Kd.R_store k26 (w0 := w) w.heap.size rfl rfl 26 (.tmp 38) (.tmp 37) rfl 26 (i : Int) 0 l0 (⟨a1_0, a1_1⟩ : S26) (.agg #[.string a1_0, .string a1_1]) [.string a1_0, .string a1_1] _ (fun _ => True) (fun _ => False) rfl (by first | rfl | (rw [show k26.sz = 2 from rfl]; omega)) rfl rfl (by kernel_rfl) (by simp [Value.oneCell']) HO4.out hi0 hi1 rfl HCC.out (show 2 ≤ 2 from by decide) (k26_mkM _ _ _ (⟨a1_0, a1_1⟩ : S26)) (fun _ h => h.elim) HB4.out ?_; intro w5 ho5 hb5 hg5; rw [Int.toNat_natCast, ← HM.out] at ho5; obtain ⟨A6, c6, e6, hc6, hr6⟩ := Kd.R_reads ho5; rw [HML.out] at e6; injection e6 with e6a e6b e6c; subst e6a; subst e6c; have HO5 := Aside0.mk ho5; have HB5 := Aside0.mk hb5; have HR6 := Aside0.mk hr6; have HC6 := Aside0.mk hc6; clear ho5 hb5 hg5 hr6 hc6 e6b) | (go_at_call 38; refine (attr_find.calls k A0 c0 l0 a1_0 (i : Int) true _ (Kd.C_below HR0.out HB3.out) HC0.out HU.out).mono ?_; rintro e w4 ⟨rfl, hb4⟩; have HBK4 := Aside0.mk (blk_below HBK3.out hb4); have hc40 := (blk_cell HBK4.out 0).trans rfl; have hc41 := (blk_cell HBK4.out 1).trans rfl; have HO4 := Aside0.mk (Kd.R_below HO3.out hb4); have HB4 := Aside0.mk (HB3.out.trans (hb4.mono HB3.out.size)); clear hb4; obtain ⟨ce, hcl, hM, hcc, hfr⟩ := Kd.R_elem HO4.out z26 (i : Int) hi0 hi1; obtain rfl := k26_openM hM; have HCC := Aside0.mk hcc; clear hcl hM hcc hfr) | (go_at_call 37; refine (api_Pair_37.calls A0 c0 l0 l0 _ (Kd.C_below HR0.out HB2.out) HC0.out (by unfold api_Pair_37.f; rw [if_pos HL.out])).mono ?_; rintro e w3 ⟨v3, rfl, ho3, hb3⟩; obtain ⟨g3, c3, -, rfl, -⟩ := Rw.own_open (Rw.R_flat ho3) (by have := HI.out; omega); have HBK3 := Aside0.mk (blk_below HBK2.out hb3); have hc30 := (blk_cell HBK3.out 0).trans rfl; have hc31 := (blk_cell HBK3.out 1).trans rfl; have HO3 := Aside0.mk (Kd.R_lower ho3 HB2.out.size); have HB3 := Aside0.mk (HB2.out.trans (hb3.mono HB2.out.size)); clear ho3 hb3) | (go_at_call 36; refine (attr_may.calls a1_0 a1_1 true _ HQ.out).mono ?_; rintro e w2 ⟨rfl, hb2⟩; have HBK2 := Aside0.mk (blk_below HBK1.out hb2); have HB2 := Aside0.mk (HB1.out.trans (hb2.mono HB1.out.size)); clear hb2) | (go_at_call 35; refine (attr_check.calls k A0 c0 l0 t1 0 _ (Kd.C_alloc HR0.out _) HC0.out HT.out).mono ?_; rintro e w1 ⟨rfl, hb1⟩; have HBK1 := Aside0.mk (blk_below (blk_new w _) hb1); have hc10 := (blk_cell HBK1.out 0).trans rfl; have hc11 := (blk_cell HBK1.out 1).trans rfl; have HB1 := Aside0.mk (HBA.out.trans (hb1.mono HBA.out.size)); clear hb1))
            go_ret2
            exact ⟨_, rfl, HO7.out, HB7.out⟩
          · obtain rfl : s1 = false := by simpa using hs1
            rw [if_neg (by decide)] at h
            obtain ⟨rfl, rfl⟩ := Prod.mk.inj (Option.some.inj h)
            clear h hs1
            go_enter Try.func14, Try.ntmps14
            go_wp2_with (first | (go_at_call 35; have hck := attr_check.calls k (some ⟨g3, 0, none⟩) c3 M _ s2 w5 HR6.out HC6.out HS.out; rw [HML.out] at hck; refine hck.mono ?_; rintro e w7 ⟨rfl, hb7⟩; have HO7 := Aside0.mk (Kd.R_below HO5.out hb7); have HB7 := Aside0.mk (HB5.out.trans (hb7.mono HB5.out.size)); clear hb7 hck) | ((with_reducible refine gate_store (p := 38) rfl ?_); refine Kd.R_store k26 (w0 := w) w.heap.size rfl rfl 26 (.tmp 38) (.tmp 37) rfl 26 (i : Int) 0 l0 (⟨a1_0, a1_1⟩ : S26) (.agg #[.string a1_0, .string a1_1]) [.string a1_0, .string a1_1] _ (fun _ => True) (fun _ => False) rfl (by first | rfl | (rw [show k26.sz = 2 from rfl]; omega)) rfl rfl (by kernel_rfl) (by simp [Value.oneCell']) HO4.out hi0 hi1 rfl HCC.out (show 2 ≤ 2 from by decide) (k26_mkM _ _ _ (⟨a1_0, a1_1⟩ : S26)) (fun _ h => h.elim) HB4.out ?_; intro w5 ho5 hb5 hg5; rw [Int.toNat_natCast, ← HM.out] at ho5; obtain ⟨A6, c6, e6, hc6, hr6⟩ := Kd.R_reads ho5; rw [HML.out] at e6; injection e6 with e6a e6b e6c; subst e6a; subst e6c; have HO5 := Aside0.mk ho5; have HB5 := Aside0.mk hb5; have HR6 := Aside0.mk hr6; have HC6 := Aside0.mk hc6; clear ho5 hb5 hg5 hr6 hc6 e6b) | (go_at_call 38; refine (attr_find.calls k A0 c0 l0 a1_0 (i : Int) true _ (Kd.C_below HR0.out HB3.out) HC0.out HU.out).mono ?_; rintro e w4 ⟨rfl, hb4⟩; have HBK4 := Aside0.mk (blk_below HBK3.out hb4); have hc40 := (blk_cell HBK4.out 0).trans rfl; have hc41 := (blk_cell HBK4.out 1).trans rfl; have HO4 := Aside0.mk (Kd.R_below HO3.out hb4); have HB4 := Aside0.mk (HB3.out.trans (hb4.mono HB3.out.size)); clear hb4; obtain ⟨ce, hcl, hM, hcc, hfr⟩ := Kd.R_elem HO4.out z26 (i : Int) hi0 hi1; obtain rfl := k26_openM hM; have HCC := Aside0.mk hcc; clear hcl hM hcc hfr) | (go_at_call 37; refine (api_Pair_37.calls A0 c0 l0 l0 _ (Kd.C_below HR0.out HB2.out) HC0.out (by unfold api_Pair_37.f; rw [if_pos HL.out])).mono ?_; rintro e w3 ⟨v3, rfl, ho3, hb3⟩; obtain ⟨g3, c3, -, rfl, -⟩ := Rw.own_open (Rw.R_flat ho3) (by have := HI.out; omega); have HBK3 := Aside0.mk (blk_below HBK2.out hb3); have hc30 := (blk_cell HBK3.out 0).trans rfl; have hc31 := (blk_cell HBK3.out 1).trans rfl; have HO3 := Aside0.mk (Kd.R_lower ho3 HB2.out.size); have HB3 := Aside0.mk (HB2.out.trans (hb3.mono HB2.out.size)); clear ho3 hb3) | (go_at_call 36; refine (attr_may.calls a1_0 a1_1 true _ HQ.out).mono ?_; rintro e w2 ⟨rfl, hb2⟩; have HBK2 := Aside0.mk (blk_below HBK1.out hb2); have HB2 := Aside0.mk (HB1.out.trans (hb2.mono HB1.out.size)); clear hb2) | (go_at_call 35; refine (attr_check.calls k A0 c0 l0 t1 0 _ (Kd.C_alloc HR0.out _) HC0.out HT.out).mono ?_; rintro e w1 ⟨rfl, hb1⟩; have HBK1 := Aside0.mk (blk_below (blk_new w _) hb1); have hc10 := (blk_cell HBK1.out 0).trans rfl; have hc11 := (blk_cell HBK1.out 1).trans rfl; have HB1 := Aside0.mk (HBA.out.trans (hb1.mono HBA.out.size)); clear hb1))
            go_ret2
            exact ⟨_, rfl, Kd.R_nil _ _ _ _ _, HB7.out⟩
        · rw [if_neg hb] at h
          cases h
      · obtain rfl : u2 = false := by simpa using hu2
        rw [if_neg (by decide)] at h
        by_cases hb : 0 ≤ u1 ∧ u1 ≤ (l0.length : Int) ∧ l0.length < 4398046511103
        · rw [if_pos hb] at h
          obtain ⟨i, rfl⟩ : ∃ i : Nat, u1 = (i : Int) := ⟨u1.toNat, by omega⟩
          rw [Int.toNat_natCast] at h
          have HI := Aside0.mk (show i ≤ l0.length by omega)
          have HL2 := Aside0.mk hb.2.2
          clear hb hlen hu2
          obtain ⟨M, hM⟩ : ∃ M : List S26, M = l0.take i ++ ⟨a1_0, a1_1⟩ :: l0.drop i := ⟨_, rfl⟩
          have HM := Aside0.mk hM
          rw [← hM] at h
          clear hM
          unfold attr_Set.fin at h
          obtain ⟨⟨s1, s2⟩, hs, h⟩ := Option.bind_eq_some_iff.1 h
          simp only [] at h
          have HS := Aside0.mk hs
          clear hs
          by_cases hs1 : s1 = true
          · subst hs1
            rw [if_pos rfl] at h
            obtain ⟨rfl, rfl⟩ := Prod.mk.inj (Option.some.inj h)
            clear h
            go_enter Try.func14, Try.ntmps14
            go_wp2_with (first | (go_at_call 35; refine (attr_check.calls k A6 c6 M _ s2 w5 HR6.out HC6.out HS.out).mono ?_; rintro e w7 ⟨rfl, hb7⟩; have HO7 := Aside0.mk (Kd.R_below HO5.out hb7); have HB7 := Aside0.mk (HB5.out.trans (hb7.mono HB5.out.size)); clear hb7) | (go_at_call 39; refine (ins_calls (w4.alloc (.cells #[.string a1_0, .string a1_1] 26)) w.heap.size v3 l0 (⟨a1_0, a1_1⟩ : S26) w4.heap.size i l0.length rfl (Kd.R_alloc HO4.out _) (blk_new w4 _) (fun g hg => by have := own_lt HO4.out g hg; omega) (HB4.out.alloc HB4.out.size _).size HI.out HL2.out).mono ?_; rintro e w5 ⟨v5, rfl, ho5, hb5⟩; rw [← HM.out] at ho5; obtain ⟨A6, c6, rfl, hc6, hr6⟩ := Kd.R_reads ho5; have HO5 := Aside0.mk ho5; have HB5 := Aside0.mk ((HB4.out.alloc HB4.out.size (.cells #[.string a1_0, .string a1_1] 26)).trans hb5); have HR6 := Aside0.mk hr6; have HC6 := Aside0.mk hc6; clear ho5 hb5 hr6 hc6) | (go_at_call 38; refine (attr_find.calls k A0 c0 l0 a1_0 (i : Int) false _ (Kd.C_below HR0.out HB3.out) HC0.out HU.out).mono ?_; rintro e w4 ⟨rfl, hb4⟩; have HBK4 := Aside0.mk (blk_below HBK3.out hb4); have hc40 := (blk_cell HBK4.out 0).trans rfl; have hc41 := (blk_cell HBK4.out 1).trans rfl; have HO4 := Aside0.mk (Kd.R_below HO3.out hb4); have HB4 := Aside0.mk (HB3.out.trans (hb4.mono HB3.out.size)); clear hb4) | (go_at_call 37; refine (api_Pair_37.calls A0 c0 l0 l0 _ (Kd.C_below HR0.out HB2.out) HC0.out (by unfold api_Pair_37.f; rw [if_pos HL.out])).mono ?_; rintro e w3 ⟨v3, rfl, ho3, hb3⟩; have HBK3 := Aside0.mk (blk_below HBK2.out hb3); have hc30 := (blk_cell HBK3.out 0).trans rfl; have hc31 := (blk_cell HBK3.out 1).trans rfl; have HO3 := Aside0.mk (Kd.R_lower ho3 HB2.out.size); have HB3 := Aside0.mk (HB2.out.trans (hb3.mono HB2.out.size)); clear ho3 hb3) | (go_at_call 36; refine (attr_may.calls a1_0 a1_1 true _ HQ.out).mono ?_; rintro e w2 ⟨rfl, hb2⟩; have HBK2 := Aside0.mk (blk_below HBK1.out hb2); have HB2 := Aside0.mk (HB1.out.trans (hb2.mono HB1.out.size)); clear hb2) | (go_at_call 35; refine (attr_check.calls k A0 c0 l0 t1 0 _ (Kd.C_alloc HR0.out _) HC0.out HT.out).mono ?_; rintro e w1 ⟨rfl, hb1⟩; have HBK1 := Aside0.mk (blk_below (blk_new w _) hb1); have hc10 := (blk_cell HBK1.out 0).trans rfl; have hc11 := (blk_cell HBK1.out 1).trans rfl; have HB1 := Aside0.mk (HBA.out.trans (hb1.mono HBA.out.size)); clear hb1))
            go_ret2
            exact ⟨_, rfl, HO7.out, HB7.out⟩
          · obtain rfl : s1 = false := by simpa using hs1
            rw [if_neg (by decide)] at h
            obtain ⟨rfl, rfl⟩ := Prod.mk.inj (Option.some.inj h)
            clear h hs1
            go_enter Try.func14, Try.ntmps14
            go_wp2_with (first | (go_at_call 35; refine (attr_check.calls k A6 c6 M _ s2 w5 HR6.out HC6.out HS.out).mono ?_; rintro e w7 ⟨rfl, hb7⟩; have HO7 := Aside0.mk (Kd.R_below HO5.out hb7); have HB7 := Aside0.mk (HB5.out.trans (hb7.mono HB5.out.size)); clear hb7) | (go_at_call 39; refine (ins_calls (w4.alloc (.cells #[.string a1_0, .string a1_1] 26)) w.heap.size v3 l0 (⟨a1_0, a1_1⟩ : S26) w4.heap.size i l0.length rfl (Kd.R_alloc HO4.out _) (blk_new w4 _) (fun g hg => by have := own_lt HO4.out g hg; omega) (HB4.out.alloc HB4.out.size _).size HI.out HL2.out).mono ?_; rintro e w5 ⟨v5, rfl, ho5, hb5⟩; rw [← HM.out] at ho5; obtain ⟨A6, c6, rfl, hc6, hr6⟩ := Kd.R_reads ho5; have HO5 := Aside0.mk ho5; have HB5 := Aside0.mk ((HB4.out.alloc HB4.out.size (.cells #[.string a1_0, .string a1_1] 26)).trans hb5); have HR6 := Aside0.mk hr6; have HC6 := Aside0.mk hc6; clear ho5 hb5 hr6 hc6) | (go_at_call 38; refine (attr_find.calls k A0 c0 l0 a1_0 (i : Int) false _ (Kd.C_below HR0.out HB3.out) HC0.out HU.out).mono ?_; rintro e w4 ⟨rfl, hb4⟩; have HBK4 := Aside0.mk (blk_below HBK3.out hb4); have hc40 := (blk_cell HBK4.out 0).trans rfl; have hc41 := (blk_cell HBK4.out 1).trans rfl; have HO4 := Aside0.mk (Kd.R_below HO3.out hb4); have HB4 := Aside0.mk (HB3.out.trans (hb4.mono HB3.out.size)); clear hb4) | (go_at_call 37; refine (api_Pair_37.calls A0 c0 l0 l0 _ (Kd.C_below HR0.out HB2.out) HC0.out (by unfold api_Pair_37.f; rw [if_pos HL.out])).mono ?_; rintro e w3 ⟨v3, rfl, ho3, hb3⟩; have HBK3 := Aside0.mk (blk_below HBK2.out hb3); have hc30 := (blk_cell HBK3.out 0).trans rfl; have hc31 := (blk_cell HBK3.out 1).trans rfl; have HO3 := Aside0.mk (Kd.R_lower ho3 HB2.out.size); have HB3 := Aside0.mk (HB2.out.trans (hb3.mono HB2.out.size)); clear ho3 hb3) | (go_at_call 36; refine (attr_may.calls a1_0 a1_1 true _ HQ.out).mono ?_; rintro e w2 ⟨rfl, hb2⟩; have HBK2 := Aside0.mk (blk_below HBK1.out hb2); have HB2 := Aside0.mk (HB1.out.trans (hb2.mono HB1.out.size)); clear hb2) | (go_at_call 35; refine (attr_check.calls k A0 c0 l0 t1 0 _ (Kd.C_alloc HR0.out _) HC0.out HT.out).mono ?_; rintro e w1 ⟨rfl, hb1⟩; have HBK1 := Aside0.mk (blk_below (blk_new w _) hb1); have hc10 := (blk_cell HBK1.out 0).trans rfl; have hc11 := (blk_cell HBK1.out 1).trans rfl; have HB1 := Aside0.mk (HBA.out.trans (hb1.mono HBA.out.size)); clear hb1))
            go_ret2
            exact ⟨_, rfl, Kd.R_nil _ _ _ _ _, HB7.out⟩
        · rw [if_neg hb] at h
          cases h
    · obtain rfl : q = false := by simpa using hqt
      rw [if_neg (by decide)] at h
      obtain ⟨rfl, rfl⟩ := Prod.mk.inj (Option.some.inj h)
      clear h hqt
      go_enter Try.func14, Try.ntmps14
      go_wp2_with (first | (go_at_call 36; refine (attr_may.calls a1_0 a1_1 false _ HQ.out).mono ?_; rintro e w2 ⟨rfl, hb2⟩; have HBK2 := Aside0.mk (blk_below HBK1.out hb2); have HB2 := Aside0.mk (HB1.out.trans (hb2.mono HB1.out.size)); clear hb2) | (go_at_call 35; refine (attr_check.calls k A0 c0 l0 t1 0 _ (Kd.C_alloc HR0.out _) HC0.out HT.out).mono ?_; rintro e w1 ⟨rfl, hb1⟩; have HBK1 := Aside0.mk (blk_below (blk_new w _) hb1); have hc10 := (blk_cell HBK1.out 0).trans rfl; have hc11 := (blk_cell HBK1.out 1).trans rfl; have HB1 := Aside0.mk (HBA.out.trans (hb1.mono HBA.out.size)); clear hb1))
      go_ret2
      exact ⟨_, rfl, Kd.R_nil _ _ _ _ _, HB2.out⟩
  · rw [if_neg h2] at h
    obtain ⟨rfl, rfl⟩ := Prod.mk.inj (Option.some.inj h)
    have heb : (t2 != 0) = true := bne_iff_ne.2 h2
    clear h
    go_enter Try.func14, Try.ntmps14
    go_wp2_with (go_at_call 35; refine (attr_check.calls k A0 c0 l0 t1 t2 _ (Kd.C_alloc HR0.out _) HC0.out HT.out).mono ?_; rintro e w1 ⟨rfl, hb1⟩; have HB1 := Aside0.mk (HBA.out.trans (hb1.mono HBA.out.size)); clear hb1)
    go_ret2
    exact ⟨_, rfl, Kd.R_nil _ _ _ _ _, HB1.out⟩
end Go.Proofs.Ytffaggckhneakaa.Pr
end
section
namespace Go.Proofs.Ytffaggckhneakaa.Pr
open Go.RowKit Go.Proofs.YtffaggckhneakaaW.PrintWords Go.Proofs.YtffaggckhneakaaW.PrintLast Go.Proofs.YtffaggckhneakaaW.PrintMore
attribute [local go_sem] max2_int min2_int max_two min_two max_three min_three max_four min_four
attribute [local go_sem] Go.Proofs.Ytffaggckhneakaa.Hl.str_geq Go.Proofs.Ytffaggckhneakaa.Hl.str_gtr Go.Proofs.Ytffaggckhneakaa.Hl.str_leq
set_option linter.unusedVariables false
set_option linter.unusedSimpArgs false
def attr_Get.f (k : Nat) (l0 : List (S26)) (a1 : ByteArray) : Option (ByteArray × Int) := (attr_check.f k l0).bind fun bt329 => (if bt329.2 = 0 then ((attr_find.f k l0 a1).bind fun bt331 => (if bt331.2 = true then (if 0 ≤ bt331.1 then (if bt331.1 < (l0.length : Int) then (some ((rd_T26 l0 bt331.1).f1, 0)) else (none)) else (none)) else (some ((⟨#[]⟩ : ByteArray), 15)))) else (some ((⟨#[]⟩ : ByteArray), bt329.2)))
set_option maxHeartbeats 8000000 in
set_option maxRecDepth 100000 in
theorem attr_Get.calls (k : Nat) (A0 : Option Addr) (c0 : Nat) (l0 : List (S26)) (a1 : ByteArray) (r1 : ByteArray) (r2 : Int) (w : World) (hr0 : Kd.C k26 w A0 l0.length l0) (hc0 : l0.length ≤ c0) (h : attr_Get.f k l0 a1 = some (r1, r2)) :
    Calls Try.prog 19 #[.slice A0 l0.length c0, .string a1] w fun e w' => e = .returned (.tuple #[.string r1, .int .i64 r2]) ∧ Below w.heap.size w w' := by
  have HR0 := Aside0.mk hr0
  have HC0 := Aside0.mk hc0
  clear hr0 hc0
  have HB := Aside0.mk (Below.refl w.heap.size w)
  have H : ((attr_check.f k l0).bind fun bt329 => (if bt329.2 = 0 then ((attr_find.f k l0 a1).bind fun bt331 => (if bt331.2 = true then (if 0 ≤ bt331.1 then (if bt331.1 < (l0.length : Int) then (some ((rd_T26 l0 bt331.1).f1, 0)) else (none)) else (none)) else (some ((⟨#[]⟩ : ByteArray), 15)))) else (some ((⟨#[]⟩ : ByteArray), bt329.2)))) = some (r1, r2) := h
  clear h
  replace H := Option.bind_eq_some_iff.mp H
  obtain ⟨⟨t329, t330⟩, A30, H⟩ := H
  replace H : (if t330 = 0 then ((attr_find.f k l0 a1).bind fun bt331 => (if bt331.2 = true then (if 0 ≤ bt331.1 then (if bt331.1 < (l0.length : Int) then (some ((rd_T26 l0 bt331.1).f1, 0)) else (none)) else (none)) else (some ((⟨#[]⟩ : ByteArray), 15)))) else (some ((⟨#[]⟩ : ByteArray), t330))) = some (r1, r2) := H
  have A3 := Aside0.mk A30
  clear A30
  by_cases c4 : t330 = 0
  · rw [if_pos c4] at H
    have c4b0 : (t330 == 0) = true := beq_iff_eq.mpr c4
    have c4b1 : (t330 != 0) = false := bne_eq_false_iff_eq.mpr c4
    clear c4
    replace H := Option.bind_eq_some_iff.mp H
    obtain ⟨⟨t331, t332⟩, A50, H⟩ := H
    replace H : (if t332 = true then (if 0 ≤ t331 then (if t331 < (l0.length : Int) then (some ((rd_T26 l0 t331).f1, 0)) else (none)) else (none)) else (some ((⟨#[]⟩ : ByteArray), 15))) = some (r1, r2) := H
    have A5 := Aside0.mk A50
    clear A50
    by_cases c6 : t332 = true
    · subst c6
      have H1 : (if 0 ≤ t331 then (if t331 < (l0.length : Int) then (some ((rd_T26 l0 t331).f1, 0)) else (none)) else (none)) = some (r1, r2) := by rw [if_pos rfl] at H; exact H
      clear H
      have H := H1
      clear H1
      by_cases c7 : 0 ≤ t331
      · rw [if_pos c7] at H
        have c7b0 : decide (0 ≤ t331) = true := decide_eq_true c7
        clear c7
        by_cases c8 : t331 < (l0.length : Int)
        · rw [if_pos c8] at H
          have c8b0 : decide (t331 < (l0.length : Int)) = true := decide_eq_true c8
          clear c8
          simp only [Option.some.injEq, Prod.mk.injEq] at H
          obtain ⟨rfl, rfl⟩ := H
          go_enter Try.func19, Try.ntmps19
          go_wp2_with (first | ((with_reducible refine gate_callee (f := 35) rfl ?_); refine goesL_ (some 12) rfl rfl Try.func35 (by kernel_rfl) rfl #[.slice A0 l0.length c0] rfl (by (try simp only [List.map_toArray, List.map_cons, List.map_nil]); first | done | rfl | (simp only [List.length_drop, List.length_take]; rfl)) ?_; (with_reducible refine (attr_check.calls k _ _ l0 t329 t330 _ ?side1 ?side2 A3.out).mono ?_); (case side1 => repeat (first | exact HR0.out | (with_reducible refine Kd.C_alloc ?_ _) | (with_reducible refine Kd.C_drewN ?_ _) | (with_reducible refine Kd.C_drew ?_))); (case side2 => exact HC0.out); rintro e w9 ⟨rfl, hb⟩; refine ⟨_, rfl, ?_⟩; have n0_ := Aside0.mk (below_step (by repeat (first | (with_reducible first | exact HB.out | apply below_alloc | apply pw_below_drewN | apply below_drew1) | exact HB.out)) hb); clear HB; have HB := n0_; clear n0_; (try clear hb); (try clear hb2); (try clear hk); (try clear hi)) | ((with_reducible refine gate_callee (f := 38) rfl ?_); refine goesL_ (some 21) rfl rfl Try.func38 (by kernel_rfl) rfl #[.slice A0 l0.length c0, .string a1] rfl (by (try simp only [List.map_toArray, List.map_cons, List.map_nil]); first | done | rfl | (simp only [List.length_drop, List.length_take]; rfl)) ?_; (with_reducible refine (attr_find.calls k _ _ l0 a1 t331 true _ ?side1 ?side2 A5.out).mono ?_); (case side1 => repeat (first | exact (Kd.C_below HR0.out HB.out) | (with_reducible refine Kd.C_alloc ?_ _) | (with_reducible refine Kd.C_drewN ?_ _) | (with_reducible refine Kd.C_drew ?_))); (case side2 => exact HC0.out); rintro e w10 ⟨rfl, hb⟩; refine ⟨_, rfl, ?_⟩; have n0_ := Aside0.mk (below_step (by repeat (first | (with_reducible first | exact HB.out | apply below_alloc | apply pw_below_drewN | apply below_drew1) | exact HB.out)) hb); clear HB; have HB := n0_; clear n0_; (try clear hb); (try clear hb2); (try clear hk); (try clear hi); have p333 : 0 ≤ (t331 : Int) := of_decide_eq_true (by first | (with_reducible assumption) | assumption); have q333 : t331 < (l0.length : Int) := of_decide_eq_true (by first | (with_reducible assumption) | assumption); obtain ⟨ad333, e333, hx333_0, hx333_1⟩ := at_T26 HR0.out t331 p333 q333; cases e333; replace hx333_0 := (HB.out.cell (World.block_lt_of_cell? w _ hx333_0)).trans hx333_0; replace hx333_1 := (HB.out.cell (World.block_lt_of_cell? w _ hx333_1)).trans hx333_1; replace p333 := eq_true p333; replace q333 := eq_true q333))
          go_ret2
          exact ⟨by first | rfl | (simp [errW_none, errW_some] <;> rfl) | (simp [*, errW_none, errW_some] <;> rfl), by repeat (first | (with_reducible first | exact HB.out | apply below_alloc | apply pw_below_drewN | apply below_drew1) | exact HB.out)⟩
        · rw [if_neg c8] at H
          exact absurd H (by simp)
      · rw [if_neg c7] at H
        exact absurd H (by simp)
    · replace c6 := Bool.eq_false_iff.mpr c6
      subst c6
      have H1 : (some ((⟨#[]⟩ : ByteArray), 15)) = some (r1, r2) := by rw [if_neg (show ¬ (false = true) by decide)] at H; exact H
      clear H
      have H := H1
      clear H1
      simp only [Option.some.injEq, Prod.mk.injEq] at H
      obtain ⟨rfl, rfl⟩ := H
      go_enter Try.func19, Try.ntmps19
      go_wp2_with (first | ((with_reducible refine gate_callee (f := 35) rfl ?_); refine goesL_ (some 12) rfl rfl Try.func35 (by kernel_rfl) rfl #[.slice A0 l0.length c0] rfl (by (try simp only [List.map_toArray, List.map_cons, List.map_nil]); first | done | rfl | (simp only [List.length_drop, List.length_take]; rfl)) ?_; (with_reducible refine (attr_check.calls k _ _ l0 t329 t330 _ ?side1 ?side2 A3.out).mono ?_); (case side1 => repeat (first | exact HR0.out | (with_reducible refine Kd.C_alloc ?_ _) | (with_reducible refine Kd.C_drewN ?_ _) | (with_reducible refine Kd.C_drew ?_))); (case side2 => exact HC0.out); rintro e w11 ⟨rfl, hb⟩; refine ⟨_, rfl, ?_⟩; have n0_ := Aside0.mk (below_step (by repeat (first | (with_reducible first | exact HB.out | apply below_alloc | apply pw_below_drewN | apply below_drew1) | exact HB.out)) hb); clear HB; have HB := n0_; clear n0_; (try clear hb); (try clear hb2); (try clear hk); (try clear hi)) | ((with_reducible refine gate_callee (f := 38) rfl ?_); refine goesL_ (some 21) rfl rfl Try.func38 (by kernel_rfl) rfl #[.slice A0 l0.length c0, .string a1] rfl (by (try simp only [List.map_toArray, List.map_cons, List.map_nil]); first | done | rfl | (simp only [List.length_drop, List.length_take]; rfl)) ?_; (with_reducible refine (attr_find.calls k _ _ l0 a1 t331 false _ ?side1 ?side2 A5.out).mono ?_); (case side1 => repeat (first | exact (Kd.C_below HR0.out HB.out) | (with_reducible refine Kd.C_alloc ?_ _) | (with_reducible refine Kd.C_drewN ?_ _) | (with_reducible refine Kd.C_drew ?_))); (case side2 => exact HC0.out); rintro e w12 ⟨rfl, hb⟩; refine ⟨_, rfl, ?_⟩; have n0_ := Aside0.mk (below_step (by repeat (first | (with_reducible first | exact HB.out | apply below_alloc | apply pw_below_drewN | apply below_drew1) | exact HB.out)) hb); clear HB; have HB := n0_; clear n0_; (try clear hb); (try clear hb2); (try clear hk); (try clear hi)))
      go_ret2
      exact ⟨by first | rfl | (simp [errW_none, errW_some] <;> rfl) | (simp [*, errW_none, errW_some] <;> rfl), by repeat (first | (with_reducible first | exact HB.out | apply below_alloc | apply pw_below_drewN | apply below_drew1) | exact HB.out)⟩
  · rw [if_neg c4] at H
    have c4b0 : (t330 == 0) = false := beq_eq_false_iff_ne.mpr c4
    have c4b1 : (t330 != 0) = true := bne_iff_ne.mpr c4
    simp only [Option.some.injEq, Prod.mk.injEq] at H
    obtain ⟨rfl, rfl⟩ := H
    go_enter Try.func19, Try.ntmps19
    go_wp2_with (first | ((with_reducible refine gate_callee (f := 35) rfl ?_); refine goesL_ (some 12) rfl rfl Try.func35 (by kernel_rfl) rfl #[.slice A0 l0.length c0] rfl (by (try simp only [List.map_toArray, List.map_cons, List.map_nil]); first | done | rfl | (simp only [List.length_drop, List.length_take]; rfl)) ?_; (with_reducible refine (attr_check.calls k _ _ l0 t329 t330 _ ?side1 ?side2 A3.out).mono ?_); (case side1 => repeat (first | exact HR0.out | (with_reducible refine Kd.C_alloc ?_ _) | (with_reducible refine Kd.C_drewN ?_ _) | (with_reducible refine Kd.C_drew ?_))); (case side2 => exact HC0.out); rintro e w13 ⟨rfl, hb⟩; refine ⟨_, rfl, ?_⟩; have n0_ := Aside0.mk (below_step (by repeat (first | (with_reducible first | exact HB.out | apply below_alloc | apply pw_below_drewN | apply below_drew1) | exact HB.out)) hb); clear HB; have HB := n0_; clear n0_; (try clear hb); (try clear hb2); (try clear hk); (try clear hi)))
    go_ret2
    exact ⟨by first | rfl | (simp [errW_none, errW_some] <;> rfl) | (simp [*, errW_none, errW_some] <;> rfl), by repeat (first | (with_reducible first | exact HB.out | apply below_alloc | apply pw_below_drewN | apply below_drew1) | exact HB.out)⟩
end Go.Proofs.Ytffaggckhneakaa.Pr
end
section
namespace Go.Proofs.Ytffaggckhneakaa.Pr
open Go.RowKit Go.Proofs.YtffaggckhneakaaW.PrintWords Go.Proofs.YtffaggckhneakaaW.PrintLast Go.Proofs.YtffaggckhneakaaW.PrintMore
attribute [local go_sem] max2_int min2_int max_two min_two max_three min_three max_four min_four
attribute [local go_sem] Go.Proofs.Ytffaggckhneakaa.Hl.str_geq Go.Proofs.Ytffaggckhneakaa.Hl.str_gtr Go.Proofs.Ytffaggckhneakaa.Hl.str_leq
set_option linter.unusedVariables false
set_option linter.unusedSimpArgs false
def attr_Encode.l0 : Nat → List Int → List (S26) → Int → Int → Option (List Int × Int)
  | 0, _, _, _, _ => none
  | k + 1, x6, x23, x24, x25 => if x25 < x24 then (if 0 ≤ x25 then (if x25 < (x23.length : Int) then ((some (([((((rd_T26 x23 x25).f0).size : Int)) % 256, ((((rd_T26 x23 x25).f1).size : Int)) % 256] : List Int) : List Int)).bind fun y345 => (if x6.length + y345.length < 140737488355328 then ((some (x6 ++ y345 : List Int)).bind fun y348 => (if y348.length + ((rd_T26 x23 x25).f0).size < 140737488355328 then ((some (y348 ++ bytesOf ((rd_T26 x23 x25).f0) : List Int)).bind fun y351 => (if y351.length + ((rd_T26 x23 x25).f1).size < 140737488355328 then (attr_Encode.l0 k (y351 ++ bytesOf ((rd_T26 x23 x25).f1)) x23 x24 (wrap64 (x25 + 1))) else (none))) else (none))) else (none))) else (none)) else (none)) else (if 0 ≤ (wrap64 (252 - (x6.length : Int))) then (if x6.length + (wrap64 (252 - (x6.length : Int)) : Int).toNat < 140737488355328 then ((some (x6 ++ List.replicate (wrap64 (252 - (x6.length : Int)) : Int).toNat 0 : List Int)).bind fun y357 => ((crc_Sum.f k y357).bind fun t360 => ((crc_Bytes.f k (IntKind.u64.wrap (t360)) 4).bind fun t361 => (if y357.length + t361.length < 140737488355328 then (some ((y357 ++ t361), 0)) else (none))))) else (none)) else (none))
def attr_Encode.f (k : Nat) (l0 : List (S26)) : Option (List Int × Int) := (attr_check.f k l0).bind fun bt338 => (if bt338.2 = 0 then (if bt338.1 = true then ((crc_Bytes.f k (IntKind.u64.wrap ((l0.length : Int))) 2).bind fun t340 => (attr_Encode.l0 k t340 l0 (l0.length : Int) 0)) else (some (([] : List Int), 15))) else (some (([] : List Int), bt338.2)))
def attr_Encode.T11 : Bool × List (List Nat × List Nat) := (true, [([], []), ([], []), ([1], [1]), ([0, 2], [0, 2]), ([], []), ([4], [4]), ([3, 5, 3], [3, 5]), ([6, 6, 0, 1, 2, 3, 4, 5, 6], [0, 6])])
def attr_Encode.B11 : List Nat := [0, 0, 2, 7, 0, 16, 63, 127]
theorem attr_Encode.tab11 : rtab .any (opsOf Try.f21 11) = attr_Encode.T11 := by kernel_rfl
theorem attr_Encode.bits11 : waitsOk attr_Encode.T11.2 attr_Encode.B11 = true := by kernel_rfl
set_option maxHeartbeats 8000000 in
set_option maxRecDepth 100000 in
theorem attr_Encode.calls (k : Nat) (A0 : Option Addr) (c0 : Nat) (l0 : List (S26)) (r1 : List Int) (r2 : Int) (w : World) (hr0 : Kd.C k26 w A0 l0.length l0) (hc0 : l0.length ≤ c0) (h : attr_Encode.f k l0 = some (r1, r2)) :
    Calls Try.prog 21 #[.slice A0 l0.length c0] w fun e w' => ∃ v0_ : Value, e = .returned (.tuple #[v0_, .int .i64 r2]) ∧ Kd.R (Kd.int .u8) 5 w' w.heap.size (fun _ => True) v0_ r1 ∧ Below w.heap.size w w' := by
  have hu26 := Try.underlying26
  have HR0 := Aside0.mk hr0
  have HC0 := Aside0.mk hc0
  clear hr0 hc0
  have HB := Aside0.mk (Below.refl w.heap.size w)
  have H : ((attr_check.f k l0).bind fun bt338 => (if bt338.2 = 0 then (if bt338.1 = true then ((crc_Bytes.f k (IntKind.u64.wrap ((l0.length : Int))) 2).bind fun t340 => (attr_Encode.l0 k t340 l0 (l0.length : Int) 0)) else (some (([] : List Int), 15))) else (some (([] : List Int), bt338.2)))) = some (r1, r2) := h
  clear h
  replace H := Option.bind_eq_some_iff.mp H
  obtain ⟨⟨t338, t339⟩, A20, H⟩ := H
  replace H : (if t339 = 0 then (if t338 = true then ((crc_Bytes.f k (IntKind.u64.wrap ((l0.length : Int))) 2).bind fun t340 => (attr_Encode.l0 k t340 l0 (l0.length : Int) 0)) else (some (([] : List Int), 15))) else (some (([] : List Int), t339))) = some (r1, r2) := H
  have A2 := Aside0.mk A20
  clear A20
  by_cases c3 : t339 = 0
  · rw [if_pos c3] at H
    have c3b0 : (t339 == 0) = true := beq_iff_eq.mpr c3
    have c3b1 : (t339 != 0) = false := bne_eq_false_iff_eq.mpr c3
    clear c3
    by_cases c4 : t338 = true
    · subst c4
      have H1 : ((crc_Bytes.f k (IntKind.u64.wrap ((l0.length : Int))) 2).bind fun t340 => (attr_Encode.l0 k t340 l0 (l0.length : Int) 0)) = some (r1, r2) := by rw [if_pos rfl] at H; exact H
      clear H
      have H := H1
      clear H1
      replace H := Option.bind_eq_some_iff.mp H
      obtain ⟨t340, A50, H⟩ := H
      replace H : (attr_Encode.l0 k t340 l0 (l0.length : Int) 0) = some (r1, r2) := H
      have A5 := Aside0.mk A50
      clear A50
      have H' := Aside0.mk H
      clear H
      go_enter Try.func21, Try.ntmps21
      go_wp2_with (first | ((with_reducible refine gate_callee (f := 35) rfl ?_); refine goesL_ (some 11) rfl rfl Try.func35 (by kernel_rfl) rfl #[.slice A0 l0.length c0] rfl (by (try simp only [List.map_toArray, List.map_cons, List.map_nil]); first | done | rfl | (simp only [List.length_drop, List.length_take]; rfl)) ?_; (with_reducible refine (attr_check.calls k _ _ l0 true t339 _ ?side1 ?side2 A2.out).mono ?_); (case side1 => repeat (first | exact HR0.out | (with_reducible refine Kd.C_alloc ?_ _) | (with_reducible refine Kd.C_drewN ?_ _) | (with_reducible refine Kd.C_drew ?_))); (case side2 => exact HC0.out); rintro e w6 ⟨rfl, hb⟩; refine ⟨_, rfl, ?_⟩; have n0_ := Aside0.mk (below_step (by repeat (first | (with_reducible first | exact HB.out | apply below_alloc | apply pw_below_drewN | apply below_drew1) | exact HB.out)) hb); clear HB; have HB := n0_; clear n0_; (try clear hb); (try clear hb2); (try clear hk); (try clear hi)) | ((with_reducible refine gate_callee (f := 45) rfl ?_); refine goesL_ (some 22) rfl rfl Try.func45 (by kernel_rfl) rfl #[.int .u64 (IntKind.u64.wrap ((l0.length : Int))), .int .i64 2] rfl (by (try simp only [List.map_toArray, List.map_cons, List.map_nil]); first | done | rfl | (simp only [List.length_drop, List.length_take]; rfl)) ?_; (with_reducible refine (crc_Bytes.calls k (IntKind.u64.wrap ((l0.length : Int))) 2 t340 _ A5.out).mono ?_); rintro e w7 ⟨v341, rfl, ho0, hb⟩; refine ⟨_, rfl, ?_⟩; have n0_ := Aside0.mk (Kd.R_lower ho0 (below_size (by repeat (first | (with_reducible first | exact HB.out | apply below_alloc | apply pw_below_drewN | apply below_drew1) | exact HB.out)))); have n1_ := Aside0.mk (below_step (by repeat (first | (with_reducible first | exact HB.out | apply below_alloc | apply pw_below_drewN | apply below_drew1) | exact HB.out)) hb); clear HB; have HO342 := n0_; have HB := n1_; clear n0_ n1_; (try clear hb); (try clear hb2); (try clear hk); (try clear hi); (try clear ho0)))
      go_loopg [6, 25] k (fun kq v6 v25 w' => ∃ (x6_1 : List Int) (x25_1 : Int), v25 = .int .i64 x25_1 ∧ Aside0 (attr_Encode.l0 kq x6_1 l0 (l0.length : Int) x25_1 = some (r1, r2)) ∧ Aside0 (kq ≤ k) ∧ Aside0 (Kd.R (Kd.int .u8) 5 w' w.heap.size (fun _ => True) v6 x6_1) ∧ Aside0 (Below w.heap.size w w'))
      case atStart => exact ⟨(t340), (0), (by first | rfl | (simp; done) | (simp [*]; done)), H', ⟨Nat.le_refl _⟩, ⟨by (with_reducible repeat (first | apply Kd.R_alloc | apply Kd.R_drewN | apply Kd.R_drew)); exact HO342.out⟩, ⟨by repeat (first | (with_reducible first | exact HB.out | apply below_alloc | apply pw_below_drewN | apply below_drew1) | exact HB.out)⟩⟩
      case round =>
        clear H'
        try clear c2
        try clear p2
        try clear c3
        try clear c3b0
        try clear c3b1
        try clear c4
        obtain ⟨x6_1, x25_1, rfl, HA, HK1, HO_6, HB⟩ := hrel
        cases gk with
        | zero => exact absurd HA.out (by intro h_; cases h_)
        | succ k1 =>
          have H := HA.out
          clear HA
          simp only [attr_Encode.l0] at H
          by_cases c8 : x25_1 < (l0.length : Int)
          · rw [if_pos c8] at H
            have c8b0 : decide (x25_1 < (l0.length : Int)) = true := decide_eq_true c8
            clear c8
            by_cases c9 : 0 ≤ x25_1
            · rw [if_pos c9] at H
              have c9b0 : decide (0 ≤ x25_1) = true := decide_eq_true c9
              clear c9
              by_cases c10 : x25_1 < (l0.length : Int)
              · rw [if_pos c10] at H
                have c10b0 : decide (x25_1 < (l0.length : Int)) = true := decide_eq_true c10
                clear c10
                obtain ⟨y345, hy345⟩ : ∃ y_ : List Int, y_ = (([((((rd_T26 l0 x25_1).f0).size : Int)) % 256, ((((rd_T26 l0 x25_1).f1).size : Int)) % 256] : List Int)) := ⟨_, rfl⟩
                replace H : (if x6_1.length + y345.length < 140737488355328 then ((some (x6_1 ++ y345 : List Int)).bind fun y348 => (if y348.length + ((rd_T26 l0 x25_1).f0).size < 140737488355328 then ((some (y348 ++ bytesOf ((rd_T26 l0 x25_1).f0) : List Int)).bind fun y351 => (if y351.length + ((rd_T26 l0 x25_1).f1).size < 140737488355328 then (attr_Encode.l0 k1 (y351 ++ bytesOf ((rd_T26 l0 x25_1).f1)) l0 (l0.length : Int) (wrap64 (x25_1 + 1))) else (none))) else (none))) else (none)) = some (r1, r2) := by first | (rw [hy345]; with_reducible exact H) | (have H2_ := (Option.bind_some _ _).symm.trans H; rw [hy345]; with_reducible exact H2_) | (have H2_ := (Option.bind_some _ _).symm.trans H; with_reducible exact H2_) | with_reducible exact H | (rw [hy345]; exact H) | exact H
                have Ny345 := Aside0.mk hy345
                clear hy345
                by_cases c11 : x6_1.length + y345.length < 140737488355328
                · rw [if_pos c11] at H
                  have LMc11 := Aside0.mk c11
                  clear c11
                  obtain ⟨y348, hy348⟩ : ∃ y_ : List Int, y_ = (x6_1 ++ y345) := ⟨_, rfl⟩
                  replace H : (if y348.length + ((rd_T26 l0 x25_1).f0).size < 140737488355328 then ((some (y348 ++ bytesOf ((rd_T26 l0 x25_1).f0) : List Int)).bind fun y351 => (if y351.length + ((rd_T26 l0 x25_1).f1).size < 140737488355328 then (attr_Encode.l0 k1 (y351 ++ bytesOf ((rd_T26 l0 x25_1).f1)) l0 (l0.length : Int) (wrap64 (x25_1 + 1))) else (none))) else (none)) = some (r1, r2) := by first | (rw [hy348]; with_reducible exact H) | (have H2_ := (Option.bind_some _ _).symm.trans H; rw [hy348]; with_reducible exact H2_) | (have H2_ := (Option.bind_some _ _).symm.trans H; with_reducible exact H2_) | with_reducible exact H | (rw [hy348]; exact H) | exact H
                  have Ny348 := Aside0.mk hy348
                  clear hy348
                  by_cases c12 : y348.length + ((rd_T26 l0 x25_1).f0).size < 140737488355328
                  · rw [if_pos c12] at H
                    have LMc12 := Aside0.mk c12
                    clear c12
                    obtain ⟨y351, hy351⟩ : ∃ y_ : List Int, y_ = (y348 ++ bytesOf ((rd_T26 l0 x25_1).f0)) := ⟨_, rfl⟩
                    replace H : (if y351.length + ((rd_T26 l0 x25_1).f1).size < 140737488355328 then (attr_Encode.l0 k1 (y351 ++ bytesOf ((rd_T26 l0 x25_1).f1)) l0 (l0.length : Int) (wrap64 (x25_1 + 1))) else (none)) = some (r1, r2) := by first | (rw [hy351]; with_reducible exact H) | (have H2_ := (Option.bind_some _ _).symm.trans H; rw [hy351]; with_reducible exact H2_) | (have H2_ := (Option.bind_some _ _).symm.trans H; with_reducible exact H2_) | with_reducible exact H | (rw [hy351]; exact H) | exact H
                    have Ny351 := Aside0.mk hy351
                    clear hy351
                    by_cases c13 : y351.length + ((rd_T26 l0 x25_1).f1).size < 140737488355328
                    · rw [if_pos c13] at H
                      have LMc13 := Aside0.mk c13
                      clear c13
                      obtain ⟨y354, hy354⟩ : ∃ y_ : List Int, y_ = (y351 ++ bytesOf ((rd_T26 l0 x25_1).f1)) := ⟨_, rfl⟩
                      replace H : (attr_Encode.l0 k1 y354 l0 (l0.length : Int) (wrap64 (x25_1 + 1))) = some (r1, r2) := by first | (rw [hy354]; with_reducible exact H) | (have H2_ := (Option.bind_some _ _).symm.trans H; rw [hy354]; with_reducible exact H2_) | (have H2_ := (Option.bind_some _ _).symm.trans H; with_reducible exact H2_) | with_reducible exact H | (rw [hy354]; exact H) | exact H
                      have Ny354 := Aside0.mk hy354
                      clear hy354
                      have H' := Aside0.mk H
                      clear H
                      have p343 : 0 ≤ (x25_1 : Int) := of_decide_eq_true (by first | (with_reducible assumption) | assumption)
                      have q343 : x25_1 < (l0.length : Int) := of_decide_eq_true (by first | (with_reducible assumption) | assumption)
                      obtain ⟨ad343, e343, hx343_0, hx343_1⟩ := at_T26 HR0.out x25_1 p343 q343
                      cases e343
                      replace hx343_0 := (HB.out.cell (World.block_lt_of_cell? w _ hx343_0)).trans hx343_0
                      replace hx343_1 := (HB.out.cell (World.block_lt_of_cell? w _ hx343_1)).trans hx343_1
                      replace p343 := eq_true p343
                      replace q343 := eq_true q343
                      try go_wp2_with (first | ((with_reducible refine gate_dst (N := 8) rfl ?_); refine box_event ?hg (N := 8) ?hd (cs := #[.string (⟨#[]⟩ : ByteArray), .string (⟨#[]⟩ : ByteArray)]) (t := 26) ?hr ?_; (case hd => rfl); (case hg => rfl); (case hr => first | (go_simp; done) | (go_simp; rfl)); intro gb344 hg w14 hbox hb; have n0_ := Aside0.mk (Kd.R_below (by (with_reducible repeat (first | apply Kd.R_alloc | apply Kd.R_drewN | apply Kd.R_drew)); exact HO_6.out) hb); have n1_ := Aside0.mk (below_step (by repeat (first | (with_reducible first | exact HB.out | apply below_alloc | apply pw_below_drewN | apply below_drew1) | exact HB.out)) hb); have n2_ := Aside0.mk (hbox); have n3_ := Aside0.mk ((by rw [hg]; exact (below_size (by repeat (first | (with_reducible first | exact HB.out | apply below_alloc | apply pw_below_drewN | apply below_drew1) | exact HB.out))) : w.heap.size ≤ gb344)); have n4_ := Aside0.mk ((by rw [hg]; exact (below_size (by repeat (first | (with_reducible first | exact HB.out | apply below_alloc | apply pw_below_drewN | apply below_drew1) | exact HB.out))) : w.heap.size ≤ gb344)); clear HO_6; clear HB; have HO_6 := n0_; have HB := n1_; have BK344 := n2_; have GW344 := n3_; have GE344 := n4_; clear n0_ n1_ n2_ n3_ n4_; clear hb hbox hg; have hcz15_0 : w14.cell? ⟨gb344, 0, none⟩ = some (.string (⟨#[]⟩ : ByteArray)) := (blk_cell BK344.out 0).trans rfl; have hcz15_1 : w14.cell? ⟨gb344, 1, none⟩ = some (.string (⟨#[]⟩ : ByteArray)) := (blk_cell BK344.out 1).trans rfl; have hfz15_0 := blk_frozen BK344.out 0; have hfz15_1 := blk_frozen BK344.out 1) | ((with_reducible refine gate_dst (N := 38) rfl ?_); refine Kd.R_lit (Kd.int .u8) _ 5 ?hg (N := 38) ?hd (xs := ([((((rd_T26 l0 x25_1).f0).size : Int)) % 256, ((((rd_T26 l0 x25_1).f1).size : Int)) % 256] : List Int)) (inner := [.int .u8 (((((rd_T26 l0 x25_1).f0).size : Int)) % 256), .int .u8 (((((rd_T26 l0 x25_1).f1).size : Int)) % 256)]) (ok := fun _ => True) (okp := fun _ => True) ?hr ?hp (fun _ hk => hk) trivial (Below.refl _ _) (Nat.le_refl _) (by simp) ?_; (case hd => rfl); (case hg => rfl); (case hr => first | (go_simp; done) | (go_simp; rfl)); (case hp => exact (Reps.one (show Kd.M (Kd.int .u8) _ _ _ (((((rd_T26 l0 x25_1).f0).size : Int)) % 256) [.int .u8 (((((rd_T26 l0 x25_1).f0).size : Int)) % 256)] from rfl) (Reps.one (show Kd.M (Kd.int .u8) _ _ _ (((((rd_T26 l0 x25_1).f1).size : Int)) % 256) [.int .u8 (((((rd_T26 l0 x25_1).f1).size : Int)) % 256)] from rfl) (Reps.none _ _)))); intro v346 w16 ho17 hb hg_ hnew_; clear hg_ hnew_; (first | rw [← Ny345.out] at ho17 | (simp only [Int.reduceToNat] at ho17; rw [← Ny345.out] at ho17)); have n0_ := Aside0.mk (Kd.R_elder' (by (with_reducible repeat (first | apply Kd.R_alloc | apply Kd.R_drewN | apply Kd.R_drew)); exact (Kd.R_mono (Kd.R_far (p := ⟨gb344, 1, none⟩) (Kd.R_far (p := ⟨gb344, 0, none⟩) (Kd.R_types HO_6.out BK344.out (by decide)) (fun _ hk => hk.2) (.string ((rd_T26 l0 x25_1).f0))) (fun _ hk => hk.2) (.string ((rd_T26 l0 x25_1).f1))) (fun _ h_ => h_.1))) (Kd.R_base ho17) hb); have n1_ := Aside0.mk (Kd.R_lower (Kd.R_new' ho17 (Kd.R_lt (by (with_reducible repeat (first | apply Kd.R_alloc | apply Kd.R_drewN | apply Kd.R_drew)); exact (Kd.R_mono (Kd.R_far (p := ⟨gb344, 1, none⟩) (Kd.R_far (p := ⟨gb344, 0, none⟩) (Kd.R_types HO_6.out BK344.out (by decide)) (fun _ hk => hk.2) (.string ((rd_T26 l0 x25_1).f0))) (fun _ hk => hk.2) (.string ((rd_T26 l0 x25_1).f1))) (fun _ h_ => h_.1))))) (below_size (by repeat (first | (with_reducible first | exact HB.out | apply below_alloc | apply pw_below_drewN | apply below_drew1 | refine below_set ?_ GE344.out) | exact HB.out)))); have n2_ := Aside0.mk (blk_below (g := gb344) (o := .cells #[.string ((rd_T26 l0 x25_1).f0), .string ((rd_T26 l0 x25_1).f1)] 26 (0, 0)) (by (with_reducible repeat (first | refine blk_drewN ?_ _ | refine blk_drew ?_ | refine blk_alloc ?_ _)); refine blk_put (cs := #[.string ((rd_T26 l0 x25_1).f0), .string (⟨#[]⟩ : ByteArray)]) ?_ 1 _ rfl; (with_reducible repeat (first | refine blk_drewN ?_ _ | refine blk_drew ?_ | refine blk_alloc ?_ _)); refine blk_put (cs := #[.string (⟨#[]⟩ : ByteArray), .string (⟨#[]⟩ : ByteArray)]) ?_ 0 _ rfl; (with_reducible repeat (first | refine blk_drewN ?_ _ | refine blk_drew ?_ | refine blk_alloc ?_ _)); exact BK344.out) hb); have n3_ := Aside0.mk (below_step (by repeat (first | (with_reducible first | exact HB.out | apply below_alloc | apply pw_below_drewN | apply below_drew1 | refine below_set ?_ GE344.out) | exact HB.out)) hb); clear HO_6; clear BK344; clear HB; have HO_6 := n0_; have HO347 := n1_; have BK344 := n2_; have HB := n3_; clear n0_ n1_ n2_ n3_; clear hb ho17; obtain ⟨Ao19, co19, eo19⟩ := Kd.R_slice HO347.out; subst eo19) | ((with_reducible refine gate_builtin (b := .append) (xs := #[.tmp 29, .tmp 38]) rfl ?_); at_builtin; refine Kd.R_append_rows (Kd.int .u8) (w0 := w) w.heap.size rfl (.tmp 29) (.tmp 38) 37 5 (.int .u8 0) 1 rfl Try.underlying37 info5 rfl (by decide) (by omega) u6 x6_1 y345 _ _ _ (fun k_ => some k_ ≠ (.slice Ao19 y345.length co19 : Value).ownBlock) (fun _ => False) rfl rfl ?aO ?aR (fun _ _ h => h) (fun _ h => h.elim) ?aF ?aB ?aS ?aL ?_; (case aR => repeat (first | exact (Kd.R_reads' HO347.out).2.2 | (with_reducible refine Kd.C_alloc ?_ _) | (with_reducible refine Kd.C_drewN ?_ _) | (with_reducible refine Kd.C_drew ?_))); (case aB => exact (by repeat (first | (with_reducible first | exact HB.out | apply below_alloc | apply pw_below_drewN | apply below_drew1 | refine below_set ?_ GE344.out) | exact HB.out))); (case aF => exact (fun k_ hk => Kd.fresh' (Kd.R_lt (by (with_reducible repeat (first | apply Kd.R_alloc | apply Kd.R_drewN | apply Kd.R_drew)); exact HO347.out)) k_ hk)); (case aO => exact (by (with_reducible repeat (first | apply Kd.R_alloc | apply Kd.R_drewN | apply Kd.R_drew)); exact Kd.R_mono HO_6.out (fun _ hk => hk.2))); (case aS => exact (below_size (by repeat (first | (with_reducible first | exact HB.out | apply below_alloc | apply pw_below_drewN | apply below_drew1 | refine below_set ?_ GE344.out) | exact HB.out)))); (case aL => have := LMc11.out; omega); intro v349 w18 ho hb hg hat; rw [← Ny348.out] at ho; have n0_ := Aside0.mk (blk_grown (g := gb344) (o := .cells #[.string ((rd_T26 l0 x25_1).f0), .string ((rd_T26 l0 x25_1).f1)] 26 (0, 0)) (by (with_reducible repeat (first | refine blk_drewN ?_ _ | refine blk_drew ?_ | refine blk_alloc ?_ _)); exact BK344.out) hg (Kd.R_ne HO_6.out BK344.out (by decide))); have n1_ := Aside0.mk (Kd.R_after (ok := (fun _ => True)) (by (with_reducible repeat (first | apply Kd.R_alloc | apply Kd.R_drewN | apply Kd.R_drew)); exact HO347.out) hg hat); have n2_ := Aside0.mk (hb); have n3_ := Aside0.mk (ho); clear BK344; clear HO347; clear HB; clear HO_6; have BK344 := n0_; have HO347 := n1_; have HB := n2_; have HO350 := n3_; clear n0_ n1_ n2_ n3_; clear ho hb hg hat))
                      have n0_ := Aside0.mk (Kd.R_drew HO347.out)
                      have n1_ := Aside0.mk (Kd.R_drew HO350.out)
                      have n2_ := Aside0.mk (blk_drew BK344.out)
                      have n3_ := Aside0.mk (below_drew1 HB.out)
                      clear HO347
                      clear HO350
                      clear BK344
                      clear HB
                      have HO347 := n0_
                      have HO350 := n1_
                      have BK344 := n2_
                      have HB := n3_
                      clear n0_ n1_ n2_ n3_
                      refine start_ (n := 8) (S := fun w' => w'.cell? ⟨gb344, 0, none⟩ = some (.string ((rd_T26 l0 x25_1).f0)) ∧ w'.cell? ⟨gb344, 1, none⟩ = some (.string ((rd_T26 l0 x25_1).f1))) (ds := []) #[false, false, false, false, false, false, false, false] (by kernel_rfl) rfl rfl ⟨(blk_cell BK344.out 0).trans rfl, (blk_cell BK344.out 1).trans rfl⟩ (fun hHeld => ?_); refine with_tabW attr_Encode.tab11 attr_Encode.bits11 (fun HT_ HW_ => ?_)
                      generalize w18.drew = w20 at HO347 HO350 BK344 HB hHeld ⊢
                      refine pure_ (i := 0) (N := some 40) (v := ?_) (a' := ?_) #[true, false, false, false, false, false, false, false] rfl rfl (any_of HT_.out (by kernel_rfl)) (fun _ _ _ h => h) (Or.inl ⟨by rfl, ?_⟩) ?_ ?_
                      rotate_left
                      · intro w'
                        go_simp
                        with_reducible rfl
                      rotate_left
                      · simp only [Act.put, List.setIfInBounds_toArray, List.set_cons_zero, List.set_cons_succ, i64_w, i32_w]
                        rfl
                      refine pure_ (i := 1) (N := some 41) (v := ?_) (a' := ?_) #[true, true, false, false, false, false, false, false] rfl rfl (any_of HT_.out (by kernel_rfl)) (fun _ _ _ h => h) (Or.inl ⟨by rfl, ?_⟩) ?_ ?_
                      rotate_left
                      · intro w'
                        go_simp
                        with_reducible rfl
                      rotate_left
                      · simp only [Act.put, List.setIfInBounds_toArray, List.set_cons_zero, List.set_cons_succ, i64_w, i32_w]
                        rfl
                      refine pure_ (i := 4) (N := some 44) (v := ?_) (a' := ?_) #[true, true, false, false, true, false, false, false] rfl rfl (any_of HT_.out (by kernel_rfl)) (fun _ _ _ h => h) (Or.inl ⟨by rfl, ?_⟩) ?_ ?_
                      rotate_left
                      · intro w'
                        go_simp
                        with_reducible rfl
                      rotate_left
                      · simp only [Act.put, List.setIfInBounds_toArray, List.set_cons_zero, List.set_cons_succ, i64_w, i32_w]
                        rfl
                      refine take_ (i := 2) (N := some 42) (v := ?_) (a' := ?_) #[true, true, true, false, true, false, false, false] rfl rfl (take_ofW HT_.out HW_.out (by kernel_rfl)) (fun _ _ _ h => h) (Or.inl ⟨by rfl, ?_⟩) hHeld ?_ ?_
                      rotate_left
                      · rintro w' ⟨s0, s1⟩
                        go_simp
                        with_reducible rfl
                      rotate_left
                      · simp only [Act.put, List.setIfInBounds_toArray, List.set_cons_zero, List.set_cons_succ, i64_w, i32_w]
                        rfl
                      refine take_ (i := 5) (N := some 45) (v := ?_) (a' := ?_) #[true, true, true, false, true, true, false, false] rfl rfl (take_ofW HT_.out HW_.out (by kernel_rfl)) (fun _ _ _ h => h) (Or.inl ⟨by rfl, ?_⟩) hHeld ?_ ?_
                      rotate_left
                      · rintro w' ⟨s0, s1⟩
                        go_simp
                        with_reducible rfl
                      rotate_left
                      · simp only [Act.put, List.setIfInBounds_toArray, List.set_cons_zero, List.set_cons_succ, i64_w, i32_w]
                        rfl
                      refine one_ (i := 3) (N := some 43) #[true, true, true, true, true, true, false, false] rfl rfl (one_of HT_.out (by kernel_rfl)) (by decide) (fun K hK => ?_)
                      refine Go.Proofs.Ytffaggckhneakaa.Hs.R_append_str_step (w0 := w) w.heap.size (by rfl) (.tmp 40) _ 37 9 5 rfl Try.underlying37 Try.underlying9 info5 v349 y348 ((rd_T26 l0 x25_1).f0) (fun k_ => some k_ ≠ (.slice Ao19 y345.length co19 : Value).ownBlock) rfl rfl ?aO ?aF ?aB ?aS ?aL ?_
                      (case aB => exact (by repeat (first | (with_reducible first | exact HB.out | apply below_alloc | apply pw_below_drewN | apply below_drew1 | refine below_set ?_ GE344.out) | exact HB.out)))
                      (case aF => exact (fun k_ hk => Kd.fresh' (Kd.R_lt (by (with_reducible repeat (first | apply Kd.R_alloc | apply Kd.R_drewN | apply Kd.R_drew)); exact HO347.out)) k_ hk))
                      (case aO => exact (by (with_reducible repeat (first | apply Kd.R_alloc | apply Kd.R_drewN | apply Kd.R_drew)); exact HO350.out))
                      (case aS => exact (below_size (by repeat (first | (with_reducible first | exact HB.out | apply below_alloc | apply pw_below_drewN | apply below_drew1 | refine below_set ?_ GE344.out) | exact HB.out))))
                      (case aL => have := LMc12.out; omega)
                      intro v352 w21 ho hb hg hat
                      rw [← Ny351.out] at ho
                      have n0_ := Aside0.mk (blk_grown (g := gb344) (o := .cells #[.string ((rd_T26 l0 x25_1).f0), .string ((rd_T26 l0 x25_1).f1)] 26 (0, 0)) (by (with_reducible repeat (first | refine blk_drewN ?_ _ | refine blk_drew ?_ | refine blk_alloc ?_ _)); exact BK344.out) hg (Kd.R_ne HO350.out BK344.out (by decide)))
                      have n1_ := Aside0.mk (Kd.R_after (ok := (fun _ => True)) (by (with_reducible repeat (first | apply Kd.R_alloc | apply Kd.R_drewN | apply Kd.R_drew)); exact HO347.out) hg hat)
                      have n2_ := Aside0.mk (hb)
                      have n3_ := Aside0.mk (ho)
                      clear BK344
                      clear HO347
                      clear HB
                      clear HO350
                      have BK344 := n0_
                      have HO347 := n1_
                      have HB := n2_
                      have HO353 := n3_
                      clear n0_ n1_ n2_ n3_
                      clear ho hb hg hat
                      refine hK.out _ _ ⟨(blk_cell BK344.out 0).trans rfl, (blk_cell BK344.out 1).trans rfl⟩ (fun hHeld => ?_)
                      clear hK K
                      refine norm_ (a' := ?_) ?_ ?_
                      rotate_left
                      · show Act.put _ (some 43) _ = _
                        simp only [Act.put, List.setIfInBounds_toArray, List.set_cons_zero, List.set_cons_succ, i64_w, i32_w]
                        rfl
                      refine one_ (i := 6) (N := some 46) #[true, true, true, true, true, true, true, false] rfl rfl (one_of HT_.out (by kernel_rfl)) (by decide) (fun K hK => ?_)
                      refine Go.Proofs.Ytffaggckhneakaa.Hs.R_append_str_step (w0 := w) w.heap.size (by rfl) (.tmp 43) _ 37 9 5 rfl Try.underlying37 Try.underlying9 info5 v352 y351 ((rd_T26 l0 x25_1).f1) (fun k_ => some k_ ≠ (.slice Ao19 y345.length co19 : Value).ownBlock) rfl rfl ?aO ?aF ?aB ?aS ?aL ?_
                      (case aB => exact (by repeat (first | (with_reducible first | exact HB.out | apply below_alloc | apply pw_below_drewN | apply below_drew1 | refine below_set ?_ GE344.out) | exact HB.out)))
                      (case aF => exact (fun k_ hk => Kd.fresh' (Kd.R_lt (by (with_reducible repeat (first | apply Kd.R_alloc | apply Kd.R_drewN | apply Kd.R_drew)); exact HO347.out)) k_ hk))
                      (case aO => exact (by (with_reducible repeat (first | apply Kd.R_alloc | apply Kd.R_drewN | apply Kd.R_drew)); exact HO353.out))
                      (case aS => exact (below_size (by repeat (first | (with_reducible first | exact HB.out | apply below_alloc | apply pw_below_drewN | apply below_drew1 | refine below_set ?_ GE344.out) | exact HB.out))))
                      (case aL => have := LMc13.out; omega)
                      intro v355 w22 ho hb hg hat
                      rw [← Ny354.out] at ho
                      have n0_ := Aside0.mk (blk_grown (g := gb344) (o := .cells #[.string ((rd_T26 l0 x25_1).f0), .string ((rd_T26 l0 x25_1).f1)] 26 (0, 0)) (by (with_reducible repeat (first | refine blk_drewN ?_ _ | refine blk_drew ?_ | refine blk_alloc ?_ _)); exact BK344.out) hg (Kd.R_ne HO353.out BK344.out (by decide)))
                      have n1_ := Aside0.mk (Kd.R_after (ok := (fun _ => True)) (by (with_reducible repeat (first | apply Kd.R_alloc | apply Kd.R_drewN | apply Kd.R_drew)); exact HO347.out) hg hat)
                      have n2_ := Aside0.mk (hb)
                      have n3_ := Aside0.mk (ho)
                      clear BK344
                      clear HO347
                      clear HB
                      clear HO353
                      have BK344 := n0_
                      have HO347 := n1_
                      have HB := n2_
                      have HO356 := n3_
                      clear n0_ n1_ n2_ n3_
                      clear ho hb hg hat
                      refine hK.out _ _ ⟨(blk_cell BK344.out 0).trans rfl, (blk_cell BK344.out 1).trans rfl⟩ (fun hHeld => ?_)
                      clear hK K
                      refine norm_ (a' := ?_) ?_ ?_
                      rotate_left
                      · show Act.put _ (some 46) _ = _
                        simp only [Act.put, List.setIfInBounds_toArray, List.set_cons_zero, List.set_cons_succ, i64_w, i32_w]
                        rfl
                      refine pure_ (i := 7) (N := some 6) (v := ?_) (a' := ?_) #[true, true, true, true, true, true, true, true] rfl rfl (any_of HT_.out (by kernel_rfl)) (fun _ _ _ h => h) (Or.inl ⟨by rfl, ?_⟩) ?_ ?_
                      rotate_left
                      · intro w'
                        go_simp
                        with_reducible rfl
                      rotate_left
                      · simp only [Act.put, List.setIfInBounds_toArray, List.set_cons_zero, List.set_cons_succ, i64_w, i32_w]
                        rfl
                      refine done_ (done_of HT_.out (by kernel_rfl)) ?_
                      try go_wp2
                      go_roundg k1
                      case measure => have := HK1.out; omega
                      case rel => exact ⟨(y354), (wrap64 (x25_1 + 1)), (by first | rfl | (simp; done) | (simp [*]; done)), H', ⟨by have := HK1.out; omega⟩, ⟨by (with_reducible repeat (first | apply Kd.R_alloc | apply Kd.R_drewN | apply Kd.R_drew)); exact Kd.R_mono HO356.out (fun _ hk => trivial)⟩, ⟨by repeat (first | (with_reducible first | exact HB.out | apply below_alloc | apply pw_below_drewN | apply below_drew1 | refine below_set ?_ GE344.out) | exact HB.out)⟩⟩
                    · rw [if_neg c13] at H
                      exact absurd H (by simp)
                  · rw [if_neg c12] at H
                    exact absurd H (by simp)
                · rw [if_neg c11] at H
                  exact absurd H (by simp)
              · rw [if_neg c10] at H
                exact absurd H (by simp)
            · rw [if_neg c9] at H
              exact absurd H (by simp)
          · rw [if_neg c8] at H
            have c8b0 : decide (x25_1 < (l0.length : Int)) = false := decide_eq_false c8
            clear c8
            obtain ⟨ji23, hji23⟩ : ∃ j_ : Int, (wrap64 (252 - (x6_1.length : Int))) = j_ := ⟨_, rfl⟩
            replace H : (if 0 ≤ (ji23) then (if x6_1.length + (ji23 : Int).toNat < 140737488355328 then ((some (x6_1 ++ List.replicate (ji23 : Int).toNat 0 : List Int)).bind fun y357 => ((crc_Sum.f k1 y357).bind fun t360 => ((crc_Bytes.f k1 (IntKind.u64.wrap (t360)) 4).bind fun t361 => (if y357.length + t361.length < 140737488355328 then (some ((y357 ++ t361), 0)) else (none))))) else (none)) else (none)) = some (r1, r2) := by first | (rw [hji23] at H; exact H) | (simp only [hji23] at H ⊢; exact H)
            have hji23w : (IntKind.i64.wrap (252 - (x6_1.length : Int))) = ji23 := (i64_w _).trans hji23
            (try rw [hji23] at c3b0)
            (try rw [hji23] at c3b1)
            (try rw [hji23] at c8b0)
            by_cases c24 : 0 ≤ (ji23)
            · rw [if_pos c24] at H
              have c24b0 := eq_true c24
              have c24b1 : decide (0 ≤ (ji23)) = true := decide_eq_true c24
              clear c24
              by_cases c25 : x6_1.length + (ji23 : Int).toNat < 140737488355328
              · rw [if_pos c25] at H
                have LMc25 := Aside0.mk c25
                clear c25
                obtain ⟨y357, hy357⟩ : ∃ y_ : List Int, y_ = (x6_1 ++ List.replicate (ji23 : Int).toNat 0) := ⟨_, rfl⟩
                replace H : ((crc_Sum.f k1 y357).bind fun t360 => ((crc_Bytes.f k1 (IntKind.u64.wrap (t360)) 4).bind fun t361 => (if y357.length + t361.length < 140737488355328 then (some ((y357 ++ t361), 0)) else (none)))) = some (r1, r2) := by first | (rw [hy357]; with_reducible exact H) | (have H2_ := (Option.bind_some _ _).symm.trans H; rw [hy357]; with_reducible exact H2_) | (have H2_ := (Option.bind_some _ _).symm.trans H; with_reducible exact H2_) | with_reducible exact H | (rw [hy357]; exact H) | exact H
                have Ny357 := Aside0.mk hy357
                clear hy357
                replace H := Option.bind_eq_some_iff.mp H
                obtain ⟨t360, A260, H⟩ := H
                replace H : ((crc_Bytes.f k1 (IntKind.u64.wrap (t360)) 4).bind fun t361 => (if y357.length + t361.length < 140737488355328 then (some ((y357 ++ t361), 0)) else (none))) = some (r1, r2) := H
                have A26 := Aside0.mk A260
                clear A260
                replace H := Option.bind_eq_some_iff.mp H
                obtain ⟨t361, A270, H⟩ := H
                replace H : (if y357.length + t361.length < 140737488355328 then (some ((y357 ++ t361), 0)) else (none)) = some (r1, r2) := H
                have A27 := Aside0.mk A270
                clear A270
                by_cases c28 : y357.length + t361.length < 140737488355328
                · rw [if_pos c28] at H
                  have LMc28 := Aside0.mk c28
                  clear c28
                  obtain ⟨y364, hy364⟩ : ∃ y_ : List Int, y_ = (y357 ++ t361) := ⟨_, rfl⟩
                  replace H : (some (y364, 0)) = some (r1, r2) := by first | (rw [hy364]; with_reducible exact H) | (have H2_ := (Option.bind_some _ _).symm.trans H; rw [hy364]; with_reducible exact H2_) | (have H2_ := (Option.bind_some _ _).symm.trans H; with_reducible exact H2_) | with_reducible exact H | (rw [hy364]; exact H) | exact H
                  have Ny364 := Aside0.mk hy364
                  clear hy364
                  simp only [Option.some.injEq, Prod.mk.injEq] at H
                  obtain ⟨rfl, rfl⟩ := H
                  obtain ⟨Ao29, co29, eo29⟩ := Kd.R_slice HO_6.out
                  subst eo29
                  go_wp2_with (first | (at_builtin; refine Kd.R_append_zeros (Kd.int .u8) (w0 := w) w.heap.size rfl (.tmp 48) (.tmp 51) 37 3 5 (.int .u8 0) 1 rfl Try.underlying37 Try.underlying3 info5 rfl (by decide) (by omega) (.slice Ao29 x6_1.length co29) x6_1 0 (ji23 : Int) (fun _ => True) rfl rfl rfl ?aF ?aO (of_decide_eq_true (by first | (with_reducible assumption) | assumption)) ?aB ?aS ?aL ?_; (case aB => exact (by repeat (first | (with_reducible first | exact HB.out | apply below_alloc | apply pw_below_drewN | apply below_drew1) | exact HB.out))); (case aF => exact (fun _ _ => trivial)); (case aO => exact (by (with_reducible repeat (first | apply Kd.R_alloc | apply Kd.R_drewN | apply Kd.R_drew)); exact HO_6.out)); (case aS => exact (below_size (by repeat (first | (with_reducible first | exact HB.out | apply below_alloc | apply pw_below_drewN | apply below_drew1) | exact HB.out)))); (case aL => have := LMc25.out; omega); intro v358 w30 ho hb hg hat; rw [← Ny357.out] at ho; have n0_ := Aside0.mk (hb); have n1_ := Aside0.mk (ho); clear HB; clear HO_6; have HB := n0_; have HO359 := n1_; clear n0_ n1_; clear ho hb hg hat; obtain ⟨Ao31, co31, eo31⟩ := Kd.R_slice HO359.out; subst eo31) | ((with_reducible refine gate_callee (f := 46) rfl ?_); refine goesL_ (some 55) rfl rfl Try.func46 (by kernel_rfl) rfl #[.slice Ao31 y357.length co31] rfl (by (try simp only [List.map_toArray, List.map_cons, List.map_nil]); first | done | rfl | (simp only [List.length_drop, List.length_take]; rfl)) ?_; (with_reducible refine (crc_Sum.calls k1 _ _ y357 t360 _ ?side1 ?side2 A26.out).mono ?_); (case side1 => repeat (first | exact (Kd.R_reads' HO359.out).2.2 | (with_reducible refine Kd.C_alloc ?_ _) | (with_reducible refine Kd.C_drewN ?_ _) | (with_reducible refine Kd.C_drew ?_))); (case side2 => exact (Kd.R_reads' HO359.out).2.1); rintro e w32 ⟨rfl, hb⟩; refine ⟨_, rfl, ?_⟩; have n0_ := Aside0.mk (Kd.R_below (by (with_reducible repeat (first | apply Kd.R_alloc | apply Kd.R_drewN | apply Kd.R_drew)); exact HO359.out) hb); have n1_ := Aside0.mk (below_step (by repeat (first | (with_reducible first | exact HB.out | apply below_alloc | apply pw_below_drewN | apply below_drew1) | exact HB.out)) hb); clear HO359; clear HB; have HO359 := n0_; have HB := n1_; clear n0_ n1_; (try clear hb); (try clear hb2); (try clear hk); (try clear hi)) | ((with_reducible refine gate_callee (f := 45) rfl ?_); refine goesL_ (some 57) rfl rfl Try.func45 (by kernel_rfl) rfl #[.int .u64 (IntKind.u64.wrap (t360)), .int .i64 4] rfl (by (try simp only [List.map_toArray, List.map_cons, List.map_nil]); first | done | rfl | (simp only [List.length_drop, List.length_take]; rfl)) ?_; (with_reducible refine (crc_Bytes.calls k1 (IntKind.u64.wrap (t360)) 4 t361 _ A27.out).mono ?_); rintro e w33 ⟨v362, rfl, ho0, hb⟩; refine ⟨_, rfl, ?_⟩; have n0_ := Aside0.mk (Kd.R_elder' (by (with_reducible repeat (first | apply Kd.R_alloc | apply Kd.R_drewN | apply Kd.R_drew)); exact HO359.out) (Kd.R_base ho0) hb); have n1_ := Aside0.mk (Kd.R_lower (Kd.R_new' ho0 (Kd.R_lt (by (with_reducible repeat (first | apply Kd.R_alloc | apply Kd.R_drewN | apply Kd.R_drew)); exact HO359.out))) (below_size (by repeat (first | (with_reducible first | exact HB.out | apply below_alloc | apply pw_below_drewN | apply below_drew1) | exact HB.out)))); have n2_ := Aside0.mk (below_step (by repeat (first | (with_reducible first | exact HB.out | apply below_alloc | apply pw_below_drewN | apply below_drew1) | exact HB.out)) hb); clear HO359; clear HB; have HO359 := n0_; have HO363 := n1_; have HB := n2_; clear n0_ n1_ n2_; (try clear hb); (try clear hb2); (try clear hk); (try clear hi); (try clear ho0); obtain ⟨Ao35, co35, eo35⟩ := Kd.R_slice HO363.out; subst eo35) | ((with_reducible refine gate_builtin (b := .append) (xs := #[.tmp 53, .tmp 57]) rfl ?_); at_builtin; refine Kd.R_append_rows (Kd.int .u8) (w0 := w) w.heap.size rfl (.tmp 53) (.tmp 57) 37 5 (.int .u8 0) 1 rfl Try.underlying37 info5 rfl (by decide) (by omega) (.slice Ao31 y357.length co31) y357 t361 _ _ _ (fun k_ => some k_ ≠ (.slice Ao35 t361.length co35 : Value).ownBlock) (fun _ => False) rfl rfl ?aO ?aR (fun _ _ h => h) (fun _ h => h.elim) ?aF ?aB ?aS ?aL ?_; (case aR => repeat (first | exact (Kd.R_reads' HO363.out).2.2 | (with_reducible refine Kd.C_alloc ?_ _) | (with_reducible refine Kd.C_drewN ?_ _) | (with_reducible refine Kd.C_drew ?_))); (case aB => exact (by repeat (first | (with_reducible first | exact HB.out | apply below_alloc | apply pw_below_drewN | apply below_drew1) | exact HB.out))); (case aF => exact (fun k_ hk => Kd.fresh' (Kd.R_lt (by (with_reducible repeat (first | apply Kd.R_alloc | apply Kd.R_drewN | apply Kd.R_drew)); exact HO363.out)) k_ hk)); (case aO => exact (by (with_reducible repeat (first | apply Kd.R_alloc | apply Kd.R_drewN | apply Kd.R_drew)); exact Kd.R_mono HO359.out (fun _ hk => hk.2))); (case aS => exact (below_size (by repeat (first | (with_reducible first | exact HB.out | apply below_alloc | apply pw_below_drewN | apply below_drew1) | exact HB.out)))); (case aL => have := LMc28.out; omega); intro v365 w34 ho hb hg hat; rw [← Ny364.out] at ho; have n0_ := Aside0.mk (Kd.R_after (ok := (fun _ => True)) (by (with_reducible repeat (first | apply Kd.R_alloc | apply Kd.R_drewN | apply Kd.R_drew)); exact HO363.out) hg hat); have n1_ := Aside0.mk (hb); have n2_ := Aside0.mk (ho); clear HO363; clear HB; clear HO359; have HO363 := n0_; have HB := n1_; have HO366 := n2_; clear n0_ n1_ n2_; clear ho hb hg hat))
                  go_ret2
                  exact ⟨_, by first | rfl | (simp [errW_none, errW_some] <;> rfl) | (simp only [← hji23]; first | rfl | (simp [errW_none, errW_some] <;> rfl)) | (simp [*, errW_none, errW_some] <;> rfl), by (with_reducible repeat (first | apply Kd.R_alloc | apply Kd.R_drewN | apply Kd.R_drew)); exact Kd.R_mono HO366.out (fun _ hk => trivial), by repeat (first | (with_reducible first | exact HB.out | apply below_alloc | apply pw_below_drewN | apply below_drew1) | exact HB.out)⟩
                · rw [if_neg c28] at H
                  exact absurd H (by simp)
              · rw [if_neg c25] at H
                exact absurd H (by simp)
            · rw [if_neg c24] at H
              exact absurd H (by simp)
    · replace c4 := Bool.eq_false_iff.mpr c4
      subst c4
      have H1 : (some (([] : List Int), 15)) = some (r1, r2) := by rw [if_neg (show ¬ (false = true) by decide)] at H; exact H
      clear H
      have H := H1
      clear H1
      simp only [Option.some.injEq, Prod.mk.injEq] at H
      obtain ⟨rfl, rfl⟩ := H
      go_enter Try.func21, Try.ntmps21
      go_wp2_with (first | ((with_reducible refine gate_callee (f := 35) rfl ?_); refine goesL_ (some 11) rfl rfl Try.func35 (by kernel_rfl) rfl #[.slice A0 l0.length c0] rfl (by (try simp only [List.map_toArray, List.map_cons, List.map_nil]); first | done | rfl | (simp only [List.length_drop, List.length_take]; rfl)) ?_; (with_reducible refine (attr_check.calls k _ _ l0 false t339 _ ?side1 ?side2 A2.out).mono ?_); (case side1 => repeat (first | exact HR0.out | (with_reducible refine Kd.C_alloc ?_ _) | (with_reducible refine Kd.C_drewN ?_ _) | (with_reducible refine Kd.C_drew ?_))); (case side2 => exact HC0.out); rintro e w36 ⟨rfl, hb⟩; refine ⟨_, rfl, ?_⟩; have n0_ := Aside0.mk (below_step (by repeat (first | (with_reducible first | exact HB.out | apply below_alloc | apply pw_below_drewN | apply below_drew1) | exact HB.out)) hb); clear HB; have HB := n0_; clear n0_; (try clear hb); (try clear hb2); (try clear hk); (try clear hi)))
      go_ret2
      exact ⟨_, by first | rfl | (simp [errW_none, errW_some] <;> rfl) | (simp [*, errW_none, errW_some] <;> rfl), by first | exact Kd.R_nil _ _ _ _ _ | exact Kd.N_nil _ _ _ _ _ | exact Kd.V_nil _ _ _ _ _ | exact Kd.Q_nil _ _ _ _ _ | exact Kd.S_nil _ _ _ _ _, by repeat (first | (with_reducible first | exact HB.out | apply below_alloc | apply pw_below_drewN | apply below_drew1) | exact HB.out)⟩
  · rw [if_neg c3] at H
    have c3b0 : (t339 == 0) = false := beq_eq_false_iff_ne.mpr c3
    have c3b1 : (t339 != 0) = true := bne_iff_ne.mpr c3
    simp only [Option.some.injEq, Prod.mk.injEq] at H
    obtain ⟨rfl, rfl⟩ := H
    go_enter Try.func21, Try.ntmps21
    go_wp2_with (first | ((with_reducible refine gate_callee (f := 35) rfl ?_); refine goesL_ (some 11) rfl rfl Try.func35 (by kernel_rfl) rfl #[.slice A0 l0.length c0] rfl (by (try simp only [List.map_toArray, List.map_cons, List.map_nil]); first | done | rfl | (simp only [List.length_drop, List.length_take]; rfl)) ?_; (with_reducible refine (attr_check.calls k _ _ l0 t338 t339 _ ?side1 ?side2 A2.out).mono ?_); (case side1 => repeat (first | exact HR0.out | (with_reducible refine Kd.C_alloc ?_ _) | (with_reducible refine Kd.C_drewN ?_ _) | (with_reducible refine Kd.C_drew ?_))); (case side2 => exact HC0.out); rintro e w37 ⟨rfl, hb⟩; refine ⟨_, rfl, ?_⟩; have n0_ := Aside0.mk (below_step (by repeat (first | (with_reducible first | exact HB.out | apply below_alloc | apply pw_below_drewN | apply below_drew1) | exact HB.out)) hb); clear HB; have HB := n0_; clear n0_; (try clear hb); (try clear hb2); (try clear hk); (try clear hi)))
    go_ret2
    exact ⟨_, by first | rfl | (simp [errW_none, errW_some] <;> rfl) | (simp [*, errW_none, errW_some] <;> rfl), by first | exact Kd.R_nil _ _ _ _ _ | exact Kd.N_nil _ _ _ _ _ | exact Kd.V_nil _ _ _ _ _ | exact Kd.Q_nil _ _ _ _ _ | exact Kd.S_nil _ _ _ _ _, by repeat (first | (with_reducible first | exact HB.out | apply below_alloc | apply pw_below_drewN | apply below_drew1) | exact HB.out)⟩
end Go.Proofs.Ytffaggckhneakaa.Pr
end
section
namespace Go.Proofs.Ytffaggckhneakaa.At
open Go.RowKit Go.Proofs.YtffaggckhneakaaW.PrintWords Go.Proofs.YtffaggckhneakaaW.PrintMore Go.Proofs.Ytffaggckhneakaa.Pr Go.Proofs.Ytffaggckhneakaa.Od Go.Proofs.Ytffaggckhneakaa.Cr
set_option linter.unusedVariables false
set_option linter.unusedSimpArgs false
theorem fin_ev (m : List E) (hm : right none m = true) (hl : m.length < 4398046511104) : Ev (fun k => attr_Set.fin k m) (if sumL m ≤ 250 then (m, 0) else ([], 15)) := by
  unfold attr_Set.fin
  refine Ev.bind (check_ev m hl) ?_
  unfold checkR
  simp only [if_pos hm]
  by_cases h : sumL m ≤ 250
  · simp only [decide_eq_true h, if_true, if_pos h]
    exact Ev.now _
  · simp only [decide_eq_false h, Bool.false_eq_true, if_false, if_neg h]
    exact Ev.now _
theorem set_ev (l : List E) (x : E) (hl : l.length < 4398046511103) : Ev (fun k => attr_Set.f k l x.f0 x.f1) (setR l x) := by
  unfold attr_Set.f
  refine Ev.bind (check_ev l (by omega)) ?_
  unfold checkR setR
  by_cases hr : right none l = true
  · simp only [if_pos hr, if_true, may_some, Option.bind_some]
    by_cases hx : okE x = true
    · have hx' : mayB x.f0 x.f1 = true := hx
      simp only [hx', if_true, if_pos (show right none l = true ∧ okE x = true from ⟨hr, hx⟩)]
      have hpr := put_right hr hx
      have hpl : (put x l).length ≤ l.length + 1 := put_len
      obtain ⟨A, M, C, rfl, hA, hC, hM⟩ := split (nb x) l ((right_iff l none).1 hr).2.2
      have hput := put_split hA hC hM
      rw [hput] at hpr hpl
      have hfin := fin_ev (A ++ x :: C) hpr (by omega)
      refine Ev.bind (find_ev A M C x.f0 hA hC hM (by omega)) ?_
      have hlen : (A ++ (M ++ C)).length = A.length + (M.length + C.length) := by rw [List.length_append, List.length_append]
      simp only [hput]
      rcases hM with rfl | ⟨m, rfl, hm⟩
      · rw [show (decide (([] : List E) ≠ [])) = false from rfl]
        simp only [Bool.false_eq_true, if_false]
        simp only [if_pos (show 0 ≤ (A.length : Int) ∧ (A.length : Int) ≤ ((A ++ ([] ++ C)).length : Int) ∧ (A ++ ([] ++ C)).length < 4398046511103 by omega)]
        simp only [Int.toNat_natCast, List.nil_append, List.take_left, List.drop_left]
        exact hfin
      · rw [show (decide (([m] : List E) ≠ [])) = true from rfl]
        simp only [if_true]
        simp only [if_pos (show 0 ≤ (A.length : Int) ∧ (A.length : Int) < ((A ++ ([m] ++ C)).length : Int) by rw [hlen]; simp; omega)]
        have e : (A ++ ([m] ++ C)).set (A.length : Int).toNat (⟨x.f0, x.f1⟩ : E) = A ++ x :: C := by
          rw [Int.toNat_natCast, List.set_append_right _ _ (Nat.le_refl _), Nat.sub_self]; rfl
        simp only [e]
        exact hfin
    · have hx' : mayB x.f0 x.f1 = false := by simpa [okE] using hx
      simp only [hx', Bool.false_eq_true, if_false, if_neg (show ¬ (right none l = true ∧ okE x = true) from fun h => hx h.2)]
      exact Ev.now _
  · simp only [if_neg hr, if_neg (show ¬ ((1 : Int) = 0) by decide), if_neg (show ¬ (right none l = true ∧ okE x = true) from fun h => hr h.1)]
    exact Ev.now _
theorem get_ev (l : List E) (s : ByteArray) (hl : l.length < 4398046511104) : Ev (fun k => attr_Get.f k l s) (getR l s.data.toList) := by
  unfold attr_Get.f
  refine Ev.bind (check_ev l hl) ?_
  unfold checkR getR
  by_cases hr : right none l = true
  · simp only [if_pos hr, if_true]
    obtain ⟨A, M, C, rfl, hA, hC, hM⟩ := split s.data.toList l ((right_iff l none).1 hr).2.2
    refine Ev.bind (find_ev A M C s hA hC hM hl) ?_
    rw [get_split hA hC hM]
    rcases hM with rfl | ⟨m, rfl, hm⟩
    · rw [show (decide (([] : List E) ≠ [])) = false from rfl]
      simp only [Bool.false_eq_true, if_false, List.head?_nil]
      exact Ev.now _
    · rw [show (decide (([m] : List E) ≠ [])) = true from rfl]
      have hlt : A.length < (A ++ ([m] ++ C)).length := by simp
      simp only [if_true, List.head?_cons, if_pos (show (0 : Int) ≤ (A.length : Int) by omega), if_pos (show (A.length : Int) < ((A ++ ([m] ++ C)).length : Int) by omega), rdT_get hlt]
      have e : (A ++ ([m] ++ C))[A.length] = m := by simp
      simp only [e]
      exact Ev.now _
  · simp only [if_neg hr, if_neg (show ¬ ((1 : Int) = 0) by decide)]
    exact Ev.now _
def entB (e : E) : List Int := bytesN 1 e.f0.size ++ bytesN 1 e.f1.size ++ bytesOf e.f0 ++ bytesOf e.f1
def bodyL : List E → List Int
  | [] => []
  | e :: l => entB e ++ bodyL l
def headP (l : List E) : List Int := bytesN 2 l.length
def encP (l : List E) : List Int := headP l ++ bodyL l ++ List.replicate (252 - (2 + sumL l)) 0
def encR (l : List E) : List Int × Int := if right none l = true then (if sumL l > 250 then ([], 15) else (encP l ++ bytesN 4 (sumB (encP l)).toNat, 0)) else ([], 1)
theorem entB_len (e : E) : (entB e).length = 2 + e.f0.size + e.f1.size := by
  simp only [entB, List.length_append, bytesN_len, bytesOf_length]
theorem bodyL_len : ∀ l, (bodyL l).length = sumL l
  | [] => rfl
  | e :: l => by rw [bodyL, List.length_append, entB_len, bodyL_len l, sumL]
theorem headP_len (l : List E) : (headP l).length = 2 := by simp [headP, bytesN_len]
theorem encP_len {l : List E} (h : sumL l ≤ 250) : (encP l).length = 252 := by
  rw [encP, List.length_append, List.length_append, headP_len, bodyL_len, List.length_replicate]; omega
theorem bytes_app {a b : List Int} (ha : ∀ x ∈ a, isByte x) (hb : ∀ x ∈ b, isByte x) : ∀ x ∈ a ++ b, isByte x := by
  intro x hx
  rcases List.mem_append.1 hx with h | h
  · exact ha x h
  · exact hb x h
theorem bodyL_byte : ∀ l, ∀ x ∈ bodyL l, isByte x
  | [] => by simp [bodyL]
  | e :: l => bytes_app (bytes_app (bytes_app (bytes_app (bytesN_byte _ _) (bytesN_byte _ _)) (isByte_bytesOf _)) (isByte_bytesOf _)) (bodyL_byte l)
theorem encP_byte (l : List E) : ∀ x ∈ encP l, isByte x := by
  refine bytes_app (bytes_app (bytesN_byte _ _) (bodyL_byte l)) ?_
  intro x hx
  rw [(List.mem_replicate.1 hx).2]
  unfold isByte; omega
theorem encR_byte (l : List E) : ∀ x ∈ (encR l).1, isByte x := by
  unfold encR
  split
  · split
    · simp
    · exact bytes_app (encP_byte l) (bytesN_byte _ _)
  · simp
theorem encR_len {l : List E} (h : (encR l).2 = 0) : (encR l).1.length = 256 := by
  unfold encR at h ⊢
  by_cases hr : right none l = true
  · rw [if_pos hr] at h ⊢
    by_cases hs : sumL l > 250
    · rw [if_pos hs] at h; cases h
    · rw [if_neg hs, List.length_append, encP_len (by omega), bytesN_len]
  · rw [if_neg hr] at h; cases h
theorem encR_iff {l : List E} : (encR l).2 = 0 ↔ right none l = true ∧ sumL l ≤ 250 := by
  unfold encR
  by_cases hr : right none l = true
  · rw [if_pos hr]
    by_cases hs : sumL l > 250
    · rw [if_pos hs]
      constructor
      · intro h; cases h
      · intro h; omega
    · rw [if_neg hs]
      exact ⟨fun _ => ⟨hr, by omega⟩, fun _ => rfl⟩
  · rw [if_neg hr]
    constructor
    · intro h; cases h
    · intro h; exact absurd h.1 hr
theorem u64n (n : Nat) (h : n < 18446744073709551616) : IntKind.u64.wrap (n : Int) = (n : Int) := by rw [u64w]; omega
theorem two_bytes (a b : Nat) : [((a : Nat) : Int) % 256, ((b : Nat) : Int) % 256] = bytesN 1 a ++ bytesN 1 b := by simp [bytesN]
theorem enc_ev (l : List E) (hl : l.length < 4398046511104) : Ev (fun k => attr_Encode.f k l) (encR l) := by
  unfold attr_Encode.f
  refine Ev.bind (check_ev l hl) ?_
  unfold checkR encR
  by_cases hr : right none l = true
  · simp only [if_pos hr, if_true]
    by_cases hs : sumL l > 250
    · simp only [if_pos hs, decide_eq_false (show ¬ sumL l ≤ 250 by omega), Bool.false_eq_true, if_false]
      exact Ev.now _
    · simp only [if_neg hs, decide_eq_true (show sumL l ≤ 250 by omega), if_true, u64n l.length (by omega)]
      refine Ev.bind (crc_bytes_ev _ 2 (by decide)) ?_
      have hlen : (headP l ++ bodyL l).length = 2 + sumL l := by rw [List.length_append, headP_len, bodyL_len]
      have key : ∀ (n i : Nat) (b : List Int), i + n = l.length → b.length + sumL (l.drop i) ≤ 252 → b ++ bodyL (l.drop i) = headP l ++ bodyL l → Ev (fun k => attr_Encode.l0 k b l (l.length : Int) (i : Int)) (encP l ++ bytesN 4 (sumB (encP l)).toNat, 0) := by
        intro n
        induction n with
        | zero =>
          intro i b hi hb he
          refine Ev.succ ?_
          rw [List.drop_of_length_le (by omega), bodyL, List.append_nil] at he
          subst he
          have ew : wrap64 (252 - ((headP l ++ bodyL l).length : Int)) = ((252 - (2 + sumL l) : Nat) : Int) := by rw [hlen, w64 (by omega) (by omega)]; omega
          have el : (headP l ++ bodyL l).length + (252 - (2 + sumL l)) = 252 := by omega
          simp only [attr_Encode.l0, if_neg (show ¬((i : Int) < (l.length : Int)) by omega), ew, if_pos (show (0 : Int) ≤ ((252 - (2 + sumL l) : Nat) : Int) by omega), Int.toNat_natCast, el, if_pos (show 252 < 140737488355328 by decide), bs]
          refine Ev.bind (crc_sum_ev (encP l) (by rw [encP_len (by omega)]; decide)) ?_
          have hlt := (sumB (encP l)).isLt
          rw [u64n _ (by omega)]
          refine Ev.bind (crc_bytes_ev _ 4 (by decide)) ?_
          have e5 : (headP l ++ bodyL l ++ List.replicate (252 - (2 + sumL l)) 0).length = 252 := encP_len (by omega)
          simp only [bytesN_len, e5, if_pos (show 252 + 4 < 140737488355328 by decide)]
          exact Ev.now _
        | succ n ih =>
          intro i b hi hb he
          refine Ev.succ ?_
          have hil : i < l.length := by omega
          rw [List.drop_eq_getElem_cons hil] at hb he
          simp only [sumL] at hb
          simp only [attr_Encode.l0, if_pos (show ((i : Int) < (l.length : Int)) by omega), if_pos (show (0 : Int) ≤ (i : Int) by omega), rdT_get hil, bs, two_bytes, List.length_append, bytesN_len, bytesOf_length, if_pos (show b.length + (1 + 1) < 140737488355328 by omega), if_pos (show b.length + (1 + 1) + l[i].f0.size < 140737488355328 by omega), if_pos (show b.length + (1 + 1) + l[i].f0.size + l[i].f1.size < 140737488355328 by omega), w64 (show -9223372036854775808 ≤ (i : Int) + 1 by omega) (by omega)]
          refine ih (i + 1) _ (by omega) (by simp only [List.length_append, bytesN_len, bytesOf_length]; omega) ?_
          rw [← he]
          simp only [bodyL, entB, List.append_assoc]
      have := key l.length 0 (headP l) (by omega) (by rw [List.drop_zero, headP_len]; omega) (by rw [List.drop_zero])
      exact this
  · simp only [if_neg hr, if_neg (show ¬ ((1 : Int) = 0) by decide)]
    exact Ev.now _
end Go.Proofs.Ytffaggckhneakaa.At
end
section
namespace Go.Proofs.Ytffaggckhneakaa.Pr
open Go.RowKit Go.Proofs.YtffaggckhneakaaW.PrintWords Go.Proofs.YtffaggckhneakaaW.PrintLast Go.Proofs.YtffaggckhneakaaW.PrintMore
attribute [local go_sem] max2_int min2_int max_two min_two max_three min_three max_four min_four
attribute [local go_sem] Go.Proofs.Ytffaggckhneakaa.Hl.str_geq Go.Proofs.Ytffaggckhneakaa.Hl.str_gtr Go.Proofs.Ytffaggckhneakaa.Hl.str_leq
set_option linter.unusedVariables false
set_option linter.unusedSimpArgs false
def undercroftlaw13_alive.f (k : Nat)  : Option (Bool) := (attr_Set.f k (([(⟨(⟨#[98]⟩ : ByteArray), (⟨#[49]⟩ : ByteArray)⟩ : S26)] : List (S26))) (⟨#[97]⟩ : ByteArray) (⟨#[50]⟩ : ByteArray)).bind fun bt370 => ((attr_Get.f k bt370.1 (⟨#[98]⟩ : ByteArray)).bind fun bt374 => ((attr_Encode.f k bt370.1).bind fun bt376 => (if bt370.2 = 0 then (if (bt370.1.length : Int) = 2 then (if 0 < (bt370.1.length : Int) then (if ((rd_T26 bt370.1 0).f0).toList = ([97] : List UInt8) then (if bt374.2 = 0 then (if bt374.1.toList = ([49] : List UInt8) then (if bt376.2 = 0 then (if (bt376.1.length : Int) = 256 then (if 0 < (bt376.1.length : Int) then (some ((rd bt376.1 0) == 2)) else (none)) else (some false)) else (some false)) else (some false)) else (some false)) else (some false)) else (none)) else (some false)) else (some false))))
set_option maxHeartbeats 8000000 in
set_option maxRecDepth 100000 in
theorem undercroftlaw13_alive.calls (k : Nat)  (r : Bool) (w : World) (h : undercroftlaw13_alive.f k  = some r) :
    Calls Try.prog 13 #[] w fun e w' => e = .returned (.bool r) ∧ Below w.heap.size w w' := by
  have hu26 := Try.underlying26
  have HB := Aside0.mk (Below.refl w.heap.size w)
  have H : ((attr_Set.f k (([(⟨(⟨#[98]⟩ : ByteArray), (⟨#[49]⟩ : ByteArray)⟩ : S26)] : List (S26))) (⟨#[97]⟩ : ByteArray) (⟨#[50]⟩ : ByteArray)).bind fun bt370 => ((attr_Get.f k bt370.1 (⟨#[98]⟩ : ByteArray)).bind fun bt374 => ((attr_Encode.f k bt370.1).bind fun bt376 => (if bt370.2 = 0 then (if (bt370.1.length : Int) = 2 then (if 0 < (bt370.1.length : Int) then (if ((rd_T26 bt370.1 0).f0).toList = ([97] : List UInt8) then (if bt374.2 = 0 then (if bt374.1.toList = ([49] : List UInt8) then (if bt376.2 = 0 then (if (bt376.1.length : Int) = 256 then (if 0 < (bt376.1.length : Int) then (some ((rd bt376.1 0) == 2)) else (none)) else (some false)) else (some false)) else (some false)) else (some false)) else (some false)) else (none)) else (some false)) else (some false))))) = some r := h
  clear h
  obtain ⟨y367, hy367⟩ : ∃ y_ : List (S26), y_ = (([(⟨(⟨#[98]⟩ : ByteArray), (⟨#[49]⟩ : ByteArray)⟩ : S26)] : List (S26))) := ⟨_, rfl⟩
  replace H : ((attr_Set.f k y367 (⟨#[97]⟩ : ByteArray) (⟨#[50]⟩ : ByteArray)).bind fun bt370 => ((attr_Get.f k bt370.1 (⟨#[98]⟩ : ByteArray)).bind fun bt374 => ((attr_Encode.f k bt370.1).bind fun bt376 => (if bt370.2 = 0 then (if (bt370.1.length : Int) = 2 then (if 0 < (bt370.1.length : Int) then (if ((rd_T26 bt370.1 0).f0).toList = ([97] : List UInt8) then (if bt374.2 = 0 then (if bt374.1.toList = ([49] : List UInt8) then (if bt376.2 = 0 then (if (bt376.1.length : Int) = 256 then (if 0 < (bt376.1.length : Int) then (some ((rd bt376.1 0) == 2)) else (none)) else (some false)) else (some false)) else (some false)) else (some false)) else (some false)) else (none)) else (some false)) else (some false))))) = some r := by first | (rw [hy367]; with_reducible exact H) | (have H2_ := (Option.bind_some _ _).symm.trans H; rw [hy367]; with_reducible exact H2_) | (have H2_ := (Option.bind_some _ _).symm.trans H; with_reducible exact H2_) | with_reducible exact H | (rw [hy367]; exact H) | exact H
  have Ny367 := Aside0.mk hy367
  clear hy367
  replace H := Option.bind_eq_some_iff.mp H
  obtain ⟨⟨t370, t373⟩, A10, H⟩ := H
  replace H : ((attr_Get.f k t370 (⟨#[98]⟩ : ByteArray)).bind fun bt374 => ((attr_Encode.f k t370).bind fun bt376 => (if t373 = 0 then (if (t370.length : Int) = 2 then (if 0 < (t370.length : Int) then (if ((rd_T26 t370 0).f0).toList = ([97] : List UInt8) then (if bt374.2 = 0 then (if bt374.1.toList = ([49] : List UInt8) then (if bt376.2 = 0 then (if (bt376.1.length : Int) = 256 then (if 0 < (bt376.1.length : Int) then (some ((rd bt376.1 0) == 2)) else (none)) else (some false)) else (some false)) else (some false)) else (some false)) else (some false)) else (none)) else (some false)) else (some false)))) = some r := H
  have A1 := Aside0.mk A10
  clear A10
  replace H := Option.bind_eq_some_iff.mp H
  obtain ⟨⟨t374, t375⟩, A20, H⟩ := H
  replace H : ((attr_Encode.f k t370).bind fun bt376 => (if t373 = 0 then (if (t370.length : Int) = 2 then (if 0 < (t370.length : Int) then (if ((rd_T26 t370 0).f0).toList = ([97] : List UInt8) then (if t375 = 0 then (if t374.toList = ([49] : List UInt8) then (if bt376.2 = 0 then (if (bt376.1.length : Int) = 256 then (if 0 < (bt376.1.length : Int) then (some ((rd bt376.1 0) == 2)) else (none)) else (some false)) else (some false)) else (some false)) else (some false)) else (some false)) else (none)) else (some false)) else (some false))) = some r := H
  have A2 := Aside0.mk A20
  clear A20
  replace H := Option.bind_eq_some_iff.mp H
  obtain ⟨⟨t376, t377⟩, A30, H⟩ := H
  replace H : (if t373 = 0 then (if (t370.length : Int) = 2 then (if 0 < (t370.length : Int) then (if ((rd_T26 t370 0).f0).toList = ([97] : List UInt8) then (if t375 = 0 then (if t374.toList = ([49] : List UInt8) then (if t377 = 0 then (if (t376.length : Int) = 256 then (if 0 < (t376.length : Int) then (some ((rd t376 0) == 2)) else (none)) else (some false)) else (some false)) else (some false)) else (some false)) else (some false)) else (none)) else (some false)) else (some false)) = some r := H
  have A3 := Aside0.mk A30
  clear A30
  by_cases c4 : t373 = 0
  · rw [if_pos c4] at H
    have c4b0 : (t373 == 0) = true := beq_iff_eq.mpr c4
    have c4b1 : (t373 != 0) = false := bne_eq_false_iff_eq.mpr c4
    clear c4
    by_cases c5 : (t370.length : Int) = 2
    · rw [if_pos c5] at H
      have c5b0 : ((t370.length : Int) == 2) = true := beq_iff_eq.mpr c5
      have c5b1 : ((t370.length : Int) != 2) = false := bne_eq_false_iff_eq.mpr c5
      clear c5
      by_cases c6 : 0 < (t370.length : Int)
      · rw [if_pos c6] at H
        have c6b0 : decide (0 < (t370.length : Int)) = true := decide_eq_true c6
        have c6b1 : decide (0 < t370.length) = true := decide_eq_true (by omega)
        clear c6
        by_cases c7 : ((rd_T26 t370 0).f0).toList = ([97] : List UInt8)
        · rw [if_pos c7] at H
          have c7b0 : (((rd_T26 t370 0).f0).toList == ([97] : List UInt8)) = true := beq_iff_eq.mpr c7
          have c7b1 : (((rd_T26 t370 0).f0).toList != ([97] : List UInt8)) = false := bne_eq_false_iff_eq.mpr c7
          clear c7
          by_cases c8 : t375 = 0
          · rw [if_pos c8] at H
            have c8b0 : (t375 == 0) = true := beq_iff_eq.mpr c8
            have c8b1 : (t375 != 0) = false := bne_eq_false_iff_eq.mpr c8
            clear c8
            by_cases c9 : t374.toList = ([49] : List UInt8)
            · rw [if_pos c9] at H
              have c9b0 : (t374.toList == ([49] : List UInt8)) = true := beq_iff_eq.mpr c9
              have c9b1 : (t374.toList != ([49] : List UInt8)) = false := bne_eq_false_iff_eq.mpr c9
              clear c9
              by_cases c10 : t377 = 0
              · rw [if_pos c10] at H
                have c10b0 : (t377 == 0) = true := beq_iff_eq.mpr c10
                have c10b1 : (t377 != 0) = false := bne_eq_false_iff_eq.mpr c10
                clear c10
                by_cases c11 : (t376.length : Int) = 256
                · rw [if_pos c11] at H
                  have c11b0 : ((t376.length : Int) == 256) = true := beq_iff_eq.mpr c11
                  have c11b1 : ((t376.length : Int) != 256) = false := bne_eq_false_iff_eq.mpr c11
                  clear c11
                  by_cases c12 : 0 < (t376.length : Int)
                  · rw [if_pos c12] at H
                    have c12b0 : decide (0 < (t376.length : Int)) = true := decide_eq_true c12
                    have c12b1 : decide (0 < t376.length) = true := decide_eq_true (by omega)
                    clear c12
                    obtain rfl := Option.some.inj H
                    go_enter Try.func13, Try.ntmps13
                    go_wp2_with (first | ((with_reducible refine gate_dst (N := 9) rfl ?_); (try (refine gate_guard (by rfl) ?_; dsimp only)); refine Kd.R_lit k26 _ 26 ?hg (N := 9) ?hd (xs := ([(⟨(⟨#[98]⟩ : ByteArray), (⟨#[49]⟩ : ByteArray)⟩ : S26)] : List (S26))) (inner := [.string (⟨#[98]⟩ : ByteArray), .string (⟨#[49]⟩ : ByteArray)]) (ok := fun _ => True) (okp := fun _ => True) ?hr ?hp (fun _ hk => hk) trivial (Below.refl _ _) (Nat.le_refl _) (by simp) ?_; (case hd => rfl); (case hg => rfl); (case hr => first | (go_simp; done) | (go_simp; rfl)); (case hp => exact (Reps.c2 (show Kd.M k26 _ _ _ (⟨(⟨#[98]⟩ : ByteArray), (⟨#[49]⟩ : ByteArray)⟩ : S26) [.string (⟨#[98]⟩ : ByteArray), .string (⟨#[49]⟩ : ByteArray)] from (k26_mkM _ _ _ (⟨(⟨#[98]⟩ : ByteArray), (⟨#[49]⟩ : ByteArray)⟩ : S26) )) (Reps.none _ _))); intro v368 w13 ho14 hb hg_ hnew_; clear hg_ hnew_; (first | rw [← Ny367.out] at ho14 | (simp only [Int.reduceToNat] at ho14; rw [← Ny367.out] at ho14)); have n0_ := Aside0.mk (Kd.R_lower ho14 (below_size (by repeat (first | (with_reducible first | exact HB.out | apply below_alloc | apply pw_below_drewN | apply below_drew1) | exact HB.out)))); have n1_ := Aside0.mk (below_step (by repeat (first | (with_reducible first | exact HB.out | apply below_alloc | apply pw_below_drewN | apply below_drew1) | exact HB.out)) hb); clear HB; have HO369 := n0_; have HB := n1_; clear n0_ n1_; clear hb ho14; obtain ⟨Ao15, co15, eo15⟩ := Kd.R_slice HO369.out; subst eo15) | ((with_reducible refine gate_callee (f := 14) rfl ?_); refine goesL_ (some 11) rfl rfl Try.func14 (by kernel_rfl) rfl #[.slice Ao15 y367.length co15, .agg #[.string (⟨#[97]⟩ : ByteArray), .string (⟨#[50]⟩ : ByteArray)]] rfl (by (try simp only [List.map_toArray, List.map_cons, List.map_nil]); first | done | rfl | (simp only [List.length_drop, List.length_take]; rfl)) ?_; (with_reducible refine (attr_Set.calls k _ _ y367 (⟨#[97]⟩ : ByteArray) (⟨#[50]⟩ : ByteArray) t370 t373 _ ?side1 ?side2 A1.out).mono ?_); (case side1 => repeat (first | exact (Kd.R_reads' HO369.out).2.2 | (with_reducible refine Kd.C_alloc ?_ _) | (with_reducible refine Kd.C_drewN ?_ _) | (with_reducible refine Kd.C_drew ?_))); (case side2 => exact (Kd.R_reads' HO369.out).2.1); rintro e w16 ⟨v371, rfl, ho0, hb⟩; refine ⟨_, rfl, ?_⟩; have n0_ := Aside0.mk (Kd.R_elder' (by (with_reducible repeat (first | apply Kd.R_alloc | apply Kd.R_drewN | apply Kd.R_drew)); exact HO369.out) (Kd.R_base ho0) hb); have n1_ := Aside0.mk (Kd.R_lower (Kd.R_new' ho0 (Kd.R_lt (by (with_reducible repeat (first | apply Kd.R_alloc | apply Kd.R_drewN | apply Kd.R_drew)); exact HO369.out))) (below_size (by repeat (first | (with_reducible first | exact HB.out | apply below_alloc | apply pw_below_drewN | apply below_drew1) | exact HB.out)))); have n2_ := Aside0.mk (below_step (by repeat (first | (with_reducible first | exact HB.out | apply below_alloc | apply pw_below_drewN | apply below_drew1) | exact HB.out)) hb); clear HO369; clear HB; have HO369 := n0_; have HO372 := n1_; have HB := n2_; clear n0_ n1_ n2_; (try clear hb); (try clear hb2); (try clear hk); (try clear hi); (try clear ho0); obtain ⟨Ao17, co17, eo17⟩ := Kd.R_slice HO372.out; subst eo17) | ((with_reducible refine gate_callee (f := 19) rfl ?_); refine goesL_ (some 16) rfl rfl Try.func19 (by kernel_rfl) rfl #[.slice Ao17 t370.length co17, .string (⟨#[98]⟩ : ByteArray)] rfl (by (try simp only [List.map_toArray, List.map_cons, List.map_nil]); first | done | rfl | (simp only [List.length_drop, List.length_take]; rfl)) ?_; (with_reducible refine (attr_Get.calls k _ _ t370 (⟨#[98]⟩ : ByteArray) t374 t375 _ ?side1 ?side2 A2.out).mono ?_); (case side1 => repeat (first | exact (Kd.R_reads' HO372.out).2.2 | (with_reducible refine Kd.C_alloc ?_ _) | (with_reducible refine Kd.C_drewN ?_ _) | (with_reducible refine Kd.C_drew ?_))); (case side2 => exact (Kd.R_reads' HO372.out).2.1); rintro e w18 ⟨rfl, hb⟩; refine ⟨_, rfl, ?_⟩; have n0_ := Aside0.mk (Kd.R_below (by (with_reducible repeat (first | apply Kd.R_alloc | apply Kd.R_drewN | apply Kd.R_drew)); exact HO369.out) hb); have n1_ := Aside0.mk (Kd.R_below (by (with_reducible repeat (first | apply Kd.R_alloc | apply Kd.R_drewN | apply Kd.R_drew)); exact HO372.out) hb); have n2_ := Aside0.mk (below_step (by repeat (first | (with_reducible first | exact HB.out | apply below_alloc | apply pw_below_drewN | apply below_drew1) | exact HB.out)) hb); clear HO369; clear HO372; clear HB; have HO369 := n0_; have HO372 := n1_; have HB := n2_; clear n0_ n1_ n2_; (try clear hb); (try clear hb2); (try clear hk); (try clear hi)) | ((with_reducible refine gate_callee (f := 21) rfl ?_); refine goesL_ (some 21) rfl rfl Try.func21 (by kernel_rfl) rfl #[.slice Ao17 t370.length co17] rfl (by (try simp only [List.map_toArray, List.map_cons, List.map_nil]); first | done | rfl | (simp only [List.length_drop, List.length_take]; rfl)) ?_; (with_reducible refine (attr_Encode.calls k _ _ t370 t376 t377 _ ?side1 ?side2 A3.out).mono ?_); (case side1 => repeat (first | exact (Kd.R_reads' HO372.out).2.2 | (with_reducible refine Kd.C_alloc ?_ _) | (with_reducible refine Kd.C_drewN ?_ _) | (with_reducible refine Kd.C_drew ?_))); (case side2 => exact (Kd.R_reads' HO372.out).2.1); rintro e w19 ⟨v378, rfl, ho0, hb⟩; refine ⟨_, rfl, ?_⟩; have n0_ := Aside0.mk (Kd.R_below (by (with_reducible repeat (first | apply Kd.R_alloc | apply Kd.R_drewN | apply Kd.R_drew)); exact HO369.out) hb); have n1_ := Aside0.mk (Kd.R_below (by (with_reducible repeat (first | apply Kd.R_alloc | apply Kd.R_drewN | apply Kd.R_drew)); exact HO372.out) hb); have n2_ := Aside0.mk (Kd.R_lower ho0 (below_size (by repeat (first | (with_reducible first | exact HB.out | apply below_alloc | apply pw_below_drewN | apply below_drew1) | exact HB.out)))); have n3_ := Aside0.mk (below_step (by repeat (first | (with_reducible first | exact HB.out | apply below_alloc | apply pw_below_drewN | apply below_drew1) | exact HB.out)) hb); clear HO369; clear HO372; clear HB; have HO369 := n0_; have HO372 := n1_; have HO379 := n2_; have HB := n3_; clear n0_ n1_ n2_ n3_; (try clear hb); (try clear hb2); (try clear hk); (try clear hi); (try clear ho0); have p380 : 0 ≤ (0 : Int) := (by omega); have q380 : 0 < (t370.length : Int) := of_decide_eq_true (by first | (with_reducible assumption) | assumption); obtain ⟨ad380, e380, hx380_0, hx380_1⟩ := at_T26 (Kd.R_reads' HO372.out).2.2 0 p380 q380; cases e380; have qi380 : (0 < t370.length) = True := eq_true (by omega); (try rw [show ((0 : Int)).toNat = 0 from rfl] at hx380_0); (try rw [show 0 * 2 = 0 from rfl] at hx380_0); (try rw [Addr.add_zero'] at hx380_0); (try rw [show ((0 : Int)).toNat = 0 from rfl] at hx380_1); (try rw [show 0 * 2 = 0 from rfl] at hx380_1); (try rw [Addr.add_zero'] at hx380_1); replace p380 := eq_true p380; replace q380 := eq_true q380; obtain ⟨Ao20, co20, eo20⟩ := Kd.R_slice HO379.out; subst eo20; have p381 : 0 ≤ (0 : Int) := (by omega); have q381 : 0 < (t376.length : Int) := of_decide_eq_true (by first | (with_reducible assumption) | assumption); obtain ⟨ad381, e381, hx381_0⟩ := Kd.at_int (Kd.R_reads' HO379.out).2.2 0 p381 q381; cases e381; have qi381 : (0 < t376.length) = True := eq_true (by omega); (try rw [show ((0 : Int)).toNat = 0 from rfl] at hx381_0); (try rw [Addr.add_zero'] at hx381_0); replace p381 := eq_true p381; replace q381 := eq_true q381))
                    go_ret
                    exact ⟨by first | rfl | (simp [errW_none, errW_some] <;> rfl) | (simp [*, errW_none, errW_some] <;> rfl), by repeat (first | (with_reducible first | exact HB.out | apply below_alloc | apply pw_below_drewN | apply below_drew1) | exact HB.out)⟩
                  · rw [if_neg c12] at H
                    exact absurd H (by simp)
                · rw [if_neg c11] at H
                  have c11b0 : ((t376.length : Int) == 256) = false := beq_eq_false_iff_ne.mpr c11
                  have c11b1 : ((t376.length : Int) != 256) = true := bne_iff_ne.mpr c11
                  obtain rfl := Option.some.inj H
                  go_enter Try.func13, Try.ntmps13
                  go_wp2_with (first | ((with_reducible refine gate_dst (N := 9) rfl ?_); (try (refine gate_guard (by rfl) ?_; dsimp only)); refine Kd.R_lit k26 _ 26 ?hg (N := 9) ?hd (xs := ([(⟨(⟨#[98]⟩ : ByteArray), (⟨#[49]⟩ : ByteArray)⟩ : S26)] : List (S26))) (inner := [.string (⟨#[98]⟩ : ByteArray), .string (⟨#[49]⟩ : ByteArray)]) (ok := fun _ => True) (okp := fun _ => True) ?hr ?hp (fun _ hk => hk) trivial (Below.refl _ _) (Nat.le_refl _) (by simp) ?_; (case hd => rfl); (case hg => rfl); (case hr => first | (go_simp; done) | (go_simp; rfl)); (case hp => exact (Reps.c2 (show Kd.M k26 _ _ _ (⟨(⟨#[98]⟩ : ByteArray), (⟨#[49]⟩ : ByteArray)⟩ : S26) [.string (⟨#[98]⟩ : ByteArray), .string (⟨#[49]⟩ : ByteArray)] from (k26_mkM _ _ _ (⟨(⟨#[98]⟩ : ByteArray), (⟨#[49]⟩ : ByteArray)⟩ : S26) )) (Reps.none _ _))); intro v368 w21 ho22 hb hg_ hnew_; clear hg_ hnew_; (first | rw [← Ny367.out] at ho22 | (simp only [Int.reduceToNat] at ho22; rw [← Ny367.out] at ho22)); have n0_ := Aside0.mk (Kd.R_lower ho22 (below_size (by repeat (first | (with_reducible first | exact HB.out | apply below_alloc | apply pw_below_drewN | apply below_drew1) | exact HB.out)))); have n1_ := Aside0.mk (below_step (by repeat (first | (with_reducible first | exact HB.out | apply below_alloc | apply pw_below_drewN | apply below_drew1) | exact HB.out)) hb); clear HB; have HO369 := n0_; have HB := n1_; clear n0_ n1_; clear hb ho22; obtain ⟨Ao23, co23, eo23⟩ := Kd.R_slice HO369.out; subst eo23) | ((with_reducible refine gate_callee (f := 14) rfl ?_); refine goesL_ (some 11) rfl rfl Try.func14 (by kernel_rfl) rfl #[.slice Ao23 y367.length co23, .agg #[.string (⟨#[97]⟩ : ByteArray), .string (⟨#[50]⟩ : ByteArray)]] rfl (by (try simp only [List.map_toArray, List.map_cons, List.map_nil]); first | done | rfl | (simp only [List.length_drop, List.length_take]; rfl)) ?_; (with_reducible refine (attr_Set.calls k _ _ y367 (⟨#[97]⟩ : ByteArray) (⟨#[50]⟩ : ByteArray) t370 t373 _ ?side1 ?side2 A1.out).mono ?_); (case side1 => repeat (first | exact (Kd.R_reads' HO369.out).2.2 | (with_reducible refine Kd.C_alloc ?_ _) | (with_reducible refine Kd.C_drewN ?_ _) | (with_reducible refine Kd.C_drew ?_))); (case side2 => exact (Kd.R_reads' HO369.out).2.1); rintro e w24 ⟨v371, rfl, ho0, hb⟩; refine ⟨_, rfl, ?_⟩; have n0_ := Aside0.mk (Kd.R_elder' (by (with_reducible repeat (first | apply Kd.R_alloc | apply Kd.R_drewN | apply Kd.R_drew)); exact HO369.out) (Kd.R_base ho0) hb); have n1_ := Aside0.mk (Kd.R_lower (Kd.R_new' ho0 (Kd.R_lt (by (with_reducible repeat (first | apply Kd.R_alloc | apply Kd.R_drewN | apply Kd.R_drew)); exact HO369.out))) (below_size (by repeat (first | (with_reducible first | exact HB.out | apply below_alloc | apply pw_below_drewN | apply below_drew1) | exact HB.out)))); have n2_ := Aside0.mk (below_step (by repeat (first | (with_reducible first | exact HB.out | apply below_alloc | apply pw_below_drewN | apply below_drew1) | exact HB.out)) hb); clear HO369; clear HB; have HO369 := n0_; have HO372 := n1_; have HB := n2_; clear n0_ n1_ n2_; (try clear hb); (try clear hb2); (try clear hk); (try clear hi); (try clear ho0); obtain ⟨Ao25, co25, eo25⟩ := Kd.R_slice HO372.out; subst eo25) | ((with_reducible refine gate_callee (f := 19) rfl ?_); refine goesL_ (some 16) rfl rfl Try.func19 (by kernel_rfl) rfl #[.slice Ao25 t370.length co25, .string (⟨#[98]⟩ : ByteArray)] rfl (by (try simp only [List.map_toArray, List.map_cons, List.map_nil]); first | done | rfl | (simp only [List.length_drop, List.length_take]; rfl)) ?_; (with_reducible refine (attr_Get.calls k _ _ t370 (⟨#[98]⟩ : ByteArray) t374 t375 _ ?side1 ?side2 A2.out).mono ?_); (case side1 => repeat (first | exact (Kd.R_reads' HO372.out).2.2 | (with_reducible refine Kd.C_alloc ?_ _) | (with_reducible refine Kd.C_drewN ?_ _) | (with_reducible refine Kd.C_drew ?_))); (case side2 => exact (Kd.R_reads' HO372.out).2.1); rintro e w26 ⟨rfl, hb⟩; refine ⟨_, rfl, ?_⟩; have n0_ := Aside0.mk (Kd.R_below (by (with_reducible repeat (first | apply Kd.R_alloc | apply Kd.R_drewN | apply Kd.R_drew)); exact HO369.out) hb); have n1_ := Aside0.mk (Kd.R_below (by (with_reducible repeat (first | apply Kd.R_alloc | apply Kd.R_drewN | apply Kd.R_drew)); exact HO372.out) hb); have n2_ := Aside0.mk (below_step (by repeat (first | (with_reducible first | exact HB.out | apply below_alloc | apply pw_below_drewN | apply below_drew1) | exact HB.out)) hb); clear HO369; clear HO372; clear HB; have HO369 := n0_; have HO372 := n1_; have HB := n2_; clear n0_ n1_ n2_; (try clear hb); (try clear hb2); (try clear hk); (try clear hi)) | ((with_reducible refine gate_callee (f := 21) rfl ?_); refine goesL_ (some 21) rfl rfl Try.func21 (by kernel_rfl) rfl #[.slice Ao25 t370.length co25] rfl (by (try simp only [List.map_toArray, List.map_cons, List.map_nil]); first | done | rfl | (simp only [List.length_drop, List.length_take]; rfl)) ?_; (with_reducible refine (attr_Encode.calls k _ _ t370 t376 t377 _ ?side1 ?side2 A3.out).mono ?_); (case side1 => repeat (first | exact (Kd.R_reads' HO372.out).2.2 | (with_reducible refine Kd.C_alloc ?_ _) | (with_reducible refine Kd.C_drewN ?_ _) | (with_reducible refine Kd.C_drew ?_))); (case side2 => exact (Kd.R_reads' HO372.out).2.1); rintro e w27 ⟨v378, rfl, ho0, hb⟩; refine ⟨_, rfl, ?_⟩; have n0_ := Aside0.mk (Kd.R_below (by (with_reducible repeat (first | apply Kd.R_alloc | apply Kd.R_drewN | apply Kd.R_drew)); exact HO369.out) hb); have n1_ := Aside0.mk (Kd.R_below (by (with_reducible repeat (first | apply Kd.R_alloc | apply Kd.R_drewN | apply Kd.R_drew)); exact HO372.out) hb); have n2_ := Aside0.mk (Kd.R_lower ho0 (below_size (by repeat (first | (with_reducible first | exact HB.out | apply below_alloc | apply pw_below_drewN | apply below_drew1) | exact HB.out)))); have n3_ := Aside0.mk (below_step (by repeat (first | (with_reducible first | exact HB.out | apply below_alloc | apply pw_below_drewN | apply below_drew1) | exact HB.out)) hb); clear HO369; clear HO372; clear HB; have HO369 := n0_; have HO372 := n1_; have HO379 := n2_; have HB := n3_; clear n0_ n1_ n2_ n3_; (try clear hb); (try clear hb2); (try clear hk); (try clear hi); (try clear ho0); have p380 : 0 ≤ (0 : Int) := (by omega); have q380 : 0 < (t370.length : Int) := of_decide_eq_true (by first | (with_reducible assumption) | assumption); obtain ⟨ad380, e380, hx380_0, hx380_1⟩ := at_T26 (Kd.R_reads' HO372.out).2.2 0 p380 q380; cases e380; have qi380 : (0 < t370.length) = True := eq_true (by omega); (try rw [show ((0 : Int)).toNat = 0 from rfl] at hx380_0); (try rw [show 0 * 2 = 0 from rfl] at hx380_0); (try rw [Addr.add_zero'] at hx380_0); (try rw [show ((0 : Int)).toNat = 0 from rfl] at hx380_1); (try rw [show 0 * 2 = 0 from rfl] at hx380_1); (try rw [Addr.add_zero'] at hx380_1); replace p380 := eq_true p380; replace q380 := eq_true q380; obtain ⟨Ao28, co28, eo28⟩ := Kd.R_slice HO379.out; subst eo28))
                  go_ret
                  exact ⟨by first | rfl | (simp [errW_none, errW_some] <;> rfl) | (simp [*, errW_none, errW_some] <;> rfl), by repeat (first | (with_reducible first | exact HB.out | apply below_alloc | apply pw_below_drewN | apply below_drew1) | exact HB.out)⟩
              · rw [if_neg c10] at H
                have c10b0 : (t377 == 0) = false := beq_eq_false_iff_ne.mpr c10
                have c10b1 : (t377 != 0) = true := bne_iff_ne.mpr c10
                obtain rfl := Option.some.inj H
                go_enter Try.func13, Try.ntmps13
                go_wp2_with (first | ((with_reducible refine gate_dst (N := 9) rfl ?_); (try (refine gate_guard (by rfl) ?_; dsimp only)); refine Kd.R_lit k26 _ 26 ?hg (N := 9) ?hd (xs := ([(⟨(⟨#[98]⟩ : ByteArray), (⟨#[49]⟩ : ByteArray)⟩ : S26)] : List (S26))) (inner := [.string (⟨#[98]⟩ : ByteArray), .string (⟨#[49]⟩ : ByteArray)]) (ok := fun _ => True) (okp := fun _ => True) ?hr ?hp (fun _ hk => hk) trivial (Below.refl _ _) (Nat.le_refl _) (by simp) ?_; (case hd => rfl); (case hg => rfl); (case hr => first | (go_simp; done) | (go_simp; rfl)); (case hp => exact (Reps.c2 (show Kd.M k26 _ _ _ (⟨(⟨#[98]⟩ : ByteArray), (⟨#[49]⟩ : ByteArray)⟩ : S26) [.string (⟨#[98]⟩ : ByteArray), .string (⟨#[49]⟩ : ByteArray)] from (k26_mkM _ _ _ (⟨(⟨#[98]⟩ : ByteArray), (⟨#[49]⟩ : ByteArray)⟩ : S26) )) (Reps.none _ _))); intro v368 w29 ho30 hb hg_ hnew_; clear hg_ hnew_; (first | rw [← Ny367.out] at ho30 | (simp only [Int.reduceToNat] at ho30; rw [← Ny367.out] at ho30)); have n0_ := Aside0.mk (Kd.R_lower ho30 (below_size (by repeat (first | (with_reducible first | exact HB.out | apply below_alloc | apply pw_below_drewN | apply below_drew1) | exact HB.out)))); have n1_ := Aside0.mk (below_step (by repeat (first | (with_reducible first | exact HB.out | apply below_alloc | apply pw_below_drewN | apply below_drew1) | exact HB.out)) hb); clear HB; have HO369 := n0_; have HB := n1_; clear n0_ n1_; clear hb ho30; obtain ⟨Ao31, co31, eo31⟩ := Kd.R_slice HO369.out; subst eo31) | ((with_reducible refine gate_callee (f := 14) rfl ?_); refine goesL_ (some 11) rfl rfl Try.func14 (by kernel_rfl) rfl #[.slice Ao31 y367.length co31, .agg #[.string (⟨#[97]⟩ : ByteArray), .string (⟨#[50]⟩ : ByteArray)]] rfl (by (try simp only [List.map_toArray, List.map_cons, List.map_nil]); first | done | rfl | (simp only [List.length_drop, List.length_take]; rfl)) ?_; (with_reducible refine (attr_Set.calls k _ _ y367 (⟨#[97]⟩ : ByteArray) (⟨#[50]⟩ : ByteArray) t370 t373 _ ?side1 ?side2 A1.out).mono ?_); (case side1 => repeat (first | exact (Kd.R_reads' HO369.out).2.2 | (with_reducible refine Kd.C_alloc ?_ _) | (with_reducible refine Kd.C_drewN ?_ _) | (with_reducible refine Kd.C_drew ?_))); (case side2 => exact (Kd.R_reads' HO369.out).2.1); rintro e w32 ⟨v371, rfl, ho0, hb⟩; refine ⟨_, rfl, ?_⟩; have n0_ := Aside0.mk (Kd.R_elder' (by (with_reducible repeat (first | apply Kd.R_alloc | apply Kd.R_drewN | apply Kd.R_drew)); exact HO369.out) (Kd.R_base ho0) hb); have n1_ := Aside0.mk (Kd.R_lower (Kd.R_new' ho0 (Kd.R_lt (by (with_reducible repeat (first | apply Kd.R_alloc | apply Kd.R_drewN | apply Kd.R_drew)); exact HO369.out))) (below_size (by repeat (first | (with_reducible first | exact HB.out | apply below_alloc | apply pw_below_drewN | apply below_drew1) | exact HB.out)))); have n2_ := Aside0.mk (below_step (by repeat (first | (with_reducible first | exact HB.out | apply below_alloc | apply pw_below_drewN | apply below_drew1) | exact HB.out)) hb); clear HO369; clear HB; have HO369 := n0_; have HO372 := n1_; have HB := n2_; clear n0_ n1_ n2_; (try clear hb); (try clear hb2); (try clear hk); (try clear hi); (try clear ho0); obtain ⟨Ao33, co33, eo33⟩ := Kd.R_slice HO372.out; subst eo33) | ((with_reducible refine gate_callee (f := 19) rfl ?_); refine goesL_ (some 16) rfl rfl Try.func19 (by kernel_rfl) rfl #[.slice Ao33 t370.length co33, .string (⟨#[98]⟩ : ByteArray)] rfl (by (try simp only [List.map_toArray, List.map_cons, List.map_nil]); first | done | rfl | (simp only [List.length_drop, List.length_take]; rfl)) ?_; (with_reducible refine (attr_Get.calls k _ _ t370 (⟨#[98]⟩ : ByteArray) t374 t375 _ ?side1 ?side2 A2.out).mono ?_); (case side1 => repeat (first | exact (Kd.R_reads' HO372.out).2.2 | (with_reducible refine Kd.C_alloc ?_ _) | (with_reducible refine Kd.C_drewN ?_ _) | (with_reducible refine Kd.C_drew ?_))); (case side2 => exact (Kd.R_reads' HO372.out).2.1); rintro e w34 ⟨rfl, hb⟩; refine ⟨_, rfl, ?_⟩; have n0_ := Aside0.mk (Kd.R_below (by (with_reducible repeat (first | apply Kd.R_alloc | apply Kd.R_drewN | apply Kd.R_drew)); exact HO369.out) hb); have n1_ := Aside0.mk (Kd.R_below (by (with_reducible repeat (first | apply Kd.R_alloc | apply Kd.R_drewN | apply Kd.R_drew)); exact HO372.out) hb); have n2_ := Aside0.mk (below_step (by repeat (first | (with_reducible first | exact HB.out | apply below_alloc | apply pw_below_drewN | apply below_drew1) | exact HB.out)) hb); clear HO369; clear HO372; clear HB; have HO369 := n0_; have HO372 := n1_; have HB := n2_; clear n0_ n1_ n2_; (try clear hb); (try clear hb2); (try clear hk); (try clear hi)) | ((with_reducible refine gate_callee (f := 21) rfl ?_); refine goesL_ (some 21) rfl rfl Try.func21 (by kernel_rfl) rfl #[.slice Ao33 t370.length co33] rfl (by (try simp only [List.map_toArray, List.map_cons, List.map_nil]); first | done | rfl | (simp only [List.length_drop, List.length_take]; rfl)) ?_; (with_reducible refine (attr_Encode.calls k _ _ t370 t376 t377 _ ?side1 ?side2 A3.out).mono ?_); (case side1 => repeat (first | exact (Kd.R_reads' HO372.out).2.2 | (with_reducible refine Kd.C_alloc ?_ _) | (with_reducible refine Kd.C_drewN ?_ _) | (with_reducible refine Kd.C_drew ?_))); (case side2 => exact (Kd.R_reads' HO372.out).2.1); rintro e w35 ⟨v378, rfl, ho0, hb⟩; refine ⟨_, rfl, ?_⟩; have n0_ := Aside0.mk (Kd.R_below (by (with_reducible repeat (first | apply Kd.R_alloc | apply Kd.R_drewN | apply Kd.R_drew)); exact HO369.out) hb); have n1_ := Aside0.mk (Kd.R_below (by (with_reducible repeat (first | apply Kd.R_alloc | apply Kd.R_drewN | apply Kd.R_drew)); exact HO372.out) hb); have n2_ := Aside0.mk (Kd.R_lower ho0 (below_size (by repeat (first | (with_reducible first | exact HB.out | apply below_alloc | apply pw_below_drewN | apply below_drew1) | exact HB.out)))); have n3_ := Aside0.mk (below_step (by repeat (first | (with_reducible first | exact HB.out | apply below_alloc | apply pw_below_drewN | apply below_drew1) | exact HB.out)) hb); clear HO369; clear HO372; clear HB; have HO369 := n0_; have HO372 := n1_; have HO379 := n2_; have HB := n3_; clear n0_ n1_ n2_ n3_; (try clear hb); (try clear hb2); (try clear hk); (try clear hi); (try clear ho0); have p380 : 0 ≤ (0 : Int) := (by omega); have q380 : 0 < (t370.length : Int) := of_decide_eq_true (by first | (with_reducible assumption) | assumption); obtain ⟨ad380, e380, hx380_0, hx380_1⟩ := at_T26 (Kd.R_reads' HO372.out).2.2 0 p380 q380; cases e380; have qi380 : (0 < t370.length) = True := eq_true (by omega); (try rw [show ((0 : Int)).toNat = 0 from rfl] at hx380_0); (try rw [show 0 * 2 = 0 from rfl] at hx380_0); (try rw [Addr.add_zero'] at hx380_0); (try rw [show ((0 : Int)).toNat = 0 from rfl] at hx380_1); (try rw [show 0 * 2 = 0 from rfl] at hx380_1); (try rw [Addr.add_zero'] at hx380_1); replace p380 := eq_true p380; replace q380 := eq_true q380))
                go_ret
                exact ⟨by first | rfl | (simp [errW_none, errW_some] <;> rfl) | (simp [*, errW_none, errW_some] <;> rfl), by repeat (first | (with_reducible first | exact HB.out | apply below_alloc | apply pw_below_drewN | apply below_drew1) | exact HB.out)⟩
            · rw [if_neg c9] at H
              have c9b0 : (t374.toList == ([49] : List UInt8)) = false := beq_eq_false_iff_ne.mpr c9
              have c9b1 : (t374.toList != ([49] : List UInt8)) = true := bne_iff_ne.mpr c9
              obtain rfl := Option.some.inj H
              go_enter Try.func13, Try.ntmps13
              go_wp2_with (first | ((with_reducible refine gate_dst (N := 9) rfl ?_); (try (refine gate_guard (by rfl) ?_; dsimp only)); refine Kd.R_lit k26 _ 26 ?hg (N := 9) ?hd (xs := ([(⟨(⟨#[98]⟩ : ByteArray), (⟨#[49]⟩ : ByteArray)⟩ : S26)] : List (S26))) (inner := [.string (⟨#[98]⟩ : ByteArray), .string (⟨#[49]⟩ : ByteArray)]) (ok := fun _ => True) (okp := fun _ => True) ?hr ?hp (fun _ hk => hk) trivial (Below.refl _ _) (Nat.le_refl _) (by simp) ?_; (case hd => rfl); (case hg => rfl); (case hr => first | (go_simp; done) | (go_simp; rfl)); (case hp => exact (Reps.c2 (show Kd.M k26 _ _ _ (⟨(⟨#[98]⟩ : ByteArray), (⟨#[49]⟩ : ByteArray)⟩ : S26) [.string (⟨#[98]⟩ : ByteArray), .string (⟨#[49]⟩ : ByteArray)] from (k26_mkM _ _ _ (⟨(⟨#[98]⟩ : ByteArray), (⟨#[49]⟩ : ByteArray)⟩ : S26) )) (Reps.none _ _))); intro v368 w36 ho37 hb hg_ hnew_; clear hg_ hnew_; (first | rw [← Ny367.out] at ho37 | (simp only [Int.reduceToNat] at ho37; rw [← Ny367.out] at ho37)); have n0_ := Aside0.mk (Kd.R_lower ho37 (below_size (by repeat (first | (with_reducible first | exact HB.out | apply below_alloc | apply pw_below_drewN | apply below_drew1) | exact HB.out)))); have n1_ := Aside0.mk (below_step (by repeat (first | (with_reducible first | exact HB.out | apply below_alloc | apply pw_below_drewN | apply below_drew1) | exact HB.out)) hb); clear HB; have HO369 := n0_; have HB := n1_; clear n0_ n1_; clear hb ho37; obtain ⟨Ao38, co38, eo38⟩ := Kd.R_slice HO369.out; subst eo38) | ((with_reducible refine gate_callee (f := 14) rfl ?_); refine goesL_ (some 11) rfl rfl Try.func14 (by kernel_rfl) rfl #[.slice Ao38 y367.length co38, .agg #[.string (⟨#[97]⟩ : ByteArray), .string (⟨#[50]⟩ : ByteArray)]] rfl (by (try simp only [List.map_toArray, List.map_cons, List.map_nil]); first | done | rfl | (simp only [List.length_drop, List.length_take]; rfl)) ?_; (with_reducible refine (attr_Set.calls k _ _ y367 (⟨#[97]⟩ : ByteArray) (⟨#[50]⟩ : ByteArray) t370 t373 _ ?side1 ?side2 A1.out).mono ?_); (case side1 => repeat (first | exact (Kd.R_reads' HO369.out).2.2 | (with_reducible refine Kd.C_alloc ?_ _) | (with_reducible refine Kd.C_drewN ?_ _) | (with_reducible refine Kd.C_drew ?_))); (case side2 => exact (Kd.R_reads' HO369.out).2.1); rintro e w39 ⟨v371, rfl, ho0, hb⟩; refine ⟨_, rfl, ?_⟩; have n0_ := Aside0.mk (Kd.R_elder' (by (with_reducible repeat (first | apply Kd.R_alloc | apply Kd.R_drewN | apply Kd.R_drew)); exact HO369.out) (Kd.R_base ho0) hb); have n1_ := Aside0.mk (Kd.R_lower (Kd.R_new' ho0 (Kd.R_lt (by (with_reducible repeat (first | apply Kd.R_alloc | apply Kd.R_drewN | apply Kd.R_drew)); exact HO369.out))) (below_size (by repeat (first | (with_reducible first | exact HB.out | apply below_alloc | apply pw_below_drewN | apply below_drew1) | exact HB.out)))); have n2_ := Aside0.mk (below_step (by repeat (first | (with_reducible first | exact HB.out | apply below_alloc | apply pw_below_drewN | apply below_drew1) | exact HB.out)) hb); clear HO369; clear HB; have HO369 := n0_; have HO372 := n1_; have HB := n2_; clear n0_ n1_ n2_; (try clear hb); (try clear hb2); (try clear hk); (try clear hi); (try clear ho0); obtain ⟨Ao40, co40, eo40⟩ := Kd.R_slice HO372.out; subst eo40) | ((with_reducible refine gate_callee (f := 19) rfl ?_); refine goesL_ (some 16) rfl rfl Try.func19 (by kernel_rfl) rfl #[.slice Ao40 t370.length co40, .string (⟨#[98]⟩ : ByteArray)] rfl (by (try simp only [List.map_toArray, List.map_cons, List.map_nil]); first | done | rfl | (simp only [List.length_drop, List.length_take]; rfl)) ?_; (with_reducible refine (attr_Get.calls k _ _ t370 (⟨#[98]⟩ : ByteArray) t374 t375 _ ?side1 ?side2 A2.out).mono ?_); (case side1 => repeat (first | exact (Kd.R_reads' HO372.out).2.2 | (with_reducible refine Kd.C_alloc ?_ _) | (with_reducible refine Kd.C_drewN ?_ _) | (with_reducible refine Kd.C_drew ?_))); (case side2 => exact (Kd.R_reads' HO372.out).2.1); rintro e w41 ⟨rfl, hb⟩; refine ⟨_, rfl, ?_⟩; have n0_ := Aside0.mk (Kd.R_below (by (with_reducible repeat (first | apply Kd.R_alloc | apply Kd.R_drewN | apply Kd.R_drew)); exact HO369.out) hb); have n1_ := Aside0.mk (Kd.R_below (by (with_reducible repeat (first | apply Kd.R_alloc | apply Kd.R_drewN | apply Kd.R_drew)); exact HO372.out) hb); have n2_ := Aside0.mk (below_step (by repeat (first | (with_reducible first | exact HB.out | apply below_alloc | apply pw_below_drewN | apply below_drew1) | exact HB.out)) hb); clear HO369; clear HO372; clear HB; have HO369 := n0_; have HO372 := n1_; have HB := n2_; clear n0_ n1_ n2_; (try clear hb); (try clear hb2); (try clear hk); (try clear hi)) | ((with_reducible refine gate_callee (f := 21) rfl ?_); refine goesL_ (some 21) rfl rfl Try.func21 (by kernel_rfl) rfl #[.slice Ao40 t370.length co40] rfl (by (try simp only [List.map_toArray, List.map_cons, List.map_nil]); first | done | rfl | (simp only [List.length_drop, List.length_take]; rfl)) ?_; (with_reducible refine (attr_Encode.calls k _ _ t370 t376 t377 _ ?side1 ?side2 A3.out).mono ?_); (case side1 => repeat (first | exact (Kd.R_reads' HO372.out).2.2 | (with_reducible refine Kd.C_alloc ?_ _) | (with_reducible refine Kd.C_drewN ?_ _) | (with_reducible refine Kd.C_drew ?_))); (case side2 => exact (Kd.R_reads' HO372.out).2.1); rintro e w42 ⟨v378, rfl, ho0, hb⟩; refine ⟨_, rfl, ?_⟩; have n0_ := Aside0.mk (Kd.R_below (by (with_reducible repeat (first | apply Kd.R_alloc | apply Kd.R_drewN | apply Kd.R_drew)); exact HO369.out) hb); have n1_ := Aside0.mk (Kd.R_below (by (with_reducible repeat (first | apply Kd.R_alloc | apply Kd.R_drewN | apply Kd.R_drew)); exact HO372.out) hb); have n2_ := Aside0.mk (Kd.R_lower ho0 (below_size (by repeat (first | (with_reducible first | exact HB.out | apply below_alloc | apply pw_below_drewN | apply below_drew1) | exact HB.out)))); have n3_ := Aside0.mk (below_step (by repeat (first | (with_reducible first | exact HB.out | apply below_alloc | apply pw_below_drewN | apply below_drew1) | exact HB.out)) hb); clear HO369; clear HO372; clear HB; have HO369 := n0_; have HO372 := n1_; have HO379 := n2_; have HB := n3_; clear n0_ n1_ n2_ n3_; (try clear hb); (try clear hb2); (try clear hk); (try clear hi); (try clear ho0); have p380 : 0 ≤ (0 : Int) := (by omega); have q380 : 0 < (t370.length : Int) := of_decide_eq_true (by first | (with_reducible assumption) | assumption); obtain ⟨ad380, e380, hx380_0, hx380_1⟩ := at_T26 (Kd.R_reads' HO372.out).2.2 0 p380 q380; cases e380; have qi380 : (0 < t370.length) = True := eq_true (by omega); (try rw [show ((0 : Int)).toNat = 0 from rfl] at hx380_0); (try rw [show 0 * 2 = 0 from rfl] at hx380_0); (try rw [Addr.add_zero'] at hx380_0); (try rw [show ((0 : Int)).toNat = 0 from rfl] at hx380_1); (try rw [show 0 * 2 = 0 from rfl] at hx380_1); (try rw [Addr.add_zero'] at hx380_1); replace p380 := eq_true p380; replace q380 := eq_true q380))
              go_ret
              exact ⟨by first | rfl | (simp [errW_none, errW_some] <;> rfl) | (simp [*, errW_none, errW_some] <;> rfl), by repeat (first | (with_reducible first | exact HB.out | apply below_alloc | apply pw_below_drewN | apply below_drew1) | exact HB.out)⟩
          · rw [if_neg c8] at H
            have c8b0 : (t375 == 0) = false := beq_eq_false_iff_ne.mpr c8
            have c8b1 : (t375 != 0) = true := bne_iff_ne.mpr c8
            obtain rfl := Option.some.inj H
            go_enter Try.func13, Try.ntmps13
            go_wp2_with (first | ((with_reducible refine gate_dst (N := 9) rfl ?_); (try (refine gate_guard (by rfl) ?_; dsimp only)); refine Kd.R_lit k26 _ 26 ?hg (N := 9) ?hd (xs := ([(⟨(⟨#[98]⟩ : ByteArray), (⟨#[49]⟩ : ByteArray)⟩ : S26)] : List (S26))) (inner := [.string (⟨#[98]⟩ : ByteArray), .string (⟨#[49]⟩ : ByteArray)]) (ok := fun _ => True) (okp := fun _ => True) ?hr ?hp (fun _ hk => hk) trivial (Below.refl _ _) (Nat.le_refl _) (by simp) ?_; (case hd => rfl); (case hg => rfl); (case hr => first | (go_simp; done) | (go_simp; rfl)); (case hp => exact (Reps.c2 (show Kd.M k26 _ _ _ (⟨(⟨#[98]⟩ : ByteArray), (⟨#[49]⟩ : ByteArray)⟩ : S26) [.string (⟨#[98]⟩ : ByteArray), .string (⟨#[49]⟩ : ByteArray)] from (k26_mkM _ _ _ (⟨(⟨#[98]⟩ : ByteArray), (⟨#[49]⟩ : ByteArray)⟩ : S26) )) (Reps.none _ _))); intro v368 w43 ho44 hb hg_ hnew_; clear hg_ hnew_; (first | rw [← Ny367.out] at ho44 | (simp only [Int.reduceToNat] at ho44; rw [← Ny367.out] at ho44)); have n0_ := Aside0.mk (Kd.R_lower ho44 (below_size (by repeat (first | (with_reducible first | exact HB.out | apply below_alloc | apply pw_below_drewN | apply below_drew1) | exact HB.out)))); have n1_ := Aside0.mk (below_step (by repeat (first | (with_reducible first | exact HB.out | apply below_alloc | apply pw_below_drewN | apply below_drew1) | exact HB.out)) hb); clear HB; have HO369 := n0_; have HB := n1_; clear n0_ n1_; clear hb ho44; obtain ⟨Ao45, co45, eo45⟩ := Kd.R_slice HO369.out; subst eo45) | ((with_reducible refine gate_callee (f := 14) rfl ?_); refine goesL_ (some 11) rfl rfl Try.func14 (by kernel_rfl) rfl #[.slice Ao45 y367.length co45, .agg #[.string (⟨#[97]⟩ : ByteArray), .string (⟨#[50]⟩ : ByteArray)]] rfl (by (try simp only [List.map_toArray, List.map_cons, List.map_nil]); first | done | rfl | (simp only [List.length_drop, List.length_take]; rfl)) ?_; (with_reducible refine (attr_Set.calls k _ _ y367 (⟨#[97]⟩ : ByteArray) (⟨#[50]⟩ : ByteArray) t370 t373 _ ?side1 ?side2 A1.out).mono ?_); (case side1 => repeat (first | exact (Kd.R_reads' HO369.out).2.2 | (with_reducible refine Kd.C_alloc ?_ _) | (with_reducible refine Kd.C_drewN ?_ _) | (with_reducible refine Kd.C_drew ?_))); (case side2 => exact (Kd.R_reads' HO369.out).2.1); rintro e w46 ⟨v371, rfl, ho0, hb⟩; refine ⟨_, rfl, ?_⟩; have n0_ := Aside0.mk (Kd.R_elder' (by (with_reducible repeat (first | apply Kd.R_alloc | apply Kd.R_drewN | apply Kd.R_drew)); exact HO369.out) (Kd.R_base ho0) hb); have n1_ := Aside0.mk (Kd.R_lower (Kd.R_new' ho0 (Kd.R_lt (by (with_reducible repeat (first | apply Kd.R_alloc | apply Kd.R_drewN | apply Kd.R_drew)); exact HO369.out))) (below_size (by repeat (first | (with_reducible first | exact HB.out | apply below_alloc | apply pw_below_drewN | apply below_drew1) | exact HB.out)))); have n2_ := Aside0.mk (below_step (by repeat (first | (with_reducible first | exact HB.out | apply below_alloc | apply pw_below_drewN | apply below_drew1) | exact HB.out)) hb); clear HO369; clear HB; have HO369 := n0_; have HO372 := n1_; have HB := n2_; clear n0_ n1_ n2_; (try clear hb); (try clear hb2); (try clear hk); (try clear hi); (try clear ho0); obtain ⟨Ao47, co47, eo47⟩ := Kd.R_slice HO372.out; subst eo47) | ((with_reducible refine gate_callee (f := 19) rfl ?_); refine goesL_ (some 16) rfl rfl Try.func19 (by kernel_rfl) rfl #[.slice Ao47 t370.length co47, .string (⟨#[98]⟩ : ByteArray)] rfl (by (try simp only [List.map_toArray, List.map_cons, List.map_nil]); first | done | rfl | (simp only [List.length_drop, List.length_take]; rfl)) ?_; (with_reducible refine (attr_Get.calls k _ _ t370 (⟨#[98]⟩ : ByteArray) t374 t375 _ ?side1 ?side2 A2.out).mono ?_); (case side1 => repeat (first | exact (Kd.R_reads' HO372.out).2.2 | (with_reducible refine Kd.C_alloc ?_ _) | (with_reducible refine Kd.C_drewN ?_ _) | (with_reducible refine Kd.C_drew ?_))); (case side2 => exact (Kd.R_reads' HO372.out).2.1); rintro e w48 ⟨rfl, hb⟩; refine ⟨_, rfl, ?_⟩; have n0_ := Aside0.mk (Kd.R_below (by (with_reducible repeat (first | apply Kd.R_alloc | apply Kd.R_drewN | apply Kd.R_drew)); exact HO369.out) hb); have n1_ := Aside0.mk (Kd.R_below (by (with_reducible repeat (first | apply Kd.R_alloc | apply Kd.R_drewN | apply Kd.R_drew)); exact HO372.out) hb); have n2_ := Aside0.mk (below_step (by repeat (first | (with_reducible first | exact HB.out | apply below_alloc | apply pw_below_drewN | apply below_drew1) | exact HB.out)) hb); clear HO369; clear HO372; clear HB; have HO369 := n0_; have HO372 := n1_; have HB := n2_; clear n0_ n1_ n2_; (try clear hb); (try clear hb2); (try clear hk); (try clear hi)) | ((with_reducible refine gate_callee (f := 21) rfl ?_); refine goesL_ (some 21) rfl rfl Try.func21 (by kernel_rfl) rfl #[.slice Ao47 t370.length co47] rfl (by (try simp only [List.map_toArray, List.map_cons, List.map_nil]); first | done | rfl | (simp only [List.length_drop, List.length_take]; rfl)) ?_; (with_reducible refine (attr_Encode.calls k _ _ t370 t376 t377 _ ?side1 ?side2 A3.out).mono ?_); (case side1 => repeat (first | exact (Kd.R_reads' HO372.out).2.2 | (with_reducible refine Kd.C_alloc ?_ _) | (with_reducible refine Kd.C_drewN ?_ _) | (with_reducible refine Kd.C_drew ?_))); (case side2 => exact (Kd.R_reads' HO372.out).2.1); rintro e w49 ⟨v378, rfl, ho0, hb⟩; refine ⟨_, rfl, ?_⟩; have n0_ := Aside0.mk (Kd.R_below (by (with_reducible repeat (first | apply Kd.R_alloc | apply Kd.R_drewN | apply Kd.R_drew)); exact HO369.out) hb); have n1_ := Aside0.mk (Kd.R_below (by (with_reducible repeat (first | apply Kd.R_alloc | apply Kd.R_drewN | apply Kd.R_drew)); exact HO372.out) hb); have n2_ := Aside0.mk (Kd.R_lower ho0 (below_size (by repeat (first | (with_reducible first | exact HB.out | apply below_alloc | apply pw_below_drewN | apply below_drew1) | exact HB.out)))); have n3_ := Aside0.mk (below_step (by repeat (first | (with_reducible first | exact HB.out | apply below_alloc | apply pw_below_drewN | apply below_drew1) | exact HB.out)) hb); clear HO369; clear HO372; clear HB; have HO369 := n0_; have HO372 := n1_; have HO379 := n2_; have HB := n3_; clear n0_ n1_ n2_ n3_; (try clear hb); (try clear hb2); (try clear hk); (try clear hi); (try clear ho0); have p380 : 0 ≤ (0 : Int) := (by omega); have q380 : 0 < (t370.length : Int) := of_decide_eq_true (by first | (with_reducible assumption) | assumption); obtain ⟨ad380, e380, hx380_0, hx380_1⟩ := at_T26 (Kd.R_reads' HO372.out).2.2 0 p380 q380; cases e380; have qi380 : (0 < t370.length) = True := eq_true (by omega); (try rw [show ((0 : Int)).toNat = 0 from rfl] at hx380_0); (try rw [show 0 * 2 = 0 from rfl] at hx380_0); (try rw [Addr.add_zero'] at hx380_0); (try rw [show ((0 : Int)).toNat = 0 from rfl] at hx380_1); (try rw [show 0 * 2 = 0 from rfl] at hx380_1); (try rw [Addr.add_zero'] at hx380_1); replace p380 := eq_true p380; replace q380 := eq_true q380))
            go_ret
            exact ⟨by first | rfl | (simp [errW_none, errW_some] <;> rfl) | (simp [*, errW_none, errW_some] <;> rfl), by repeat (first | (with_reducible first | exact HB.out | apply below_alloc | apply pw_below_drewN | apply below_drew1) | exact HB.out)⟩
        · rw [if_neg c7] at H
          have c7b0 : (((rd_T26 t370 0).f0).toList == ([97] : List UInt8)) = false := beq_eq_false_iff_ne.mpr c7
          have c7b1 : (((rd_T26 t370 0).f0).toList != ([97] : List UInt8)) = true := bne_iff_ne.mpr c7
          obtain rfl := Option.some.inj H
          go_enter Try.func13, Try.ntmps13
          go_wp2_with (first | ((with_reducible refine gate_dst (N := 9) rfl ?_); (try (refine gate_guard (by rfl) ?_; dsimp only)); refine Kd.R_lit k26 _ 26 ?hg (N := 9) ?hd (xs := ([(⟨(⟨#[98]⟩ : ByteArray), (⟨#[49]⟩ : ByteArray)⟩ : S26)] : List (S26))) (inner := [.string (⟨#[98]⟩ : ByteArray), .string (⟨#[49]⟩ : ByteArray)]) (ok := fun _ => True) (okp := fun _ => True) ?hr ?hp (fun _ hk => hk) trivial (Below.refl _ _) (Nat.le_refl _) (by simp) ?_; (case hd => rfl); (case hg => rfl); (case hr => first | (go_simp; done) | (go_simp; rfl)); (case hp => exact (Reps.c2 (show Kd.M k26 _ _ _ (⟨(⟨#[98]⟩ : ByteArray), (⟨#[49]⟩ : ByteArray)⟩ : S26) [.string (⟨#[98]⟩ : ByteArray), .string (⟨#[49]⟩ : ByteArray)] from (k26_mkM _ _ _ (⟨(⟨#[98]⟩ : ByteArray), (⟨#[49]⟩ : ByteArray)⟩ : S26) )) (Reps.none _ _))); intro v368 w50 ho51 hb hg_ hnew_; clear hg_ hnew_; (first | rw [← Ny367.out] at ho51 | (simp only [Int.reduceToNat] at ho51; rw [← Ny367.out] at ho51)); have n0_ := Aside0.mk (Kd.R_lower ho51 (below_size (by repeat (first | (with_reducible first | exact HB.out | apply below_alloc | apply pw_below_drewN | apply below_drew1) | exact HB.out)))); have n1_ := Aside0.mk (below_step (by repeat (first | (with_reducible first | exact HB.out | apply below_alloc | apply pw_below_drewN | apply below_drew1) | exact HB.out)) hb); clear HB; have HO369 := n0_; have HB := n1_; clear n0_ n1_; clear hb ho51; obtain ⟨Ao52, co52, eo52⟩ := Kd.R_slice HO369.out; subst eo52) | ((with_reducible refine gate_callee (f := 14) rfl ?_); refine goesL_ (some 11) rfl rfl Try.func14 (by kernel_rfl) rfl #[.slice Ao52 y367.length co52, .agg #[.string (⟨#[97]⟩ : ByteArray), .string (⟨#[50]⟩ : ByteArray)]] rfl (by (try simp only [List.map_toArray, List.map_cons, List.map_nil]); first | done | rfl | (simp only [List.length_drop, List.length_take]; rfl)) ?_; (with_reducible refine (attr_Set.calls k _ _ y367 (⟨#[97]⟩ : ByteArray) (⟨#[50]⟩ : ByteArray) t370 t373 _ ?side1 ?side2 A1.out).mono ?_); (case side1 => repeat (first | exact (Kd.R_reads' HO369.out).2.2 | (with_reducible refine Kd.C_alloc ?_ _) | (with_reducible refine Kd.C_drewN ?_ _) | (with_reducible refine Kd.C_drew ?_))); (case side2 => exact (Kd.R_reads' HO369.out).2.1); rintro e w53 ⟨v371, rfl, ho0, hb⟩; refine ⟨_, rfl, ?_⟩; have n0_ := Aside0.mk (Kd.R_elder' (by (with_reducible repeat (first | apply Kd.R_alloc | apply Kd.R_drewN | apply Kd.R_drew)); exact HO369.out) (Kd.R_base ho0) hb); have n1_ := Aside0.mk (Kd.R_lower (Kd.R_new' ho0 (Kd.R_lt (by (with_reducible repeat (first | apply Kd.R_alloc | apply Kd.R_drewN | apply Kd.R_drew)); exact HO369.out))) (below_size (by repeat (first | (with_reducible first | exact HB.out | apply below_alloc | apply pw_below_drewN | apply below_drew1) | exact HB.out)))); have n2_ := Aside0.mk (below_step (by repeat (first | (with_reducible first | exact HB.out | apply below_alloc | apply pw_below_drewN | apply below_drew1) | exact HB.out)) hb); clear HO369; clear HB; have HO369 := n0_; have HO372 := n1_; have HB := n2_; clear n0_ n1_ n2_; (try clear hb); (try clear hb2); (try clear hk); (try clear hi); (try clear ho0); obtain ⟨Ao54, co54, eo54⟩ := Kd.R_slice HO372.out; subst eo54) | ((with_reducible refine gate_callee (f := 19) rfl ?_); refine goesL_ (some 16) rfl rfl Try.func19 (by kernel_rfl) rfl #[.slice Ao54 t370.length co54, .string (⟨#[98]⟩ : ByteArray)] rfl (by (try simp only [List.map_toArray, List.map_cons, List.map_nil]); first | done | rfl | (simp only [List.length_drop, List.length_take]; rfl)) ?_; (with_reducible refine (attr_Get.calls k _ _ t370 (⟨#[98]⟩ : ByteArray) t374 t375 _ ?side1 ?side2 A2.out).mono ?_); (case side1 => repeat (first | exact (Kd.R_reads' HO372.out).2.2 | (with_reducible refine Kd.C_alloc ?_ _) | (with_reducible refine Kd.C_drewN ?_ _) | (with_reducible refine Kd.C_drew ?_))); (case side2 => exact (Kd.R_reads' HO372.out).2.1); rintro e w55 ⟨rfl, hb⟩; refine ⟨_, rfl, ?_⟩; have n0_ := Aside0.mk (Kd.R_below (by (with_reducible repeat (first | apply Kd.R_alloc | apply Kd.R_drewN | apply Kd.R_drew)); exact HO369.out) hb); have n1_ := Aside0.mk (Kd.R_below (by (with_reducible repeat (first | apply Kd.R_alloc | apply Kd.R_drewN | apply Kd.R_drew)); exact HO372.out) hb); have n2_ := Aside0.mk (below_step (by repeat (first | (with_reducible first | exact HB.out | apply below_alloc | apply pw_below_drewN | apply below_drew1) | exact HB.out)) hb); clear HO369; clear HO372; clear HB; have HO369 := n0_; have HO372 := n1_; have HB := n2_; clear n0_ n1_ n2_; (try clear hb); (try clear hb2); (try clear hk); (try clear hi)) | ((with_reducible refine gate_callee (f := 21) rfl ?_); refine goesL_ (some 21) rfl rfl Try.func21 (by kernel_rfl) rfl #[.slice Ao54 t370.length co54] rfl (by (try simp only [List.map_toArray, List.map_cons, List.map_nil]); first | done | rfl | (simp only [List.length_drop, List.length_take]; rfl)) ?_; (with_reducible refine (attr_Encode.calls k _ _ t370 t376 t377 _ ?side1 ?side2 A3.out).mono ?_); (case side1 => repeat (first | exact (Kd.R_reads' HO372.out).2.2 | (with_reducible refine Kd.C_alloc ?_ _) | (with_reducible refine Kd.C_drewN ?_ _) | (with_reducible refine Kd.C_drew ?_))); (case side2 => exact (Kd.R_reads' HO372.out).2.1); rintro e w56 ⟨v378, rfl, ho0, hb⟩; refine ⟨_, rfl, ?_⟩; have n0_ := Aside0.mk (Kd.R_below (by (with_reducible repeat (first | apply Kd.R_alloc | apply Kd.R_drewN | apply Kd.R_drew)); exact HO369.out) hb); have n1_ := Aside0.mk (Kd.R_below (by (with_reducible repeat (first | apply Kd.R_alloc | apply Kd.R_drewN | apply Kd.R_drew)); exact HO372.out) hb); have n2_ := Aside0.mk (Kd.R_lower ho0 (below_size (by repeat (first | (with_reducible first | exact HB.out | apply below_alloc | apply pw_below_drewN | apply below_drew1) | exact HB.out)))); have n3_ := Aside0.mk (below_step (by repeat (first | (with_reducible first | exact HB.out | apply below_alloc | apply pw_below_drewN | apply below_drew1) | exact HB.out)) hb); clear HO369; clear HO372; clear HB; have HO369 := n0_; have HO372 := n1_; have HO379 := n2_; have HB := n3_; clear n0_ n1_ n2_ n3_; (try clear hb); (try clear hb2); (try clear hk); (try clear hi); (try clear ho0); have p380 : 0 ≤ (0 : Int) := (by omega); have q380 : 0 < (t370.length : Int) := of_decide_eq_true (by first | (with_reducible assumption) | assumption); obtain ⟨ad380, e380, hx380_0, hx380_1⟩ := at_T26 (Kd.R_reads' HO372.out).2.2 0 p380 q380; cases e380; have qi380 : (0 < t370.length) = True := eq_true (by omega); (try rw [show ((0 : Int)).toNat = 0 from rfl] at hx380_0); (try rw [show 0 * 2 = 0 from rfl] at hx380_0); (try rw [Addr.add_zero'] at hx380_0); (try rw [show ((0 : Int)).toNat = 0 from rfl] at hx380_1); (try rw [show 0 * 2 = 0 from rfl] at hx380_1); (try rw [Addr.add_zero'] at hx380_1); replace p380 := eq_true p380; replace q380 := eq_true q380))
          go_ret
          exact ⟨by first | rfl | (simp [errW_none, errW_some] <;> rfl) | (simp [*, errW_none, errW_some] <;> rfl), by repeat (first | (with_reducible first | exact HB.out | apply below_alloc | apply pw_below_drewN | apply below_drew1) | exact HB.out)⟩
      · rw [if_neg c6] at H
        exact absurd H (by simp)
    · rw [if_neg c5] at H
      have c5b0 : ((t370.length : Int) == 2) = false := beq_eq_false_iff_ne.mpr c5
      have c5b1 : ((t370.length : Int) != 2) = true := bne_iff_ne.mpr c5
      obtain rfl := Option.some.inj H
      go_enter Try.func13, Try.ntmps13
      go_wp2_with (first | ((with_reducible refine gate_dst (N := 9) rfl ?_); (try (refine gate_guard (by rfl) ?_; dsimp only)); refine Kd.R_lit k26 _ 26 ?hg (N := 9) ?hd (xs := ([(⟨(⟨#[98]⟩ : ByteArray), (⟨#[49]⟩ : ByteArray)⟩ : S26)] : List (S26))) (inner := [.string (⟨#[98]⟩ : ByteArray), .string (⟨#[49]⟩ : ByteArray)]) (ok := fun _ => True) (okp := fun _ => True) ?hr ?hp (fun _ hk => hk) trivial (Below.refl _ _) (Nat.le_refl _) (by simp) ?_; (case hd => rfl); (case hg => rfl); (case hr => first | (go_simp; done) | (go_simp; rfl)); (case hp => exact (Reps.c2 (show Kd.M k26 _ _ _ (⟨(⟨#[98]⟩ : ByteArray), (⟨#[49]⟩ : ByteArray)⟩ : S26) [.string (⟨#[98]⟩ : ByteArray), .string (⟨#[49]⟩ : ByteArray)] from (k26_mkM _ _ _ (⟨(⟨#[98]⟩ : ByteArray), (⟨#[49]⟩ : ByteArray)⟩ : S26) )) (Reps.none _ _))); intro v368 w57 ho58 hb hg_ hnew_; clear hg_ hnew_; (first | rw [← Ny367.out] at ho58 | (simp only [Int.reduceToNat] at ho58; rw [← Ny367.out] at ho58)); have n0_ := Aside0.mk (Kd.R_lower ho58 (below_size (by repeat (first | (with_reducible first | exact HB.out | apply below_alloc | apply pw_below_drewN | apply below_drew1) | exact HB.out)))); have n1_ := Aside0.mk (below_step (by repeat (first | (with_reducible first | exact HB.out | apply below_alloc | apply pw_below_drewN | apply below_drew1) | exact HB.out)) hb); clear HB; have HO369 := n0_; have HB := n1_; clear n0_ n1_; clear hb ho58; obtain ⟨Ao59, co59, eo59⟩ := Kd.R_slice HO369.out; subst eo59) | ((with_reducible refine gate_callee (f := 14) rfl ?_); refine goesL_ (some 11) rfl rfl Try.func14 (by kernel_rfl) rfl #[.slice Ao59 y367.length co59, .agg #[.string (⟨#[97]⟩ : ByteArray), .string (⟨#[50]⟩ : ByteArray)]] rfl (by (try simp only [List.map_toArray, List.map_cons, List.map_nil]); first | done | rfl | (simp only [List.length_drop, List.length_take]; rfl)) ?_; (with_reducible refine (attr_Set.calls k _ _ y367 (⟨#[97]⟩ : ByteArray) (⟨#[50]⟩ : ByteArray) t370 t373 _ ?side1 ?side2 A1.out).mono ?_); (case side1 => repeat (first | exact (Kd.R_reads' HO369.out).2.2 | (with_reducible refine Kd.C_alloc ?_ _) | (with_reducible refine Kd.C_drewN ?_ _) | (with_reducible refine Kd.C_drew ?_))); (case side2 => exact (Kd.R_reads' HO369.out).2.1); rintro e w60 ⟨v371, rfl, ho0, hb⟩; refine ⟨_, rfl, ?_⟩; have n0_ := Aside0.mk (Kd.R_elder' (by (with_reducible repeat (first | apply Kd.R_alloc | apply Kd.R_drewN | apply Kd.R_drew)); exact HO369.out) (Kd.R_base ho0) hb); have n1_ := Aside0.mk (Kd.R_lower (Kd.R_new' ho0 (Kd.R_lt (by (with_reducible repeat (first | apply Kd.R_alloc | apply Kd.R_drewN | apply Kd.R_drew)); exact HO369.out))) (below_size (by repeat (first | (with_reducible first | exact HB.out | apply below_alloc | apply pw_below_drewN | apply below_drew1) | exact HB.out)))); have n2_ := Aside0.mk (below_step (by repeat (first | (with_reducible first | exact HB.out | apply below_alloc | apply pw_below_drewN | apply below_drew1) | exact HB.out)) hb); clear HO369; clear HB; have HO369 := n0_; have HO372 := n1_; have HB := n2_; clear n0_ n1_ n2_; (try clear hb); (try clear hb2); (try clear hk); (try clear hi); (try clear ho0); obtain ⟨Ao61, co61, eo61⟩ := Kd.R_slice HO372.out; subst eo61) | ((with_reducible refine gate_callee (f := 19) rfl ?_); refine goesL_ (some 16) rfl rfl Try.func19 (by kernel_rfl) rfl #[.slice Ao61 t370.length co61, .string (⟨#[98]⟩ : ByteArray)] rfl (by (try simp only [List.map_toArray, List.map_cons, List.map_nil]); first | done | rfl | (simp only [List.length_drop, List.length_take]; rfl)) ?_; (with_reducible refine (attr_Get.calls k _ _ t370 (⟨#[98]⟩ : ByteArray) t374 t375 _ ?side1 ?side2 A2.out).mono ?_); (case side1 => repeat (first | exact (Kd.R_reads' HO372.out).2.2 | (with_reducible refine Kd.C_alloc ?_ _) | (with_reducible refine Kd.C_drewN ?_ _) | (with_reducible refine Kd.C_drew ?_))); (case side2 => exact (Kd.R_reads' HO372.out).2.1); rintro e w62 ⟨rfl, hb⟩; refine ⟨_, rfl, ?_⟩; have n0_ := Aside0.mk (Kd.R_below (by (with_reducible repeat (first | apply Kd.R_alloc | apply Kd.R_drewN | apply Kd.R_drew)); exact HO369.out) hb); have n1_ := Aside0.mk (Kd.R_below (by (with_reducible repeat (first | apply Kd.R_alloc | apply Kd.R_drewN | apply Kd.R_drew)); exact HO372.out) hb); have n2_ := Aside0.mk (below_step (by repeat (first | (with_reducible first | exact HB.out | apply below_alloc | apply pw_below_drewN | apply below_drew1) | exact HB.out)) hb); clear HO369; clear HO372; clear HB; have HO369 := n0_; have HO372 := n1_; have HB := n2_; clear n0_ n1_ n2_; (try clear hb); (try clear hb2); (try clear hk); (try clear hi)) | ((with_reducible refine gate_callee (f := 21) rfl ?_); refine goesL_ (some 21) rfl rfl Try.func21 (by kernel_rfl) rfl #[.slice Ao61 t370.length co61] rfl (by (try simp only [List.map_toArray, List.map_cons, List.map_nil]); first | done | rfl | (simp only [List.length_drop, List.length_take]; rfl)) ?_; (with_reducible refine (attr_Encode.calls k _ _ t370 t376 t377 _ ?side1 ?side2 A3.out).mono ?_); (case side1 => repeat (first | exact (Kd.R_reads' HO372.out).2.2 | (with_reducible refine Kd.C_alloc ?_ _) | (with_reducible refine Kd.C_drewN ?_ _) | (with_reducible refine Kd.C_drew ?_))); (case side2 => exact (Kd.R_reads' HO372.out).2.1); rintro e w63 ⟨v378, rfl, ho0, hb⟩; refine ⟨_, rfl, ?_⟩; have n0_ := Aside0.mk (Kd.R_below (by (with_reducible repeat (first | apply Kd.R_alloc | apply Kd.R_drewN | apply Kd.R_drew)); exact HO369.out) hb); have n1_ := Aside0.mk (Kd.R_below (by (with_reducible repeat (first | apply Kd.R_alloc | apply Kd.R_drewN | apply Kd.R_drew)); exact HO372.out) hb); have n2_ := Aside0.mk (Kd.R_lower ho0 (below_size (by repeat (first | (with_reducible first | exact HB.out | apply below_alloc | apply pw_below_drewN | apply below_drew1) | exact HB.out)))); have n3_ := Aside0.mk (below_step (by repeat (first | (with_reducible first | exact HB.out | apply below_alloc | apply pw_below_drewN | apply below_drew1) | exact HB.out)) hb); clear HO369; clear HO372; clear HB; have HO369 := n0_; have HO372 := n1_; have HO379 := n2_; have HB := n3_; clear n0_ n1_ n2_ n3_; (try clear hb); (try clear hb2); (try clear hk); (try clear hi); (try clear ho0)))
      go_ret
      exact ⟨by first | rfl | (simp [errW_none, errW_some] <;> rfl) | (simp [*, errW_none, errW_some] <;> rfl), by repeat (first | (with_reducible first | exact HB.out | apply below_alloc | apply pw_below_drewN | apply below_drew1) | exact HB.out)⟩
  · rw [if_neg c4] at H
    have c4b0 : (t373 == 0) = false := beq_eq_false_iff_ne.mpr c4
    have c4b1 : (t373 != 0) = true := bne_iff_ne.mpr c4
    obtain rfl := Option.some.inj H
    go_enter Try.func13, Try.ntmps13
    go_wp2_with (first | ((with_reducible refine gate_dst (N := 9) rfl ?_); (try (refine gate_guard (by rfl) ?_; dsimp only)); refine Kd.R_lit k26 _ 26 ?hg (N := 9) ?hd (xs := ([(⟨(⟨#[98]⟩ : ByteArray), (⟨#[49]⟩ : ByteArray)⟩ : S26)] : List (S26))) (inner := [.string (⟨#[98]⟩ : ByteArray), .string (⟨#[49]⟩ : ByteArray)]) (ok := fun _ => True) (okp := fun _ => True) ?hr ?hp (fun _ hk => hk) trivial (Below.refl _ _) (Nat.le_refl _) (by simp) ?_; (case hd => rfl); (case hg => rfl); (case hr => first | (go_simp; done) | (go_simp; rfl)); (case hp => exact (Reps.c2 (show Kd.M k26 _ _ _ (⟨(⟨#[98]⟩ : ByteArray), (⟨#[49]⟩ : ByteArray)⟩ : S26) [.string (⟨#[98]⟩ : ByteArray), .string (⟨#[49]⟩ : ByteArray)] from (k26_mkM _ _ _ (⟨(⟨#[98]⟩ : ByteArray), (⟨#[49]⟩ : ByteArray)⟩ : S26) )) (Reps.none _ _))); intro v368 w64 ho65 hb hg_ hnew_; clear hg_ hnew_; (first | rw [← Ny367.out] at ho65 | (simp only [Int.reduceToNat] at ho65; rw [← Ny367.out] at ho65)); have n0_ := Aside0.mk (Kd.R_lower ho65 (below_size (by repeat (first | (with_reducible first | exact HB.out | apply below_alloc | apply pw_below_drewN | apply below_drew1) | exact HB.out)))); have n1_ := Aside0.mk (below_step (by repeat (first | (with_reducible first | exact HB.out | apply below_alloc | apply pw_below_drewN | apply below_drew1) | exact HB.out)) hb); clear HB; have HO369 := n0_; have HB := n1_; clear n0_ n1_; clear hb ho65; obtain ⟨Ao66, co66, eo66⟩ := Kd.R_slice HO369.out; subst eo66) | ((with_reducible refine gate_callee (f := 14) rfl ?_); refine goesL_ (some 11) rfl rfl Try.func14 (by kernel_rfl) rfl #[.slice Ao66 y367.length co66, .agg #[.string (⟨#[97]⟩ : ByteArray), .string (⟨#[50]⟩ : ByteArray)]] rfl (by (try simp only [List.map_toArray, List.map_cons, List.map_nil]); first | done | rfl | (simp only [List.length_drop, List.length_take]; rfl)) ?_; (with_reducible refine (attr_Set.calls k _ _ y367 (⟨#[97]⟩ : ByteArray) (⟨#[50]⟩ : ByteArray) t370 t373 _ ?side1 ?side2 A1.out).mono ?_); (case side1 => repeat (first | exact (Kd.R_reads' HO369.out).2.2 | (with_reducible refine Kd.C_alloc ?_ _) | (with_reducible refine Kd.C_drewN ?_ _) | (with_reducible refine Kd.C_drew ?_))); (case side2 => exact (Kd.R_reads' HO369.out).2.1); rintro e w67 ⟨v371, rfl, ho0, hb⟩; refine ⟨_, rfl, ?_⟩; have n0_ := Aside0.mk (Kd.R_elder' (by (with_reducible repeat (first | apply Kd.R_alloc | apply Kd.R_drewN | apply Kd.R_drew)); exact HO369.out) (Kd.R_base ho0) hb); have n1_ := Aside0.mk (Kd.R_lower (Kd.R_new' ho0 (Kd.R_lt (by (with_reducible repeat (first | apply Kd.R_alloc | apply Kd.R_drewN | apply Kd.R_drew)); exact HO369.out))) (below_size (by repeat (first | (with_reducible first | exact HB.out | apply below_alloc | apply pw_below_drewN | apply below_drew1) | exact HB.out)))); have n2_ := Aside0.mk (below_step (by repeat (first | (with_reducible first | exact HB.out | apply below_alloc | apply pw_below_drewN | apply below_drew1) | exact HB.out)) hb); clear HO369; clear HB; have HO369 := n0_; have HO372 := n1_; have HB := n2_; clear n0_ n1_ n2_; (try clear hb); (try clear hb2); (try clear hk); (try clear hi); (try clear ho0); obtain ⟨Ao68, co68, eo68⟩ := Kd.R_slice HO372.out; subst eo68) | ((with_reducible refine gate_callee (f := 19) rfl ?_); refine goesL_ (some 16) rfl rfl Try.func19 (by kernel_rfl) rfl #[.slice Ao68 t370.length co68, .string (⟨#[98]⟩ : ByteArray)] rfl (by (try simp only [List.map_toArray, List.map_cons, List.map_nil]); first | done | rfl | (simp only [List.length_drop, List.length_take]; rfl)) ?_; (with_reducible refine (attr_Get.calls k _ _ t370 (⟨#[98]⟩ : ByteArray) t374 t375 _ ?side1 ?side2 A2.out).mono ?_); (case side1 => repeat (first | exact (Kd.R_reads' HO372.out).2.2 | (with_reducible refine Kd.C_alloc ?_ _) | (with_reducible refine Kd.C_drewN ?_ _) | (with_reducible refine Kd.C_drew ?_))); (case side2 => exact (Kd.R_reads' HO372.out).2.1); rintro e w69 ⟨rfl, hb⟩; refine ⟨_, rfl, ?_⟩; have n0_ := Aside0.mk (Kd.R_below (by (with_reducible repeat (first | apply Kd.R_alloc | apply Kd.R_drewN | apply Kd.R_drew)); exact HO369.out) hb); have n1_ := Aside0.mk (Kd.R_below (by (with_reducible repeat (first | apply Kd.R_alloc | apply Kd.R_drewN | apply Kd.R_drew)); exact HO372.out) hb); have n2_ := Aside0.mk (below_step (by repeat (first | (with_reducible first | exact HB.out | apply below_alloc | apply pw_below_drewN | apply below_drew1) | exact HB.out)) hb); clear HO369; clear HO372; clear HB; have HO369 := n0_; have HO372 := n1_; have HB := n2_; clear n0_ n1_ n2_; (try clear hb); (try clear hb2); (try clear hk); (try clear hi)) | ((with_reducible refine gate_callee (f := 21) rfl ?_); refine goesL_ (some 21) rfl rfl Try.func21 (by kernel_rfl) rfl #[.slice Ao68 t370.length co68] rfl (by (try simp only [List.map_toArray, List.map_cons, List.map_nil]); first | done | rfl | (simp only [List.length_drop, List.length_take]; rfl)) ?_; (with_reducible refine (attr_Encode.calls k _ _ t370 t376 t377 _ ?side1 ?side2 A3.out).mono ?_); (case side1 => repeat (first | exact (Kd.R_reads' HO372.out).2.2 | (with_reducible refine Kd.C_alloc ?_ _) | (with_reducible refine Kd.C_drewN ?_ _) | (with_reducible refine Kd.C_drew ?_))); (case side2 => exact (Kd.R_reads' HO372.out).2.1); rintro e w70 ⟨v378, rfl, ho0, hb⟩; refine ⟨_, rfl, ?_⟩; have n0_ := Aside0.mk (Kd.R_below (by (with_reducible repeat (first | apply Kd.R_alloc | apply Kd.R_drewN | apply Kd.R_drew)); exact HO369.out) hb); have n1_ := Aside0.mk (Kd.R_below (by (with_reducible repeat (first | apply Kd.R_alloc | apply Kd.R_drewN | apply Kd.R_drew)); exact HO372.out) hb); have n2_ := Aside0.mk (Kd.R_lower ho0 (below_size (by repeat (first | (with_reducible first | exact HB.out | apply below_alloc | apply pw_below_drewN | apply below_drew1) | exact HB.out)))); have n3_ := Aside0.mk (below_step (by repeat (first | (with_reducible first | exact HB.out | apply below_alloc | apply pw_below_drewN | apply below_drew1) | exact HB.out)) hb); clear HO369; clear HO372; clear HB; have HO369 := n0_; have HO372 := n1_; have HO379 := n2_; have HB := n3_; clear n0_ n1_ n2_ n3_; (try clear hb); (try clear hb2); (try clear hk); (try clear hi); (try clear ho0)))
    go_ret
    exact ⟨by first | rfl | (simp [errW_none, errW_some] <;> rfl) | (simp [*, errW_none, errW_some] <;> rfl), by repeat (first | (with_reducible first | exact HB.out | apply below_alloc | apply pw_below_drewN | apply below_drew1) | exact HB.out)⟩
end Go.Proofs.Ytffaggckhneakaa.Pr
end
section
namespace Go.Proofs.Ytffaggckhneakaa.At
open Go.RowKit Go.Proofs.YtffaggckhneakaaW.PrintWords Go.Proofs.YtffaggckhneakaaW.PrintMore Go.Proofs.Ytffaggckhneakaa.Pr Go.Proofs.Ytffaggckhneakaa.Od Go.Proofs.Ytffaggckhneakaa.Cr
set_option linter.unusedVariables false
set_option linter.unusedSimpArgs false
def Fits (l : List E) : Prop := l.length ≤ 4398046510976
theorem o26 : Op.Opens Try.prog 22 (Kd.slice 26 k26) Fits :=
  Op.opens_imp (Op.opens_slice Try.underlying22 (by kernel_rfl) (B := 32) (by kernel_rfl)
    (Op.opens_iso (T := fun _ : E => True) (fun x => ⟨x.1, x.2⟩) (fun _ => rfl) (fun _ _ => trivial)
      (Op.opens_struct Try.underlying26 (by kernel_rfl) (Op.opensAt_cons rfl (by kernel_rfl) (Op.opens_string Try.underlying9) (Op.opensAt_last rfl (by kernel_rfl) (Op.opens_string Try.underlying9))))))
    (fun l h => by unfold Fits; omega)
def xb : E := ⟨⟨#[98]⟩, ⟨#[49]⟩⟩
def xa : E := ⟨⟨#[97]⟩, ⟨#[50]⟩⟩
theorem alive_set : setR [xb] xa = ([xa, xb], 0) := by
  unfold setR
  rw [if_pos ⟨by decide, by decide⟩, if_pos (by decide)]; rfl
theorem alive_get : getR [xa, xb] xb.f0.data.toList = (⟨#[49]⟩, 0) := by
  unfold getR
  rw [if_pos (by decide)]; rfl
theorem alive_enc : (encR [xa, xb]).2 = 0 := encR_iff.2 ⟨by decide, by decide⟩
theorem alive_bytes : (encR [xa, xb]).1 = encP [xa, xb] ++ bytesN 4 (sumB (encP [xa, xb])).toNat := by
  have hi := encR_iff.1 alive_enc
  unfold encR; rw [if_pos hi.1, if_neg (by omega)]
theorem alive_first : rd (encR [xa, xb]).1 0 = 2 := by
  rw [alive_bytes]; rfl
theorem alive_ev : Ev (fun k => undercroftlaw13_alive.f k) true := by
  unfold undercroftlaw13_alive.f
  refine Ev.bind (set_ev [xb] xa (by decide)) ?_
  rw [alive_set]
  refine Ev.bind (get_ev [xa, xb] xb.f0 (by decide)) ?_
  rw [alive_get]
  refine Ev.bind (enc_ev [xa, xb] (by decide)) ?_
  have e2 : (encR [xa, xb]).1.length = 256 := encR_len alive_enc
  have e3 : rd_T26 [xa, xb] 0 = xa := rfl
  have e4 : xa.f0.toList = ([97] : List UInt8) := by rw [Lib.toList_data]; rfl
  have e5 : (⟨#[49]⟩ : ByteArray).toList = ([49] : List UInt8) := by rw [Lib.toList_data]
  simp only [alive_enc, e2, e3, e4, e5, alive_first, if_true, List.length_cons, List.length_nil, show ((256 : Nat) : Int) = 256 from rfl, if_pos (show (0 : Int) < 256 by decide), show ((0 + 1 + 1 : Nat) : Int) = 2 from rfl, if_pos (show (0 : Int) < 2 by decide), beq_self_eq_true]
  exact Ev.now _
end Go.Proofs.Ytffaggckhneakaa.At
end
section
namespace Go.Proofs.Ytffaggckhneakaa.Pr
open Go.RowKit Go.Proofs.YtffaggckhneakaaW.PrintWords Go.Proofs.YtffaggckhneakaaW.PrintLast Go.Proofs.YtffaggckhneakaaW.PrintMore
attribute [local go_sem] max2_int min2_int max_two min_two max_three min_three max_four min_four
attribute [local go_sem] Go.Proofs.Ytffaggckhneakaa.Hl.str_geq Go.Proofs.Ytffaggckhneakaa.Hl.str_gtr Go.Proofs.Ytffaggckhneakaa.Hl.str_leq
set_option linter.unusedVariables false
set_option linter.unusedSimpArgs false
theorem eqA26 (d : Nat) (w : World) (x0 y0 : ByteArray) (x1 y1 : ByteArray) :
    (Op.equalIn (d + 2) 26 (.agg #[.string x0, .string x1]) (.agg #[.string y0, .string y1])).run Try.prog w = .ok (x0.toList == y0.toList && (x1.toList == y1.toList)) w := by
  refine eqA_of Try.underlying26 (by kernel_rfl) ?_
  refine eqf_cons (by rfl) (by go_simp; rfl) (by go_simp; rfl) (by go_simp) ?_
  exact eqf_last (by rfl) (by go_simp; rfl) (by go_simp; rfl) (by go_simp)
end Go.Proofs.Ytffaggckhneakaa.Pr
end
section
namespace Go.Proofs.Ytffaggckhneakaa.Pr
open Go.RowKit Go.Proofs.YtffaggckhneakaaW.PrintWords Go.Proofs.YtffaggckhneakaaW.PrintLast Go.Proofs.YtffaggckhneakaaW.PrintMore
attribute [local go_sem] max2_int min2_int max_two min_two max_three min_three max_four min_four
attribute [local go_sem] Go.Proofs.Ytffaggckhneakaa.Hl.str_geq Go.Proofs.Ytffaggckhneakaa.Hl.str_gtr Go.Proofs.Ytffaggckhneakaa.Hl.str_leq
set_option linter.unusedVariables false
set_option linter.unusedSimpArgs false
attribute [local go_sem high] eqA26
def undercroftref13_Same.l0 : Nat → List (S26) → List (S26) → Int → Option (Bool)
  | 0, _, _, _ => none
  | k + 1, x0, x1, x5 => if x5 < (x0.length : Int) then (if 0 ≤ x5 then (if x5 < (x1.length : Int) then (if (!((((rd_T26 x0 x5).f0).toList) == (((rd_T26 x1 x5).f0).toList)) || (!((((rd_T26 x0 x5).f1).toList) == (((rd_T26 x1 x5).f1).toList)))) = true then (some false) else (undercroftref13_Same.l0 k x0 x1 (wrap64 (x5 + 1)))) else (none)) else (none)) else (some true)
def undercroftref13_Same.f (k : Nat) (l0 : List (S26)) (l1 : List (S26)) : Option (Bool) := if (l0.length : Int) = (l1.length : Int) then (undercroftref13_Same.l0 k l0 l1 0) else (some false)
set_option maxHeartbeats 8000000 in
set_option maxRecDepth 100000 in
theorem undercroftref13_Same.calls (k : Nat) (A0 : Option Addr) (c0 : Nat) (l0 : List (S26)) (A1 : Option Addr) (c1 : Nat) (l1 : List (S26)) (r : Bool) (w : World) (hr0 : Kd.C k26 w A0 l0.length l0) (hc0 : l0.length ≤ c0) (hr1 : Kd.C k26 w A1 l1.length l1) (hc1 : l1.length ≤ c1) (h : undercroftref13_Same.f k l0 l1 = some r) :
    Calls Try.prog 15 #[.slice A0 l0.length c0, .slice A1 l1.length c1] w fun e w' => e = .returned (.bool r) ∧ Drawn0 w w' := by
  have hu26 := Try.underlying26
  have HR0 := Aside0.mk hr0
  have HC0 := Aside0.mk hc0
  clear hr0 hc0
  have HR1 := Aside0.mk hr1
  have HC1 := Aside0.mk hc1
  clear hr1 hc1
  have H : (if (l0.length : Int) = (l1.length : Int) then (undercroftref13_Same.l0 k l0 l1 0) else (some false)) = some r := h
  clear h
  by_cases c3 : (l0.length : Int) = (l1.length : Int)
  · rw [if_pos c3] at H
    have c3b0 : ((l0.length : Int) == (l1.length : Int)) = true := beq_iff_eq.mpr c3
    have c3b1 : ((l0.length : Int) != (l1.length : Int)) = false := bne_eq_false_iff_eq.mpr c3
    have c3b2 : (l0.length == l1.length) = true := by first | simpa using c3 | (simp at c3 ⊢; omega)
    clear c3
    have H' := Aside0.mk H
    clear H
    go_enter Try.func15, Try.ntmps15
    go_wp2
    repeat (go_quiet (fail); try go_wp2)
    go_loopg [5] k (fun kq v5 w' => ∃ (x5_1 : Int), v5 = .int .i64 x5_1 ∧ Aside0 (undercroftref13_Same.l0 kq l0 l1 x5_1 = some r) ∧ Aside0 (kq ≤ k) ∧ Drawn0 w w')
    case atStart => exact ⟨(0), (by first | rfl | (simp; done) | (simp [*]; done)), H', ⟨Nat.le_refl _⟩, by repeat (first | exact Drawn0.refl _ | apply Drawn0.step)⟩
    case round =>
      clear H'
      try clear c1
      try clear p2
      try clear c3
      try clear c3b0
      try clear c3b1
      try clear c3b2
      obtain ⟨x5_1, rfl, HA, HK1, ⟨m1, rfl⟩⟩ := hrel
      cases gk with
      | zero => exact absurd HA.out (by intro h_; cases h_)
      | succ k1 =>
        have H := HA.out
        clear HA
        simp only [undercroftref13_Same.l0] at H
        by_cases c4 : x5_1 < (l0.length : Int)
        · rw [if_pos c4] at H
          have c4b0 : decide (x5_1 < (l0.length : Int)) = true := decide_eq_true c4
          clear c4
          by_cases c5 : 0 ≤ x5_1
          · rw [if_pos c5] at H
            have c5b0 : decide (0 ≤ x5_1) = true := decide_eq_true c5
            clear c5
            by_cases c6 : x5_1 < (l1.length : Int)
            · rw [if_pos c6] at H
              have c6b0 : decide (x5_1 < (l1.length : Int)) = true := decide_eq_true c6
              clear c6
              by_cases c7 : (!((((rd_T26 l0 x5_1).f0).toList) == (((rd_T26 l1 x5_1).f0).toList)) || (!((((rd_T26 l0 x5_1).f1).toList) == (((rd_T26 l1 x5_1).f1).toList)))) = true
              · rw [if_pos c7] at H
                have c7b0 : (!((((rd_T26 l0 x5_1).f0).toList) == (((rd_T26 l1 x5_1).f0).toList)) || (!((((rd_T26 l0 x5_1).f1).toList) == (((rd_T26 l1 x5_1).f1).toList)))) = true := c7
                clear c7
                obtain rfl := Option.some.inj H
                have p382 : 0 ≤ (x5_1 : Int) := of_decide_eq_true (by first | (with_reducible assumption) | assumption)
                have q382 : x5_1 < (l0.length : Int) := of_decide_eq_true (by first | (with_reducible assumption) | assumption)
                obtain ⟨ad382, e382, hx382_0, hx382_1⟩ := at_T26 HR0.out x5_1 p382 q382
                cases e382
                replace p382 := eq_true p382
                replace q382 := eq_true q382
                have p383 : 0 ≤ (x5_1 : Int) := of_decide_eq_true (by first | (with_reducible assumption) | assumption)
                have q383 : x5_1 < (l1.length : Int) := of_decide_eq_true (by first | (with_reducible assumption) | assumption)
                obtain ⟨ad383, e383, hx383_0, hx383_1⟩ := at_T26 HR1.out x5_1 p383 q383
                cases e383
                replace p383 := eq_true p383
                replace q383 := eq_true q383
                go_wp2
                repeat (go_quiet (fail); try go_wp2)
                go_ret
                exact ⟨by first | rfl | (simp; done) | (simp [*]; done), by repeat (first | exact Drawn0.refl _ | apply Drawn0.step)⟩
              · rw [if_neg c7] at H
                have c7b0 : (!((((rd_T26 l0 x5_1).f0).toList) == (((rd_T26 l1 x5_1).f0).toList)) || (!((((rd_T26 l0 x5_1).f1).toList) == (((rd_T26 l1 x5_1).f1).toList)))) = false := by simpa using c7
                clear c7
                have H' := Aside0.mk H
                clear H
                have p382 : 0 ≤ (x5_1 : Int) := of_decide_eq_true (by first | (with_reducible assumption) | assumption)
                have q382 : x5_1 < (l0.length : Int) := of_decide_eq_true (by first | (with_reducible assumption) | assumption)
                obtain ⟨ad382, e382, hx382_0, hx382_1⟩ := at_T26 HR0.out x5_1 p382 q382
                cases e382
                replace p382 := eq_true p382
                replace q382 := eq_true q382
                have p383 : 0 ≤ (x5_1 : Int) := of_decide_eq_true (by first | (with_reducible assumption) | assumption)
                have q383 : x5_1 < (l1.length : Int) := of_decide_eq_true (by first | (with_reducible assumption) | assumption)
                obtain ⟨ad383, e383, hx383_0, hx383_1⟩ := at_T26 HR1.out x5_1 p383 q383
                cases e383
                replace p383 := eq_true p383
                replace q383 := eq_true q383
                go_wp2
                repeat (go_quiet (fail); try go_wp2)
                go_roundg k1
                case measure => have := HK1.out; omega
                case rel => exact ⟨(wrap64 (x5_1 + 1)), (by first | rfl | (simp; done) | (simp [*]; done)), H', ⟨by have := HK1.out; omega⟩, by repeat (first | exact Drawn0.refl _ | apply Drawn0.step)⟩
            · rw [if_neg c6] at H
              exact absurd H (by simp)
          · rw [if_neg c5] at H
            exact absurd H (by simp)
        · rw [if_neg c4] at H
          have c4b0 : decide (x5_1 < (l0.length : Int)) = false := decide_eq_false c4
          clear c4
          obtain rfl := Option.some.inj H
          go_wp2
          repeat (go_quiet (fail); try go_wp2)
          go_ret
          exact ⟨by first | rfl | (simp; done) | (simp [*]; done), by repeat (first | exact Drawn0.refl _ | apply Drawn0.step)⟩
  · rw [if_neg c3] at H
    have c3b0 : ((l0.length : Int) == (l1.length : Int)) = false := beq_eq_false_iff_ne.mpr c3
    have c3b1 : ((l0.length : Int) != (l1.length : Int)) = true := bne_iff_ne.mpr c3
    have c3b2 : (l0.length == l1.length) = false := by first | simpa using c3 | (simp at c3 ⊢; omega)
    obtain rfl := Option.some.inj H
    go_enter Try.func15, Try.ntmps15
    go_wp2
    repeat (go_quiet (fail); try go_wp2)
    go_ret
    exact ⟨by first | rfl | (simp; done) | (simp [*]; done), by repeat (first | exact Drawn0.refl _ | apply Drawn0.step)⟩
end Go.Proofs.Ytffaggckhneakaa.Pr
end
section
namespace Go.Proofs.Ytffaggckhneakaa.At
open Go.RowKit Go.Proofs.YtffaggckhneakaaW.PrintWords Go.Proofs.YtffaggckhneakaaW.PrintMore Go.Proofs.Ytffaggckhneakaa.Pr Go.Proofs.Ytffaggckhneakaa.Od Go.Proofs.Ytffaggckhneakaa.Cr
set_option linter.unusedVariables false
set_option linter.unusedSimpArgs false
theorem same_ev (l : List E) (hl : l.length < 4398046511104) : Ev (fun k => undercroftref13_Same.f k l l) true := by
  unfold undercroftref13_Same.f
  simp only [if_true]
  have key : ∀ (n i : Nat), i + n = l.length → Ev (fun k => undercroftref13_Same.l0 k l l (i : Int)) true := by
    intro n
    induction n with
    | zero =>
      intro i hi
      refine Ev.succ ?_
      simp only [undercroftref13_Same.l0, if_neg (show ¬((i : Int) < (l.length : Int)) by omega)]
      exact Ev.now _
    | succ n ih =>
      intro i hi
      refine Ev.succ ?_
      have hil : i < l.length := by omega
      simp only [undercroftref13_Same.l0, if_pos (show ((i : Int) < (l.length : Int)) by omega), if_pos (show (0 : Int) ≤ (i : Int) by omega), beq_self_eq_true, Bool.not_true, Bool.or_self, Bool.false_eq_true, if_false, w64 (show -9223372036854775808 ≤ (i : Int) + 1 by omega) (by omega)]
      exact ih (i + 1) (by omega)
  exact key l.length 0 (by omega)
end Go.Proofs.Ytffaggckhneakaa.At
end
section
namespace Go.Proofs.Ytffaggckhneakaa.Pr
open Go.RowKit Go.Proofs.YtffaggckhneakaaW.PrintWords Go.Proofs.YtffaggckhneakaaW.PrintLast Go.Proofs.YtffaggckhneakaaW.PrintMore
attribute [local go_sem] max2_int min2_int max_two min_two max_three min_three max_four min_four
attribute [local go_sem] Go.Proofs.Ytffaggckhneakaa.Hl.str_geq Go.Proofs.Ytffaggckhneakaa.Hl.str_gtr Go.Proofs.Ytffaggckhneakaa.Hl.str_leq
set_option linter.unusedVariables false
set_option linter.unusedSimpArgs false
def bytes_Equal.f (l0 : List Int) (l1 : List Int) : Option (Bool) := some ((strOfNums l0).toList == (strOfNums l1).toList)
set_option maxHeartbeats 8000000 in
set_option maxRecDepth 100000 in
theorem bytes_Equal.calls (A0 : Option Addr) (c0 : Nat) (l0 : List Int) (A1 : Option Addr) (c1 : Nat) (l1 : List Int) (r : Bool) (w : World) (hr0 : Kd.C (Kd.int .u8) w A0 l0.length l0) (hc0 : l0.length ≤ c0) (hr1 : Kd.C (Kd.int .u8) w A1 l1.length l1) (hc1 : l1.length ≤ c1) (h : bytes_Equal.f l0 l1 = some r) :
    Calls Try.prog 56 #[.slice A0 l0.length c0, .slice A1 l1.length c1] w fun e w' => e = .returned (.bool r) ∧ Drawn0 w w' := by
  have HR0 := Aside0.mk hr0
  have HC0 := Aside0.mk hc0
  clear hr0 hc0
  have HR1 := Aside0.mk hr1
  have HC1 := Aside0.mk hc1
  clear hr1 hc1
  have H : (some ((strOfNums l0).toList == (strOfNums l1).toList)) = some r := h
  clear h
  obtain rfl := Option.some.inj H
  have hcv3 := Kd.C_string (P := Try.prog) (A := A0) (c := c0) Try.underlying37 Try.underlying5 Try.underlying9 HR0.out
  have hcv4 := Kd.C_string (P := Try.prog) (A := A1) (c := c1) Try.underlying37 Try.underlying5 Try.underlying9 HR1.out
  go_enter Try.func56, Try.ntmps56
  go_wp2
  go_ret
  exact ⟨by first | rfl | (simp; done) | (simp [*]; done), by repeat (first | exact Drawn0.refl _ | apply Drawn0.step)⟩
end Go.Proofs.Ytffaggckhneakaa.Pr
end
section
namespace Go.Proofs.Ytffaggckhneakaa.Pr
open Go.RowKit Go.Proofs.YtffaggckhneakaaW.PrintWords Go.Proofs.YtffaggckhneakaaW.PrintLast Go.Proofs.YtffaggckhneakaaW.PrintMore
attribute [local go_sem] max2_int min2_int max_two min_two max_three min_three max_four min_four
attribute [local go_sem] Go.Proofs.Ytffaggckhneakaa.Hl.str_geq Go.Proofs.Ytffaggckhneakaa.Hl.str_gtr Go.Proofs.Ytffaggckhneakaa.Hl.str_leq
set_option linter.unusedVariables false
set_option linter.unusedSimpArgs false
set_option maxHeartbeats 8000000 in
set_option maxRecDepth 100000 in
theorem attr_take (W : World) (Bx : Nat) (A : Option Addr) (c : Nat) (l : List Int) (N : Nat) (hN : l.length = N) (n : Nat) (hbk : W.heap[Bx]? = some (.cells #[.slice A N c] 37 (0, 0))) (hr : Kd.C (Kd.int .u8) W A l.length l) (hc : l.length ≤ c) (hn : n ≤ l.length) :
    Calls Try.prog 58 #[.int .i64 n, .pointer (some ⟨Bx, 0, none⟩)] W fun e w' => e = .returned (.tuple #[.string (strOfNums (l.take n)), .bool true]) ∧
      ∃ A' c', w'.heap[Bx]? = some (.cells #[.slice A' (l.length - n) c'] 37 (0, 0)) ∧ (l.drop n).length ≤ c' ∧ (∀ w1, Kd.C (Kd.int .u8) w1 A l.length l → Kd.C (Kd.int .u8) w1 A' (l.drop n).length (l.drop n)) ∧ w' = W.setCell ⟨Bx, 0, none⟩ (.slice A' (l.length - n) c') := by
  subst hN
  obtain ⟨i0, hi, hz⟩ := Option.map_eq_some_iff.1 info5
  simp only [Prod.mk.injEq] at hz
  have hln : l.length ≤ 9223372036854775807 := hr.2.1
  obtain ⟨hcut1, hA1, hC1⟩ := print_take_of (P := Try.prog) (Value.int .u8) 0 37 5 .i64 Try.underlying37 hi hz.2.1 A c l (n : Int) (by omega) (by omega) hc
  obtain ⟨A2, hcut2, hA2, hC2⟩ := print_drop_of (P := Try.prog) (Value.int .u8) 0 37 5 .i64 Try.underlying37 hi hz.2.1 A c l (n : Int) (by omega) (by omega) hc
  rw [Int.toNat_natCast] at hA1 hA2 hC1 hC2
  simp only [Int.toNat_natCast] at hcut1 hcut2
  have hl1 : (l.take n).length = n := by rw [List.length_take]; omega
  have hl2 : (l.drop n).length = l.length - n := by rw [List.length_drop]
  simp only [hl1] at hcut1
  simp only [hl2] at hcut2
  have hcell : W.cell? ⟨Bx, 0, none⟩ = some (.slice A l.length c) := (blk_cell hbk 0).trans rfl
  have hfz := blk_frozen hbk 0
  have hcv : (convert 37 9 (.slice A n c)).run Try.prog W = .ok (.string (strOfNums (l.take n))) W := by
    have h1 := Kd.C_of_reads (h1 := fun _ => rfl) (hA1 W (Kd.reads_of_C hr))
    have e_ := Kd.C_string (P := Try.prog) (A := A) (c := c) Try.underlying37 Try.underlying5 Try.underlying9 h1
    rw [hl1] at e_
    exact e_
  have hgt : ¬ (l.length < n) := by omega
  obtain ⟨sv, hsv⟩ : ∃ sv, strOfNums (l.take n) = sv := ⟨_, rfl⟩
  rw [hsv] at hcv ⊢
  have HBK := Aside0.mk hbk
  have HC2 := Aside0.mk hC2
  have HA2 := Aside0.mk hA2
  have HL2 := Aside0.mk hl2
  clear hsv hl1 hl2 hA1 hC1 hA2 hC2 hr hc hz hi hln hbk hn
  go_enter Try.func58, Try.ntmps58
  go_wp2
  go_ret2
  exact ⟨rfl, A2, c - n, blk_put (cs := #[.slice A l.length c]) HBK.out 0 _ rfl, HC2.out, fun w1 h1 => Kd.C_of_reads (h1 := fun _ => rfl) (HA2.out w1 (Kd.reads_of_C h1)), rfl⟩
set_option maxHeartbeats 8000000 in
set_option maxRecDepth 100000 in
theorem attr_take_no (W : World) (Bx : Nat) (A : Option Addr) (c : Nat) (N : Nat) (n : Nat) (hbk : W.heap[Bx]? = some (.cells #[.slice A N c] 37 (0, 0))) (hn : N < n) :
    Calls Try.prog 58 #[.int .i64 n, .pointer (some ⟨Bx, 0, none⟩)] W fun e w' => e = .returned (.tuple #[.string ⟨#[]⟩, .bool false]) ∧ w' = W := by
  have hcell : W.cell? ⟨Bx, 0, none⟩ = some (.slice A N c) := (blk_cell hbk 0).trans rfl
  have hgt : N < n := hn
  clear hbk
  go_enter Try.func58, Try.ntmps58
  go_wp2
  go_ret2
  exact ⟨rfl, rfl⟩
def attr_Decode.tail (k : Nat) (b : List Int) (ms : List S26) : Option (List S26 × Int) := (attr_Encode.f k ms).bind fun t => (if t.2 = 0 then ((bytes_Equal.f t.1 b).bind fun q => (if q = true then some (ms, 0) else some ([], 13))) else some ([], 13))
def attr_Decode.l0 : Nat → List Int → Int → Int → List Int → List S26 → Option (List S26 × Int)
  | 0, _, _, _, _, _ => none
  | k + 1, b, n, i, rest, ms => if i < n then (if rest.length < 2 then some ([], 13) else (if 0 ≤ rd rest 0 ∧ rd rest 0 < 256 ∧ 0 ≤ rd rest 1 ∧ rd rest 1 < 256 then (if (rest.drop 2).length < (rd rest 0).toNat then some ([], 13) else (if ((rest.drop 2).drop (rd rest 0).toNat).length < (rd rest 1).toNat then some ([], 13) else (if ms.length < 4398046511104 then attr_Decode.l0 k b n (IntKind.u64.wrap (i + 1)) (((rest.drop 2).drop (rd rest 0).toNat).drop (rd rest 1).toNat) (ms ++ [⟨strOfNums ((rest.drop 2).take (rd rest 0).toNat), strOfNums (((rest.drop 2).drop (rd rest 0).toNat).take (rd rest 1).toNat)⟩]) else none))) else none)) else attr_Decode.tail k b ms
def attr_Decode.f (k : Nat) (l0 : List Int) : Option (List S26 × Int) := if l0.length = 256 then ((crc_Number.f k (l0.take 2)).bind fun v => attr_Decode.l0 k l0 v.1 0 ((l0.take 252).drop 2) []) else some ([], 13)
set_option maxHeartbeats 8000000 in
set_option maxRecDepth 100000 in
theorem attr_Decode.calls (k : Nat) (A0 : Option Addr) (c0 : Nat) (l0 : List Int) (r1 : List (S26)) (r2 : Int) (w : World) (hr0 : Kd.C (Kd.int .u8) w A0 l0.length l0) (hc0 : l0.length ≤ c0) (h : attr_Decode.f k l0 = some (r1, r2)) :
    Calls Try.prog 33 #[.slice A0 l0.length c0] w fun e w' => ∃ v0_ : Value, e = .returned (.tuple #[v0_, .int .i64 r2]) ∧ Kd.R k26 26 w' w.heap.size (fun _ => True) v0_ r1 ∧ Below w.heap.size w w' := by
  unfold attr_Decode.f at h
  have HR0 := Aside0.mk hr0
  have HC0 := Aside0.mk hc0
  clear hr0 hc0
  by_cases hlen : l0.length = 256
  · rw [if_pos hlen] at h
    obtain ⟨⟨nv, nok⟩, hn, h⟩ := Option.bind_eq_some_iff.1 h
    have HN2 := Aside0.mk hlen
    have hlb : ((l0.length : Int) != 256) = false := by simp [hlen]
    have HH := Aside0.mk h
    obtain ⟨i0, hi0_, hz0_⟩ := Option.map_eq_some_iff.1 info5
    simp only [Prod.mk.injEq] at hz0_
    obtain ⟨hcut1, hA1, hC1⟩ := print_take_of (P := Try.prog) (Value.int .u8) 0 37 5 .i64 Try.underlying37 hi0_ hz0_.2.1 A0 c0 l0 2 (by omega) (by omega) HC0.out
    obtain ⟨A2, hcut2, hA2, hC2⟩ := print_mid_of (P := Try.prog) (Value.int .u8) 0 37 5 .i64 .i64 Try.underlying37 hi0_ hz0_.2.1 A0 c0 l0 2 252 (by omega) (by omega) (by omega) HC0.out
    rw [show (2 : Int).toNat = 2 from rfl] at hA1 hC1 hA2 hC2
    rw [show (252 : Int).toNat = 252 from rfl] at hA2 hC2
    simp only [show (2 : Int).toNat = 2 from rfl, show (252 : Int).toNat = 252 from rfl] at hcut1 hcut2
    have hl1 : (l0.take 2).length = 2 := by rw [List.length_take]; omega
    have hl2 : ((l0.take 252).drop 2).length = 250 := by rw [List.length_drop, List.length_take]; omega
    have hcn := crc_Number.calls k A0 c0 (l0.take 2) nv nok w (Kd.C_of_reads (h1 := fun _ => rfl) (hA1 _ (Kd.reads_of_C HR0.out))) hC1 hn
    rw [hl1] at hcn
    simp only [hl1] at hcut1
    simp only [hl2] at hcut2
    obtain ⟨R0, hR0⟩ : ∃ R0, R0 = (l0.take 252).drop 2 := ⟨_, rfl⟩
    have HCN := Aside0.mk hcn
    have HRest := Aside0.mk (show ∀ w1, Kd.C (Kd.int .u8) w1 A0 l0.length l0 → Kd.C (Kd.int .u8) w1 A2 R0.length R0 from fun w1 h1 => by rw [hR0]; exact Kd.C_of_reads (h1 := fun _ => rfl) (hA2 w1 (Kd.reads_of_C h1)))
    have HR0L := Aside0.mk (show R0.length = 250 from by rw [hR0]; exact hl2)
    have HRC := Aside0.mk (show R0.length ≤ c0 - 2 from by rw [hR0]; exact hC2)
    simp only [← hR0] at HH
    clear hn h hlen hi0_ hz0_ hA1 hA2 hC1 hC2 hl1 hl2 hcn hR0
    go_enter Try.func33, Try.ntmps33
    go_wp2_with (go_at_call 55; refine HCN.out.mono ?_; rintro e w1 ⟨rfl, ⟨m1, rfl⟩⟩; have hfz : ((w.drewN m1).alloc (.cells #[.slice none 0 0] 37)).frozen? ⟨w.heap.size, 0, none⟩ = false := blk_frozen (blk_new (w.drewN m1) _) 0; have hcl0 : ((w.drewN m1).alloc (.cells #[.slice none 0 0] 37)).cell? ⟨w.heap.size, 0, none⟩ = some (.slice none 0 0) := (blk_cell (blk_new (w.drewN m1) _) 0).trans rfl)
    have hi54 := info26
    have hu54 := Try.underlying26
    clear hlb hcut1 hcut2 hfz hcl0
    go_loopg [8, 29] k (fun kq v8 v29 w' => ∃ (ms : List S26) (i : Int) (rest : List Int) (A : Option Addr) (c : Nat), v29 = .int .u64 i ∧ Aside0 (attr_Decode.l0 kq l0 nv i rest ms = some (r1, r2)) ∧ Aside0 (kq ≤ k) ∧ Aside0 (w'.heap[w.heap.size]? = some (.cells #[.slice A rest.length c] 37 (0, 0))) ∧ Aside0 (∀ w1, Kd.C (Kd.int .u8) w1 A0 l0.length l0 → Kd.C (Kd.int .u8) w1 A rest.length rest) ∧ Aside0 (rest.length ≤ c) ∧ Aside0 (Kd.R k26 26 w' w.heap.size (fun _ => True) v8 ms) ∧ Aside0 (Below w.heap.size w w'))
    case atStart => exact ⟨[], 0, R0, A2, c0 - 2, rfl, HH, ⟨Nat.le_refl _⟩, ⟨by rw [HR0L.out]; exact blk_put (cs := #[.slice none 0 0]) (blk_new (w.drewN m1) _) 0 _ rfl⟩, HRest, HRC, ⟨Kd.R_nil _ _ _ _ _⟩, ⟨Hl.below_set_ ((pw_below_drewN (Below.refl w.heap.size w) m1).alloc (Nat.le_refl _) _) (Nat.le_refl _)⟩⟩
    case round =>
      obtain ⟨ms, i, rest, A, c, rfl, HL, HK, HBK, HRS, HRL, HO, HB⟩ := hrel
      clear HH HRest HRC HR0L HCN
      cases gk with
      | zero => exact absurd HL.out (by intro h_; cases h_)
      | succ g =>
        have hl := HL.out
        clear HL
        simp only [attr_Decode.l0] at hl
        obtain ⟨Ao, co, hc5_, hr5_, rfl⟩ : ∃ A c, ms.length ≤ c ∧ Kd.C k26 wr A ms.length ms ∧ _ = Value.slice A ms.length c := by
          obtain ⟨A, c, e, hc, hr⟩ := Kd.R_reads HO.out
          exact ⟨A, c, hc, hr, e⟩
        have HC5 := Aside0.mk hc5_
        have HR5 := Aside0.mk hr5_
        clear hc5_ hr5_
        by_cases hi : i < nv
        · rw [if_pos hi] at hl
          have hib : decide (i < nv) = true := decide_eq_true hi
          by_cases h2 : rest.length < 2
          · rw [if_pos h2] at hl
            obtain ⟨rfl, rfl⟩ := Prod.mk.inj (Option.some.inj hl)
            have H2 := Aside0.mk h2
            clear hl h2
            go_wp2_with (go_at_call 58; refine (attr_take_no wr _ A c rest.length 2 HBK.out H2.out).mono ?_; rintro e w2 ⟨rfl, rfl⟩)
            go_ret2
            exact ⟨_, rfl, Kd.R_nil _ _ _ _ _, HB.out⟩
          · obtain ⟨x, y, r, rfl⟩ : ∃ x y r, rest = x :: y :: r := by
              match rest, h2 with
              | x :: y :: r, _ => exact ⟨x, y, r, rfl⟩
              | [_], h => simp at h
              | [], h => simp at h
            simp only [show rd (x :: y :: r) 0 = x from rfl, show rd (x :: y :: r) 1 = y from rfl, List.drop_succ_cons, List.drop_zero] at hl
            rw [if_neg h2] at hl
            by_cases hb : 0 ≤ x ∧ x < 256 ∧ 0 ≤ y ∧ y < 256
            · rw [if_pos hb] at hl
              obtain ⟨xn, rfl⟩ : ∃ xn : Nat, x = (xn : Int) := ⟨x.toNat, by omega⟩
              obtain ⟨yn, rfl⟩ : ∃ yn : Nat, y = (yn : Int) := ⟨y.toNat, by omega⟩
              simp only [Int.toNat_natCast] at hl
              have H2 := Aside0.mk (show 2 ≤ ((xn : Int) :: (yn : Int) :: r).length by simp)
              obtain ⟨s0, hs0⟩ : ∃ s0, strOfNums (((xn : Int) :: (yn : Int) :: r).take 2) = s0 := ⟨_, rfl⟩
              have hsz0 : s0.size = 2 := by rw [← hs0]; rfl
              have hbx : ∀ h : 0 < s0.size, ((s0[0]'h).toNat : Int) = (xn : Int) := by
                subst hs0
                intro h
                show (((UInt8.ofNat ((xn : Int)).toNat).toNat : Nat) : Int) = _
                rw [Int.toNat_natCast, UInt8.toNat_ofNat']
                omega
              have hby : ∀ h : 1 < s0.size, ((s0[1]'h).toNat : Int) = (yn : Int) := by
                subst hs0
                intro h
                show (((UInt8.ofNat ((yn : Int)).toNat).toNat : Nat) : Int) = _
                rw [Int.toNat_natCast, UInt8.toNat_ofNat']
                omega
              have hwx : wrap64 (xn : Int) = (xn : Int) := by unfold wrap64; omega
              have hwy : wrap64 (yn : Int) = (yn : Int) := by unfold wrap64; omega
              have HS0 := Aside0.mk hs0
              clear hb h2 hs0
              by_cases h3 : r.length < xn
              · rw [if_pos h3] at hl
                obtain ⟨rfl, rfl⟩ := Prod.mk.inj (Option.some.inj hl)
                have H3 := Aside0.mk h3
                clear hl h3
                by_cases h4 : r.length < yn
                · have H4 := Aside0.mk h4
                  clear h4
                  go_wp2_with (first | (go_at_call 58; refine (attr_take_no w3 _ A1 c1 r.length yn HBK3.out H4.out).mono ?_; rintro e w4 ⟨rfl, hw4⟩; have HB4 : Aside0 (Below w.heap.size w w4) := ⟨by rw [hw4]; exact HB3.out⟩; clear hw4) | (go_at_call 58; refine (attr_take_no w2 _ A1 c1 r.length xn HBK2.out H3.out).mono ?_; rintro e w3 ⟨rfl, hw3⟩; have HBK3 : Aside0 (w3.heap[w.heap.size]? = some (.cells #[.slice A1 r.length c1] 37 (0, 0))) := ⟨by rw [hw3]; exact HBK2.out⟩; have HB3 : Aside0 (Below w.heap.size w w3) := ⟨by rw [hw3]; exact HB2.out⟩; clear hw3) | (go_at_call 58; refine (attr_take wr _ A c ((xn : Int) :: (yn : Int) :: r) _ rfl 2 HBK.out (HRS.out _ (Kd.C_below HR0.out HB.out)) HRL.out H2.out).mono ?_; rintro e w2 ⟨rfl, A1, c1, hbk2, hle2, htr2, hw2⟩; rw [HS0.out]; have HBK2 : Aside0 (w2.heap[w.heap.size]? = some (.cells #[.slice A1 (r.length) c1] 37 (0, 0))) := ⟨hbk2⟩; have HLE2 : Aside0 (r.length ≤ c1) := ⟨hle2⟩; have HTR2 : Aside0 (∀ w1, Kd.C (Kd.int .u8) w1 A0 l0.length l0 → Kd.C (Kd.int .u8) w1 A1 r.length r) := ⟨fun w1 h1 => htr2 w1 (HRS.out w1 h1)⟩; have HO2 : Aside0 (Kd.R k26 26 w2 w.heap.size (fun _ => True) (.slice Ao ms.length co) ms) := ⟨by rw [hw2]; exact Kd.R_set HO.out HBK.out (by decide) 0 _⟩; have HB2 : Aside0 (Below w.heap.size w w2) := ⟨by rw [hw2]; exact Hl.below_set_ HB.out (Nat.le_refl _)⟩; clear hbk2 hle2 htr2 hw2))
                  go_ret2
                  exact ⟨_, rfl, Kd.R_nil _ _ _ _ _, HB4.out⟩
                · have H4 := Aside0.mk (show yn ≤ r.length by omega)
                  obtain ⟨s2, hs2⟩ : ∃ s2, strOfNums (r.take yn) = s2 := ⟨_, rfl⟩
                  have HS2 := Aside0.mk hs2
                  clear h4 hs2
                  go_wp2_with (first | (go_at_call 58; refine (attr_take w3 _ A1 c1 r _ rfl yn HBK3.out (HTR2.out _ (Kd.C_below HR0.out HB3.out)) HLE2.out H4.out).mono ?_; rintro e w4 ⟨rfl, A5, c5, -, -, -, hw4⟩; rw [HS2.out]; have HB4 : Aside0 (Below w.heap.size w w4) := ⟨by rw [hw4]; exact Hl.below_set_ HB3.out (Nat.le_refl _)⟩; clear hw4) | (go_at_call 58; refine (attr_take_no w2 _ A1 c1 r.length xn HBK2.out H3.out).mono ?_; rintro e w3 ⟨rfl, hw3⟩; have HBK3 : Aside0 (w3.heap[w.heap.size]? = some (.cells #[.slice A1 r.length c1] 37 (0, 0))) := ⟨by rw [hw3]; exact HBK2.out⟩; have HB3 : Aside0 (Below w.heap.size w w3) := ⟨by rw [hw3]; exact HB2.out⟩; clear hw3) | (go_at_call 58; refine (attr_take wr _ A c ((xn : Int) :: (yn : Int) :: r) _ rfl 2 HBK.out (HRS.out _ (Kd.C_below HR0.out HB.out)) HRL.out H2.out).mono ?_; rintro e w2 ⟨rfl, A1, c1, hbk2, hle2, htr2, hw2⟩; rw [HS0.out]; have HBK2 : Aside0 (w2.heap[w.heap.size]? = some (.cells #[.slice A1 (r.length) c1] 37 (0, 0))) := ⟨hbk2⟩; have HLE2 : Aside0 (r.length ≤ c1) := ⟨hle2⟩; have HTR2 : Aside0 (∀ w1, Kd.C (Kd.int .u8) w1 A0 l0.length l0 → Kd.C (Kd.int .u8) w1 A1 r.length r) := ⟨fun w1 h1 => htr2 w1 (HRS.out w1 h1)⟩; have HO2 : Aside0 (Kd.R k26 26 w2 w.heap.size (fun _ => True) (.slice Ao ms.length co) ms) := ⟨by rw [hw2]; exact Kd.R_set HO.out HBK.out (by decide) 0 _⟩; have HB2 : Aside0 (Below w.heap.size w w2) := ⟨by rw [hw2]; exact Hl.below_set_ HB.out (Nat.le_refl _)⟩; clear hbk2 hle2 htr2 hw2))
                  go_ret2
                  exact ⟨_, rfl, Kd.R_nil _ _ _ _ _, HB4.out⟩
              · rw [if_neg h3] at hl
                have H3 := Aside0.mk (show xn ≤ r.length by omega)
                obtain ⟨s1, hs1⟩ : ∃ s1, strOfNums (r.take xn) = s1 := ⟨_, rfl⟩
                rw [hs1] at hl
                have HS1 := Aside0.mk hs1
                have HN3 := Aside0.mk (show (r.drop xn).length = r.length - xn from List.length_drop)
                clear h3 hs1
                by_cases h4 : (r.drop xn).length < yn
                · rw [if_pos h4] at hl
                  obtain ⟨rfl, rfl⟩ := Prod.mk.inj (Option.some.inj hl)
                  have H4 := Aside0.mk (show r.length - xn < yn by have := HN3.out; omega)
                  clear hl h4
                  go_wp2_with (first | (go_at_call 58; refine (attr_take_no w3 _ A4 c4 (r.length - xn) yn HBK3.out H4.out).mono ?_; rintro e w4 ⟨rfl, hw4⟩; have HB4 : Aside0 (Below w.heap.size w w4) := ⟨by rw [hw4]; exact HB3.out⟩; clear hw4) | (go_at_call 58; refine (attr_take w2 _ A1 c1 r _ rfl xn HBK2.out (HTR2.out _ (Kd.C_below HR0.out HB2.out)) HLE2.out H3.out).mono ?_; rintro e w3 ⟨rfl, A4, c4, hbk3, hle3, htr3, hw3⟩; rw [HS1.out]; have HBK3 : Aside0 (w3.heap[w.heap.size]? = some (.cells #[.slice A4 (r.length - xn) c4] 37 (0, 0))) := ⟨hbk3⟩; have HLE3 : Aside0 ((r.drop xn).length ≤ c4) := ⟨hle3⟩; have HTR3 : Aside0 (∀ w1, Kd.C (Kd.int .u8) w1 A0 l0.length l0 → Kd.C (Kd.int .u8) w1 A4 (r.drop xn).length (r.drop xn)) := ⟨fun w1 h1 => htr3 w1 (HTR2.out w1 h1)⟩; have HO3 : Aside0 (Kd.R k26 26 w3 w.heap.size (fun _ => True) (.slice Ao ms.length co) ms) := ⟨by rw [hw3]; exact Kd.R_set HO2.out HBK2.out (by decide) 0 _⟩; have HB3 : Aside0 (Below w.heap.size w w3) := ⟨by rw [hw3]; exact Hl.below_set_ HB2.out (Nat.le_refl _)⟩; clear hbk3 hle3 htr3 hw3) | (go_at_call 58; refine (attr_take wr _ A c ((xn : Int) :: (yn : Int) :: r) _ rfl 2 HBK.out (HRS.out _ (Kd.C_below HR0.out HB.out)) HRL.out H2.out).mono ?_; rintro e w2 ⟨rfl, A1, c1, hbk2, hle2, htr2, hw2⟩; rw [HS0.out]; have HBK2 : Aside0 (w2.heap[w.heap.size]? = some (.cells #[.slice A1 (r.length) c1] 37 (0, 0))) := ⟨hbk2⟩; have HLE2 : Aside0 (r.length ≤ c1) := ⟨hle2⟩; have HTR2 : Aside0 (∀ w1, Kd.C (Kd.int .u8) w1 A0 l0.length l0 → Kd.C (Kd.int .u8) w1 A1 r.length r) := ⟨fun w1 h1 => htr2 w1 (HRS.out w1 h1)⟩; have HO2 : Aside0 (Kd.R k26 26 w2 w.heap.size (fun _ => True) (.slice Ao ms.length co) ms) := ⟨by rw [hw2]; exact Kd.R_set HO.out HBK.out (by decide) 0 _⟩; have HB2 : Aside0 (Below w.heap.size w w2) := ⟨by rw [hw2]; exact Hl.below_set_ HB.out (Nat.le_refl _)⟩; clear hbk2 hle2 htr2 hw2))
                  go_ret2
                  exact ⟨_, rfl, Kd.R_nil _ _ _ _ _, HB4.out⟩
                · rw [if_neg h4] at hl
                  by_cases hms : ms.length < 4398046511104
                  · rw [if_pos hms] at hl
                    have H4 := Aside0.mk (show yn ≤ (r.drop xn).length by omega)
                    obtain ⟨s2, hs2⟩ : ∃ s2, strOfNums ((r.drop xn).take yn) = s2 := ⟨_, rfl⟩
                    rw [hs2] at hl
                    have HS2 := Aside0.mk hs2
                    have HMS := Aside0.mk hms
                    have HLL := Aside0.mk hl
                    clear h4 hs2 hms hl
                    go_wp2_with (first | ((with_reducible refine gate_builtin (b := .append) (xs := #[.tmp 60, .tmp 64]) rfl ?_); at_builtin; refine Kd.R_append k26 (w0 := w) w.heap.size rfl (.tmp 60) (.tmp 64) 22 26 (.agg #[(.string ⟨#[]⟩), (.string ⟨#[]⟩)]) 32 rfl Try.underlying22 info26 rfl (by decide) (by omega) (.slice Ao ms.length co) ms (⟨s1, s2⟩ : S26) [.string s1, .string s2] (fun _ => True) (fun _ => False) rfl rfl (k26_mkM _ _ _ (⟨s1, s2⟩ : S26)) (fun _ hk => hk.elim) (fun _ _ => trivial) HO4.out HB4.out (below_size HB4.out) (by have := HMS.out; omega) ?_; intro v5 w5 ho5 hb5 hg5 hat5; have HBK5 := Aside0.mk (blk_grown HBK4.out hg5 (Kd.R_ne HO4.out HBK4.out (by decide))); have HO5 := Aside0.mk ho5; have HB5 := Aside0.mk hb5; clear ho5 hb5 hg5 hat5) | (go_at_call 58; refine (attr_take w3 _ A4 c4 (r.drop xn) _ HN3.out yn HBK3.out (HTR3.out _ (Kd.C_below HR0.out HB3.out)) HLE3.out H4.out).mono ?_; rintro e w4 ⟨rfl, A5, c5, hbk4, hle4, htr4, hw4⟩; rw [HS2.out]; have HBK4 : Aside0 (w4.heap[w.heap.size]? = some (.cells #[.slice A5 ((r.drop xn).length - yn) c5] 37 (0, 0))) := ⟨hbk4⟩; have HLE4 : Aside0 (((r.drop xn).drop yn).length ≤ c5) := ⟨hle4⟩; have HTR4 : Aside0 (∀ w1, Kd.C (Kd.int .u8) w1 A0 l0.length l0 → Kd.C (Kd.int .u8) w1 A5 ((r.drop xn).drop yn).length ((r.drop xn).drop yn)) := ⟨fun w1 h1 => htr4 w1 (HTR3.out w1 h1)⟩; have HO4 : Aside0 (Kd.R k26 26 w4 w.heap.size (fun _ => True) (.slice Ao ms.length co) ms) := ⟨by rw [hw4]; exact Kd.R_set HO3.out HBK3.out (by decide) 0 _⟩; have HB4 : Aside0 (Below w.heap.size w w4) := ⟨by rw [hw4]; exact Hl.below_set_ HB3.out (Nat.le_refl _)⟩; clear hbk4 hle4 htr4 hw4) | (go_at_call 58; refine (attr_take w2 _ A1 c1 r _ rfl xn HBK2.out (HTR2.out _ (Kd.C_below HR0.out HB2.out)) HLE2.out H3.out).mono ?_; rintro e w3 ⟨rfl, A4, c4, hbk3, hle3, htr3, hw3⟩; rw [HS1.out]; have HBK3 : Aside0 (w3.heap[w.heap.size]? = some (.cells #[.slice A4 (r.length - xn) c4] 37 (0, 0))) := ⟨hbk3⟩; have HLE3 : Aside0 ((r.drop xn).length ≤ c4) := ⟨hle3⟩; have HTR3 : Aside0 (∀ w1, Kd.C (Kd.int .u8) w1 A0 l0.length l0 → Kd.C (Kd.int .u8) w1 A4 (r.drop xn).length (r.drop xn)) := ⟨fun w1 h1 => htr3 w1 (HTR2.out w1 h1)⟩; have HO3 : Aside0 (Kd.R k26 26 w3 w.heap.size (fun _ => True) (.slice Ao ms.length co) ms) := ⟨by rw [hw3]; exact Kd.R_set HO2.out HBK2.out (by decide) 0 _⟩; have HB3 : Aside0 (Below w.heap.size w w3) := ⟨by rw [hw3]; exact Hl.below_set_ HB2.out (Nat.le_refl _)⟩; clear hbk3 hle3 htr3 hw3) | (go_at_call 58; refine (attr_take wr _ A c ((xn : Int) :: (yn : Int) :: r) _ rfl 2 HBK.out (HRS.out _ (Kd.C_below HR0.out HB.out)) HRL.out H2.out).mono ?_; rintro e w2 ⟨rfl, A1, c1, hbk2, hle2, htr2, hw2⟩; rw [HS0.out]; have HBK2 : Aside0 (w2.heap[w.heap.size]? = some (.cells #[.slice A1 (r.length) c1] 37 (0, 0))) := ⟨hbk2⟩; have HLE2 : Aside0 (r.length ≤ c1) := ⟨hle2⟩; have HTR2 : Aside0 (∀ w1, Kd.C (Kd.int .u8) w1 A0 l0.length l0 → Kd.C (Kd.int .u8) w1 A1 r.length r) := ⟨fun w1 h1 => htr2 w1 (HRS.out w1 h1)⟩; have HO2 : Aside0 (Kd.R k26 26 w2 w.heap.size (fun _ => True) (.slice Ao ms.length co) ms) := ⟨by rw [hw2]; exact Kd.R_set HO.out HBK.out (by decide) 0 _⟩; have HB2 : Aside0 (Below w.heap.size w w2) := ⟨by rw [hw2]; exact Hl.below_set_ HB.out (Nat.le_refl _)⟩; clear hbk2 hle2 htr2 hw2))
                    go_roundg g
                    case measure => have := HK.out; omega
                    case rel => exact ⟨_, _, _, A5, c5, rfl, HLL, ⟨by have := HK.out; omega⟩, ⟨by rw [List.length_drop (i := yn)]; exact HBK5.out⟩, HTR4, HLE4, HO5, HB5⟩
                  · rw [if_neg hms] at hl
                    cases hl
            · rw [if_neg hb] at hl
              cases hl
        · rw [if_neg hi] at hl
          have hib : decide (i < nv) = false := decide_eq_false hi
          unfold attr_Decode.tail at hl
          obtain ⟨⟨eb, ee⟩, he, hl⟩ := Option.bind_eq_some_iff.1 hl
          simp only [] at hl
          have HE := Aside0.mk he
          clear he
          by_cases hee : ee = 0
          · subst hee
            rw [if_pos rfl] at hl
            obtain ⟨q, hq, hl⟩ := Option.bind_eq_some_iff.1 hl
            have HQ := Aside0.mk hq
            clear hq
            by_cases hqt : q = true
            · subst hqt
              rw [if_pos rfl] at hl
              obtain ⟨rfl, rfl⟩ := Prod.mk.inj (Option.some.inj hl)
              clear hl
              go_wp2_with (first | (go_at_call 56; refine (bytes_Equal.calls A2 c2 eb A0 c0 l0 true _ HR2.out HC2.out (Kd.C_below HR0.out HB2.out) HC0.out HQ.out).mono ?_; rintro e w3 ⟨rfl, ⟨m3, rfl⟩⟩) | (go_at_call 21; refine (attr_Encode.calls g Ao co ms eb 0 wr HR5.out HC5.out HE.out).mono ?_; rintro e w2 ⟨v2, rfl, ho2, hb2⟩; obtain ⟨A2, c2, rfl, hc2, hr2⟩ := Kd.R_reads ho2; have HR2 := Aside0.mk hr2; have HC2 := Aside0.mk hc2; have HB2 := Aside0.mk (HB.out.trans (hb2.mono HB.out.size)); have HO2 := Aside0.mk (Kd.R_below HO.out hb2); clear hc2 hr2 ho2 hb2))
              go_ret2
              exact ⟨_, rfl, Kd.R_drewN HO2.out _, pw_below_drewN HB2.out _⟩
            · obtain rfl : q = false := by simpa using hqt
              rw [if_neg (by decide)] at hl
              obtain ⟨rfl, rfl⟩ := Prod.mk.inj (Option.some.inj hl)
              clear hl hqt
              go_wp2_with (first | (go_at_call 56; refine (bytes_Equal.calls A2 c2 eb A0 c0 l0 false _ HR2.out HC2.out (Kd.C_below HR0.out HB2.out) HC0.out HQ.out).mono ?_; rintro e w3 ⟨rfl, ⟨m3, rfl⟩⟩) | (go_at_call 21; refine (attr_Encode.calls g Ao co ms eb 0 wr HR5.out HC5.out HE.out).mono ?_; rintro e w2 ⟨v2, rfl, ho2, hb2⟩; obtain ⟨A2, c2, rfl, hc2, hr2⟩ := Kd.R_reads ho2; have HR2 := Aside0.mk hr2; have HC2 := Aside0.mk hc2; have HB2 := Aside0.mk (HB.out.trans (hb2.mono HB.out.size)); clear hc2 hr2 ho2 hb2))
              go_ret2
              exact ⟨_, rfl, Kd.R_nil _ _ _ _ _, pw_below_drewN HB2.out _⟩
          · rw [if_neg hee] at hl
            obtain ⟨rfl, rfl⟩ := Prod.mk.inj (Option.some.inj hl)
            have heb : (ee != 0) = true := bne_iff_ne.2 hee
            clear hl
            go_wp2_with (go_at_call 21; refine (attr_Encode.calls g Ao co ms eb ee wr HR5.out HC5.out HE.out).mono ?_; rintro e w2 ⟨v2, rfl, ho2, hb2⟩; have HB2 := Aside0.mk (HB.out.trans (hb2.mono HB.out.size)); clear ho2 hb2)
            go_ret2
            exact ⟨_, rfl, Kd.R_nil _ _ _ _ _, HB2.out⟩
  · rw [if_neg hlen] at h
    obtain ⟨rfl, rfl⟩ := Prod.mk.inj (Option.some.inj h)
    have hlb : ((l0.length : Int) == 256) = false := beq_eq_false_iff_ne.2 (by omega)
    go_enter Try.func33, Try.ntmps33
    go_wp2
    go_ret2
    exact ⟨_, rfl, Kd.R_nil _ _ _ _ _, Below.refl _ _⟩
end Go.Proofs.Ytffaggckhneakaa.Pr
end
section
namespace Go.Proofs.Ytffaggckhneakaa.At
open Go.RowKit Go.Proofs.YtffaggckhneakaaW.PrintWords Go.Proofs.YtffaggckhneakaaW.PrintMore Go.Proofs.Ytffaggckhneakaa.Pr Go.Proofs.Ytffaggckhneakaa.Od Go.Proofs.Ytffaggckhneakaa.Cr
set_option linter.unusedVariables false
set_option linter.unusedSimpArgs false
def by_ (b : List Int) (x : Nat) : Nat := (rd b (x : Int)).toNat
def tailR (b : List Int) (ms : List E) : List E × Int := if (encR ms).2 = 0 ∧ (encR ms).1 = b then (ms, 0) else ([], 13)
def decL (b : List Int) : Nat → Nat → List E → List E × Int
  | 0, _, ms => tailR b ms
  | m + 1, x, ms => if x > 250 then ([], 13) else (if x + 2 + by_ b x + by_ b (x + 1) > 252 then ([], 13) else
      decL b m (x + 2 + by_ b x + by_ b (x + 1)) (ms ++ [⟨strOfNums ((b.take (x + 2 + by_ b x)).drop (x + 2)), strOfNums ((b.take (x + 2 + by_ b x + by_ b (x + 1))).drop (x + 2 + by_ b x))⟩]))
def decR (b : List Int) : List E × Int := if b.length = 256 then decL b (numN (b.take 2)) 2 [] else ([], 13)
theorem rd_nat {b : List Int} (hb : ∀ x ∈ b, isByte x) {x : Nat} (h : x < b.length) : rd b (x : Int) = (by_ b x : Int) ∧ by_ b x < 256 := by
  have h1 := hb _ (List.getElem_mem h)
  unfold isByte at h1
  unfold by_
  rw [rd_get h]
  omega
theorem rd_drop (b : List Int) (x i : Nat) : rd b ((x + i : Nat) : Int) = rd (b.drop x) (i : Int) := by
  unfold rd; rw [Int.toNat_natCast, Int.toNat_natCast]; simp [List.getD_eq_getElem?_getD, List.getElem?_drop]
theorem rd_take (b : List Int) (x i : Nat) (h : i < x) : rd (b.take x) (i : Int) = rd b (i : Int) := by
  unfold rd; rw [Int.toNat_natCast]; simp [List.getD_eq_getElem?_getD, List.getElem?_take, h]
theorem num2 {b : List Int} (hb : ∀ x ∈ b, isByte x) (h : 2 ≤ b.length) : numN (b.take 2) < 65536 := by
  have h1 := numN_lt (b.take 2) (fun x hx => hb x (List.mem_of_mem_take hx))
  have h2 : (b.take 2).length = 2 := by rw [List.length_take]; omega
  rw [h2] at h1
  exact h1
theorem tail_ev (b : List Int) (hb : ∀ x ∈ b, isByte x) (ms : List E) (hm : ms.length < 4398046511104) : Ev (fun k => attr_Decode.tail k b ms) (tailR b ms) := by
  unfold attr_Decode.tail tailR
  refine Ev.bind (enc_ev ms hm) ?_
  by_cases h0 : (encR ms).2 = 0
  · simp only [if_pos h0, bytes_Equal.f, Option.bind_some, str_beq]
    by_cases h1 : (encR ms).1 = b
    · simp only [h1, h0, decide_true, if_true, and_self]
      exact Ev.now _
    · have : ¬ strOfNums (encR ms).1 = strOfNums b := fun e => h1 ((strOfNums_inj (encR_byte ms) hb).1 e)
      simp only [decide_eq_false this, Bool.false_eq_true, if_false, h1, and_false]
      exact Ev.now _
  · simp only [if_neg h0, h0, false_and, if_false]
    exact Ev.now _
theorem dec_ev (b : List Int) (hb : ∀ x ∈ b, isByte x) : Ev (fun k => attr_Decode.f k b) (decR b) := by
  unfold attr_Decode.f decR
  by_cases hl : b.length = 256
  · simp only [if_pos hl]
    have h2 := num2 hb (by omega)
    refine Ev.bind (crc_number_ev _ (by rw [List.length_take]; omega) (fun x hx => hb x (List.mem_of_mem_take hx))) ?_
    simp only []
    generalize numN (b.take 2) = n at h2
    have key : ∀ (m i x : Nat) (ms : List E), i + m = n → ms.length ≤ i → x ≤ 252 → Ev (fun k => attr_Decode.l0 k b (n : Int) (i : Int) ((b.take 252).drop x) ms) (decL b m x ms) := by
      intro m
      induction m with
      | zero =>
        intro i x ms hi hm hx
        refine Ev.succ ?_
        simp only [attr_Decode.l0, if_neg (show ¬((i : Int) < (n : Int)) by omega), decL]
        exact tail_ev b hb ms (by omega)
      | succ m ih =>
        intro i x ms hi hm hx
        refine Ev.succ ?_
        have hrl : ((b.take 252).drop x).length = 252 - x := by rw [List.length_drop, List.length_take]; omega
        simp only [attr_Decode.l0, if_pos (show ((i : Int) < (n : Int)) by omega), decL, hrl]
        by_cases hx2 : x > 250
        · simp only [if_pos hx2, if_pos (show 252 - x < 2 by omega)]
          exact Ev.now _
        · obtain ⟨e0, g0⟩ := rd_nat hb (x := x) (by omega)
          obtain ⟨e1, g1⟩ := rd_nat hb (x := x + 1) (by omega)
          have f0 : rd ((b.take 252).drop x) 0 = (by_ b x : Int) := by
            have := rd_drop (b.take 252) x 0
            rw [Nat.add_zero, rd_take b 252 x (by omega), e0] at this
            exact this.symm
          have f1 : rd ((b.take 252).drop x) 1 = (by_ b (x + 1) : Int) := by
            have := rd_drop (b.take 252) x 1
            rw [rd_take b 252 (x + 1) (by omega), e1] at this
            exact this.symm
          simp only [if_neg hx2, if_neg (show ¬ 252 - x < 2 by omega), f0, f1, Int.toNat_natCast]
          generalize hn : by_ b x = p at g0 ⊢
          generalize hv : by_ b (x + 1) = q at g1 ⊢
          simp only [if_pos (show 0 ≤ (p : Int) ∧ (p : Int) < 256 ∧ 0 ≤ (q : Int) ∧ (q : Int) < 256 by omega), List.drop_drop, List.length_drop, List.length_take, hl, show min 252 256 = 252 from rfl]
          by_cases hp : 252 - (x + 2) < p
          · simp only [if_pos hp, if_pos (show x + 2 + p + q > 252 by omega)]
            exact Ev.now _
          · simp only [if_neg hp]
            by_cases hq : 252 - (x + 2 + p) < q
            · simp only [if_pos hq, if_pos (show x + 2 + p + q > 252 by omega)]
              exact Ev.now _
            · simp only [if_neg hq, if_neg (show ¬ x + 2 + p + q > 252 by omega), if_pos (show ms.length < 4398046511104 by omega)]
              have t0 : ((b.take 252).drop (x + 2)).take p = (b.take (x + 2 + p)).drop (x + 2) := by
                rw [List.take_drop, List.take_take, Nat.min_eq_left (by omega)]
              have t1 : ((b.take 252).drop (x + 2 + p)).take q = (b.take (x + 2 + p + q)).drop (x + 2 + p) := by
                rw [List.take_drop, List.take_take, Nat.min_eq_left (by omega)]
              rw [t0, t1, show IntKind.u64.wrap ((i : Int) + 1) = ((i + 1 : Nat) : Int) by rw [u64w]; omega]
              exact ih (i + 1) (x + 2 + p + q) _ (by omega) (by rw [List.length_append]; simp; omega) (by omega)
    exact key n 0 2 [] (by omega) (by simp) (by omega)
  · simp only [if_neg hl]
    exact Ev.now _
theorem decL_len (b : List Int) : ∀ (m x : Nat) (ms : List E), (decL b m x ms).1.length ≤ ms.length + m
  | 0, x, ms => by
    simp only [decL, tailR]
    split <;> simp
  | m + 1, x, ms => by
    simp only [decL]
    split
    · simp
    · split
      · simp
      · refine Nat.le_trans (decL_len b m _ _) ?_
        rw [List.length_append]; simp; omega
theorem decR_len {b : List Int} (hb : ∀ x ∈ b, isByte x) : (decR b).1.length < 4398046511104 := by
  unfold decR
  by_cases h : b.length = 256
  · rw [if_pos h]
    have := decL_len b (numN (b.take 2)) 2 []
    have h2 := num2 hb (by omega)
    simp only [List.length_nil] at this
    omega
  · rw [if_neg h]; simp
end Go.Proofs.Ytffaggckhneakaa.At
end
