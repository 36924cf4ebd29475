/- The functions that this seat's laws reach, each as a function in Lean (NAME.f) with its contract (NAME.calls): printed by the kit's print.py; those that it does not take by hand. Conditions: those that each contract names. Lean checks it all. -/
import Derived.Test.YtdobcojmfhdinaaPr0
namespace Go.Proofs.Ytdobcojmfhdinaa.Pr
open Go.RowKit Go.Proofs.YtdobcojmfhdinaaW.PrintWords Go.Proofs.YtdobcojmfhdinaaW.PrintLast Go.Proofs.YtdobcojmfhdinaaW.PrintMore
attribute [local go_sem] max2_int min2_int max_two min_two max_three min_three max_four min_four   -- for this text's walks alone
set_option linter.unusedVariables false
set_option linter.unusedSimpArgs false

/-! ### undercroftref15_Check: function 17 -/
mutual
def undercroftref15_Check.l0 : Nat → List (S33) → Int → Int → Option (Int)
  | 0, _, _, _ => none
  | k + 1, x0, x3, x4 => if x4 < (x0.length : Int) then (if 0 ≤ x4 then (if ((rd_T33 x0 x4).f0) ≤ x3 then (undercroftref15_Check.j1 k x0 x4 (((rd_T33 x0 x4).f1).size : Int) true) else (if (((rd_T33 x0 x4).f1).size : Int) = 0 then (undercroftref15_Check.j1 k x0 x4 (((rd_T33 x0 x4).f1).size : Int) true) else (if (((rd_T33 x0 x4).f1).size : Int) > 65536 then (undercroftref15_Check.j1 k x0 x4 (((rd_T33 x0 x4).f1).size : Int) true) else (undercroftref15_Check.j1 k x0 x4 (((rd_T33 x0 x4).f1).size : Int) (decide (((rd_T33 x0 x4).f0) > (wrap64 (65536 - (((rd_T33 x0 x4).f1).size : Int))))))))) else (none)) else (some 0)
def undercroftref15_Check.j1 : Nat → List (S33) → Int → Int → Bool → Option (Int)
  | 0, _, _, _, _ => none
  | k + 1, x0, x4, x5, x43 => if x43 = true then (some 1) else (undercroftref15_Check.l1 k x0 x4 x5 0)
def undercroftref15_Check.l1 : Nat → List (S33) → Int → Int → Int → Option (Int)
  | 0, _, _, _, _ => none
  | k + 1, x0, x4, x5, x6 => if x6 < x5 then (if 0 ≤ x4 then (if x4 < (x0.length : Int) then (if 0 ≤ x6 then (if x6 < (((rd_T33 x0 x4).f1).size : Int) then (if (bt ((rd_T33 x0 x4).f1) x6) = 0 then (some 1) else (undercroftref15_Check.l1 k x0 x4 x5 (wrap64 (x6 + 1)))) else (none)) else (none)) else (none)) else (none)) else (if 0 ≤ x4 then (if x4 < (x0.length : Int) then (undercroftref15_Check.l0 k x0 (wrap64 (((rd_T33 x0 x4).f0) + x5)) (wrap64 (x4 + 1))) else (none)) else (none))
end
def undercroftref15_Check.f (k : Nat) (l0 : List (S33)) : Option (Int) := undercroftref15_Check.l0 k l0 (-1) 0
theorem undercroftref15_Check.mono_l : ∀ k, (∀ y0 y1 y2, LeO (undercroftref15_Check.l0 k y0 y1 y2) (undercroftref15_Check.l0 (k + 1) y0 y1 y2)) ∧ (∀ y0 y1 y2 y3, LeO (undercroftref15_Check.j1 k y0 y1 y2 y3) (undercroftref15_Check.j1 (k + 1) y0 y1 y2 y3)) ∧ (∀ y0 y1 y2 y3, LeO (undercroftref15_Check.l1 k y0 y1 y2 y3) (undercroftref15_Check.l1 (k + 1) y0 y1 y2 y3))
  | 0 => ⟨fun _ _ _ r h => by simp [undercroftref15_Check.l0] at h, fun _ _ _ _ r h => by simp [undercroftref15_Check.j1] at h, fun _ _ _ _ r h => by simp [undercroftref15_Check.l1] at h⟩
  | k + 1 => by
    obtain ⟨ih0, ih1, ih2⟩ := undercroftref15_Check.mono_l k
    refine ⟨?_, ?_, ?_⟩
    · intro y0 y1 y2
      unfold undercroftref15_Check.l0
      repeat' first
      | (with_reducible exact ih0 _ _ _)
      | (with_reducible exact ih1 _ _ _ _)
      | (with_reducible exact ih2 _ _ _ _)
      | (with_reducible exact LeO.refl _)
      | (with_reducible exact LeO.none _)
      | (with_reducible refine LeO.ite ?_ ?_)
      | (with_reducible refine LeO.bind ?_ (fun _ => ?_))
      | exact ih0 _ _ _
      | exact ih1 _ _ _ _
      | exact ih2 _ _ _ _
      | exact LeO.none _
      | refine LeO.ite ?_ ?_
      | refine LeO.bind ?_ (fun _ => ?_)
    · intro y0 y1 y2 y3
      unfold undercroftref15_Check.j1
      repeat' first
      | (with_reducible exact ih0 _ _ _)
      | (with_reducible exact ih1 _ _ _ _)
      | (with_reducible exact ih2 _ _ _ _)
      | (with_reducible exact LeO.refl _)
      | (with_reducible exact LeO.none _)
      | (with_reducible refine LeO.ite ?_ ?_)
      | (with_reducible refine LeO.bind ?_ (fun _ => ?_))
      | exact ih0 _ _ _
      | exact ih1 _ _ _ _
      | exact ih2 _ _ _ _
      | exact LeO.none _
      | refine LeO.ite ?_ ?_
      | refine LeO.bind ?_ (fun _ => ?_)
    · intro y0 y1 y2 y3
      unfold undercroftref15_Check.l1
      repeat' first
      | (with_reducible exact ih0 _ _ _)
      | (with_reducible exact ih1 _ _ _ _)
      | (with_reducible exact ih2 _ _ _ _)
      | (with_reducible exact LeO.refl _)
      | (with_reducible exact LeO.none _)
      | (with_reducible refine LeO.ite ?_ ?_)
      | (with_reducible refine LeO.bind ?_ (fun _ => ?_))
      | exact ih0 _ _ _
      | exact ih1 _ _ _ _
      | exact ih2 _ _ _ _
      | exact LeO.none _
      | refine LeO.ite ?_ ?_
      | refine LeO.bind ?_ (fun _ => ?_)
theorem undercroftref15_Check.mono : ∀ a0 k, LeO (undercroftref15_Check.f k a0) (undercroftref15_Check.f (k + 1) a0) := by
  intro a0 k
  obtain ⟨ih0, ih1, ih2⟩ := undercroftref15_Check.mono_l k
  unfold undercroftref15_Check.f
  repeat' first
      | (with_reducible exact ih0 _ _ _)
      | (with_reducible exact ih1 _ _ _ _)
      | (with_reducible exact ih2 _ _ _ _)
      | (with_reducible exact LeO.refl _)
      | (with_reducible exact LeO.none _)
      | (with_reducible refine LeO.ite ?_ ?_)
      | (with_reducible refine LeO.bind ?_ (fun _ => ?_))
      | exact ih0 _ _ _
      | exact ih1 _ _ _ _
      | exact ih2 _ _ _ _
      | exact LeO.none _
      | refine LeO.ite ?_ ?_
      | refine LeO.bind ?_ (fun _ => ?_)
set_option maxHeartbeats 8000000 in
set_option maxRecDepth 100000 in
theorem undercroftref15_Check.calls (k : Nat) (A0 : Option Addr) (c0 : Nat) (l0 : List (S33)) (r : Int) (w : World) (hr0 : Kd.C k33 w A0 l0.length l0) (hc0 : l0.length ≤ c0) (h : undercroftref15_Check.f k l0 = some r) :
    Calls Try.prog 17 #[.slice A0 l0.length c0] w fun e w' => e = .returned (.int .i64 r) ∧ Drawn0 w w' := by
  have HR0 := Aside0.mk hr0
  have HC0 := Aside0.mk hc0
  clear hr0 hc0
  have H : (undercroftref15_Check.l0 k l0 (-1) 0) = some r := h
  clear h
  have H' := Aside0.mk H
  clear H
  go_enter Try.func17, Try.ntmps17
  go_wp2
  go_loopg [3, 4] k (fun kq v3 v4 w' => ∃ (x3_1 : Int) (x4_1 : Int), v3 = .int .i64 x3_1 ∧ v4 = .int .i64 x4_1 ∧ Aside0 (undercroftref15_Check.l0 kq l0 x3_1 x4_1 = some r) ∧ Aside0 (kq ≤ k) ∧ Drawn0 w w')
  case atStart => exact ⟨((-1)), (0), (by first | rfl | (simp; done) | (simp [*]; done)), (by first | rfl | (simp; done) | (simp [*]; done)), H', ⟨Nat.le_refl _⟩, by repeat (first | exact Drawn0.refl _ | apply Drawn0.step)⟩
  case round =>
    clear H'
    try clear c1
    obtain ⟨x3_1, x4_1, rfl, rfl, HA, HK1, ⟨m1, rfl⟩⟩ := hrel
    cases gk with
    | zero => exact absurd HA.out (by simp [undercroftref15_Check.l0])
    | succ k1 =>
      have H := HA.out
      clear HA
      simp only [undercroftref15_Check.l0] at H
      by_cases c2 : x4_1 < (l0.length : Int)
      · rw [if_pos c2] at H
        have c2b0 : decide (x4_1 < (l0.length : Int)) = true := decide_eq_true c2
        clear c2
        by_cases c3 : 0 ≤ x4_1
        · rw [if_pos c3] at H
          have c3b0 : decide (0 ≤ x4_1) = true := decide_eq_true c3
          clear c3
          have HC4 := Aside0.mk H
          clear H
          have p137 : 0 ≤ (x4_1 : Int) := of_decide_eq_true (by first | (with_reducible assumption) | assumption)
          have q137 : x4_1 < (l0.length : Int) := of_decide_eq_true (by first | (with_reducible assumption) | assumption)
          obtain ⟨ad137, e137, hx137_0, hx137_1⟩ := at_T33 HR0.out x4_1 p137 q137
          cases e137
          replace p137 := eq_true p137
          replace q137 := eq_true q137
          go_upto_region 6 with (fail)
          go_cut [43] (fun v43 wc => ∃ (kq : Nat) (x43_3 : Bool), v43 = .bool x43_3 ∧ Aside0 (undercroftref15_Check.j1 kq l0 x4_1 (((rd_T33 l0 x4_1).f1).size : Int) x43_3 = some r) ∧ Aside0 (kq ≤ k1) ∧ Drawn0 w wc)
          case first =>
            have H := HC4.out
            clear HC4
            by_cases c5 : ((rd_T33 l0 x4_1).f0) ≤ x3_1
            · rw [if_pos c5] at H
              have c5b0 : decide (((rd_T33 l0 x4_1).f0) ≤ x3_1) = true := decide_eq_true c5
              clear c5
              (first | rw [c5b0] | (simp only [i64_w, i32_w]; rw [c5b0]) | skip)
              have H' := Aside0.mk H
              clear H
              have p138 : 0 ≤ (x4_1 : Int) := of_decide_eq_true (by first | (with_reducible assumption) | assumption)
              have q138 : x4_1 < (l0.length : Int) := of_decide_eq_true (by first | (with_reducible assumption) | assumption)
              obtain ⟨ad138, e138, hx138_0, hx138_1⟩ := at_T33 HR0.out x4_1 p138 q138
              obtain rfl : ad137 = ad138 := (by injection e138)
              replace p138 := eq_true p138
              replace q138 := eq_true q138
              go_wp2
              go_meet
              case rel => exact ⟨_, (true), (by first | rfl | (simp; done) | (simp [*]; done)), H', ⟨by have := HK1.out; first | omega | exact Nat.le_refl _⟩, by repeat (first | exact Drawn0.refl _ | apply Drawn0.step)⟩
            · rw [if_neg c5] at H
              have c5b0 : decide (((rd_T33 l0 x4_1).f0) ≤ x3_1) = false := decide_eq_false c5
              clear c5
              (first | rw [c5b0] | (simp only [i64_w, i32_w]; rw [c5b0]) | skip)
              by_cases c6 : (((rd_T33 l0 x4_1).f1).size : Int) = 0
              · rw [if_pos c6] at H
                have c6b0 : ((((rd_T33 l0 x4_1).f1).size : Int) == 0) = true := beq_iff_eq.mpr c6
                have c6b1 : ((((rd_T33 l0 x4_1).f1).size : Int) != 0) = false := bne_eq_false_iff_eq.mpr c6
                clear c6
                have H' := Aside0.mk H
                clear H
                have p138 : 0 ≤ (x4_1 : Int) := of_decide_eq_true (by first | (with_reducible assumption) | assumption)
                have q138 : x4_1 < (l0.length : Int) := of_decide_eq_true (by first | (with_reducible assumption) | assumption)
                obtain ⟨ad138, e138, hx138_0, hx138_1⟩ := at_T33 HR0.out x4_1 p138 q138
                obtain rfl : ad137 = ad138 := (by injection e138)
                replace p138 := eq_true p138
                replace q138 := eq_true q138
                go_wp2
                go_meet
                case rel => exact ⟨_, (true), (by first | rfl | (simp; done) | (simp [*]; done)), H', ⟨by have := HK1.out; first | omega | exact Nat.le_refl _⟩, by repeat (first | exact Drawn0.refl _ | apply Drawn0.step)⟩
              · rw [if_neg c6] at H
                have c6b0 : ((((rd_T33 l0 x4_1).f1).size : Int) == 0) = false := beq_eq_false_iff_ne.mpr c6
                have c6b1 : ((((rd_T33 l0 x4_1).f1).size : Int) != 0) = true := bne_iff_ne.mpr c6
                by_cases c7 : (((rd_T33 l0 x4_1).f1).size : Int) > 65536
                · rw [if_pos c7] at H
                  have c7b0 : decide (65536 < (((rd_T33 l0 x4_1).f1).size : Int)) = true := decide_eq_true c7
                  have c7b1 : decide (65536 < ((rd_T33 l0 x4_1).f1).size) = true := decide_eq_true (by omega)
                  clear c7
                  have H' := Aside0.mk H
                  clear H
                  have p138 : 0 ≤ (x4_1 : Int) := of_decide_eq_true (by first | (with_reducible assumption) | assumption)
                  have q138 : x4_1 < (l0.length : Int) := of_decide_eq_true (by first | (with_reducible assumption) | assumption)
                  obtain ⟨ad138, e138, hx138_0, hx138_1⟩ := at_T33 HR0.out x4_1 p138 q138
                  obtain rfl : ad137 = ad138 := (by injection e138)
                  replace p138 := eq_true p138
                  replace q138 := eq_true q138
                  go_wp2
                  go_meet
                  case rel => exact ⟨_, (true), (by first | rfl | (simp; done) | (simp [*]; done)), H', ⟨by have := HK1.out; first | omega | exact Nat.le_refl _⟩, by repeat (first | exact Drawn0.refl _ | apply Drawn0.step)⟩
                · rw [if_neg c7] at H
                  have c7b0 : decide (65536 < (((rd_T33 l0 x4_1).f1).size : Int)) = false := decide_eq_false c7
                  have c7b1 : decide (65536 < ((rd_T33 l0 x4_1).f1).size) = false := decide_eq_false (by omega)
                  clear c7
                  have H' := Aside0.mk H
                  clear H
                  have p138 : 0 ≤ (x4_1 : Int) := of_decide_eq_true (by first | (with_reducible assumption) | assumption)
                  have q138 : x4_1 < (l0.length : Int) := of_decide_eq_true (by first | (with_reducible assumption) | assumption)
                  obtain ⟨ad138, e138, hx138_0, hx138_1⟩ := at_T33 HR0.out x4_1 p138 q138
                  obtain rfl : ad137 = ad138 := (by injection e138)
                  replace p138 := eq_true p138
                  replace q138 := eq_true q138
                  have p139 : 0 ≤ (x4_1 : Int) := of_decide_eq_true (by first | (with_reducible assumption) | assumption)
                  have q139 : x4_1 < (l0.length : Int) := of_decide_eq_true (by first | (with_reducible assumption) | assumption)
                  obtain ⟨ad139, e139, hx139_0, hx139_1⟩ := at_T33 HR0.out x4_1 p139 q139
                  obtain rfl : ad137 = ad139 := (by injection e139)
                  replace p139 := eq_true p139
                  replace q139 := eq_true q139
                  go_wp2
                  go_meet
                  case rel => exact ⟨_, (decide (((rd_T33 l0 x4_1).f0) > (wrap64 (65536 - (((rd_T33 l0 x4_1).f1).size : Int))))), (by first | rfl | (simp; done) | (simp [*]; done)), H', ⟨by have := HK1.out; first | omega | exact Nat.le_refl _⟩, by repeat (first | exact Drawn0.refl _ | apply Drawn0.step)⟩
          case rest =>
            clear HC4
            try clear c1
            try clear p1
            try clear q1
            try clear hx1
            try clear c2
            try clear c2b0
            try clear p2
            try clear c3
            try clear c3b0
            try clear c5
            try clear c5b0
            try clear c6
            try clear c6b0
            try clear c6b1
            try clear p6
            try clear c7
            try clear c7b0
            try clear c7b1
            try clear hx137_0
            try clear hx137_1
            try clear hx138_0
            try clear hx138_1
            try clear hx139_0
            try clear hx139_1
            try clear p137
            try clear p138
            try clear p139
            try clear q137
            try clear q138
            try clear q139
            obtain ⟨kq, x43_3, rfl, HA, HJ3, ⟨mc3, rfl⟩⟩ := hcut
            cases kq with
            | zero => exact absurd HA.out (by simp [undercroftref15_Check.j1])
            | succ kj3 =>
              have H := HA.out
              clear HA
              simp only [undercroftref15_Check.j1] at H
              by_cases c8 : x43_3 = true
              · subst c8
                have H1 : (some 1) = some r := by rw [if_pos rfl] at H; exact H
                clear H
                have H := H1
                clear H1
                obtain rfl := Option.some.inj H
                go_wp2
                go_ret
                exact ⟨by first | rfl | (simp; done) | (simp [*]; done), by repeat (first | exact Drawn0.refl _ | apply Drawn0.step)⟩
              · replace c8 := Bool.eq_false_iff.mpr c8
                subst c8
                have H1 : (undercroftref15_Check.l1 kj3 l0 x4_1 (((rd_T33 l0 x4_1).f1).size : Int) 0) = some r := by rw [if_neg (show ¬ (false = true) by decide)] at H; exact H
                clear H
                have H := H1
                clear H1
                have H' := Aside0.mk H
                clear H
                go_wp2
                go_loopg [6] kj3 (fun kq v6 w' => ∃ (x6_3 : Int), v6 = .int .i64 x6_3 ∧ Aside0 (undercroftref15_Check.l1 kq l0 x4_1 (((rd_T33 l0 x4_1).f1).size : Int) x6_3 = some r) ∧ Aside0 (kq ≤ kj3) ∧ Drawn0 w w')
                case atStart => exact ⟨(0), (by first | rfl | (simp; done) | (simp [*]; done)), H', ⟨Nat.le_refl _⟩, by repeat (first | exact Drawn0.refl _ | apply Drawn0.step)⟩
                case round =>
                  clear H'
                  try clear c1
                  try clear p1
                  try clear q1
                  try clear hx1
                  try clear c2
                  try clear c2b0
                  try clear p2
                  try clear c3
                  try clear c3b0
                  try clear c5
                  try clear c5b0
                  try clear c6
                  try clear c6b0
                  try clear c6b1
                  try clear p6
                  try clear c7
                  try clear c7b0
                  try clear c7b1
                  try clear c8
                  try clear hx137_0
                  try clear hx137_1
                  try clear hx138_0
                  try clear hx138_1
                  try clear hx139_0
                  try clear hx139_1
                  try clear p1
                  try clear p137
                  try clear p138
                  try clear p139
                  try clear p2
                  try clear p6
                  try clear q1
                  try clear q137
                  try clear q138
                  try clear q139
                  obtain ⟨x6_3, rfl, HA, HK3, ⟨m3, rfl⟩⟩ := hrel
                  cases gk with
                  | zero => exact absurd HA.out (by simp [undercroftref15_Check.l1])
                  | succ k3 =>
                    have H := HA.out
                    clear HA
                    simp only [undercroftref15_Check.l1] at H
                    by_cases c9 : x6_3 < (((rd_T33 l0 x4_1).f1).size : Int)
                    · rw [if_pos c9] at H
                      have c9b0 : decide (x6_3 < (((rd_T33 l0 x4_1).f1).size : Int)) = true := decide_eq_true c9
                      clear c9
                      by_cases c10 : 0 ≤ x4_1
                      · rw [if_pos c10] at H
                        have c10b0 : decide (0 ≤ x4_1) = true := decide_eq_true c10
                        clear c10
                        by_cases c11 : x4_1 < (l0.length : Int)
                        · rw [if_pos c11] at H
                          have c11b0 : decide (x4_1 < (l0.length : Int)) = true := decide_eq_true c11
                          clear c11
                          by_cases c12 : 0 ≤ x6_3
                          · rw [if_pos c12] at H
                            have c12b0 : decide (0 ≤ x6_3) = true := decide_eq_true c12
                            clear c12
                            by_cases c13 : x6_3 < (((rd_T33 l0 x4_1).f1).size : Int)
                            · rw [if_pos c13] at H
                              have c13b0 : decide (x6_3 < (((rd_T33 l0 x4_1).f1).size : Int)) = true := decide_eq_true c13
                              clear c13
                              by_cases c15 : (bt ((rd_T33 l0 x4_1).f1) x6_3) = 0
                              · rw [if_pos c15] at H
                                have c15b0 : ((bt ((rd_T33 l0 x4_1).f1) x6_3) == 0) = true := beq_iff_eq.mpr c15
                                have c15b1 : ((bt ((rd_T33 l0 x4_1).f1) x6_3) != 0) = false := bne_eq_false_iff_eq.mpr c15
                                clear c15
                                obtain rfl := Option.some.inj H
                                have p140 : 0 ≤ (x4_1 : Int) := of_decide_eq_true (by first | (with_reducible assumption) | assumption)
                                have q140 : x4_1 < (l0.length : Int) := of_decide_eq_true (by first | (with_reducible assumption) | assumption)
                                obtain ⟨ad140, e140, hx140_0, hx140_1⟩ := at_T33 HR0.out x4_1 p140 q140
                                obtain rfl : ad137 = ad140 := (by injection e140)
                                replace p140 := eq_true p140
                                replace q140 := eq_true q140
                                have p14 : 0 ≤ (x6_3 : Int) := of_decide_eq_true (by first | (with_reducible assumption) | assumption)
                                have q14 : x6_3 < (((rd_T33 l0 x4_1).f1).size : Int) := of_decide_eq_true (by first | (with_reducible assumption) | assumption)
                                have hx14 := bt_at ((rd_T33 l0 x4_1).f1) x6_3
                                replace p14 := eq_true p14
                                replace q14 := eq_true q14
                                go_wp2
                                go_ret
                                exact ⟨by first | rfl | (simp; done) | (simp [*]; done), by repeat (first | exact Drawn0.refl _ | apply Drawn0.step)⟩
                              · rw [if_neg c15] at H
                                have c15b0 : ((bt ((rd_T33 l0 x4_1).f1) x6_3) == 0) = false := beq_eq_false_iff_ne.mpr c15
                                have c15b1 : ((bt ((rd_T33 l0 x4_1).f1) x6_3) != 0) = true := bne_iff_ne.mpr c15
                                have H' := Aside0.mk H
                                clear H
                                have p140 : 0 ≤ (x4_1 : Int) := of_decide_eq_true (by first | (with_reducible assumption) | assumption)
                                have q140 : x4_1 < (l0.length : Int) := of_decide_eq_true (by first | (with_reducible assumption) | assumption)
                                obtain ⟨ad140, e140, hx140_0, hx140_1⟩ := at_T33 HR0.out x4_1 p140 q140
                                obtain rfl : ad137 = ad140 := (by injection e140)
                                replace p140 := eq_true p140
                                replace q140 := eq_true q140
                                have p14 : 0 ≤ (x6_3 : Int) := of_decide_eq_true (by first | (with_reducible assumption) | assumption)
                                have q14 : x6_3 < (((rd_T33 l0 x4_1).f1).size : Int) := of_decide_eq_true (by first | (with_reducible assumption) | assumption)
                                have hx14 := bt_at ((rd_T33 l0 x4_1).f1) x6_3
                                replace p14 := eq_true p14
                                replace q14 := eq_true q14
                                go_wp2
                                go_roundg k3
                                case measure => have := HK1.out; have := HJ3.out; have := HK3.out; omega
                                case rel => exact ⟨(wrap64 (x6_3 + 1)), (by first | rfl | (simp; done) | (simp [*]; done)), H', ⟨by have := HK1.out; have := HJ3.out; have := HK3.out; omega⟩, by repeat (first | exact Drawn0.refl _ | apply Drawn0.step)⟩
                            · rw [if_neg c13] at H
                              exact absurd H (by simp)
                          · rw [if_neg c12] at H
                            exact absurd H (by simp)
                        · rw [if_neg c11] at H
                          exact absurd H (by simp)
                      · rw [if_neg c10] at H
                        exact absurd H (by simp)
                    · rw [if_neg c9] at H
                      have c9b0 : decide (x6_3 < (((rd_T33 l0 x4_1).f1).size : Int)) = false := decide_eq_false c9
                      clear c9
                      by_cases c16 : 0 ≤ x4_1
                      · rw [if_pos c16] at H
                        have c16b0 : decide (0 ≤ x4_1) = true := decide_eq_true c16
                        clear c16
                        by_cases c17 : x4_1 < (l0.length : Int)
                        · rw [if_pos c17] at H
                          have c17b0 : decide (x4_1 < (l0.length : Int)) = true := decide_eq_true c17
                          clear c17
                          have H' := Aside0.mk H
                          clear H
                          have p141 : 0 ≤ (x4_1 : Int) := of_decide_eq_true (by first | (with_reducible assumption) | assumption)
                          have q141 : x4_1 < (l0.length : Int) := of_decide_eq_true (by first | (with_reducible assumption) | assumption)
                          obtain ⟨ad141, e141, hx141_0, hx141_1⟩ := at_T33 HR0.out x4_1 p141 q141
                          obtain rfl : ad137 = ad141 := (by injection e141)
                          replace p141 := eq_true p141
                          replace q141 := eq_true q141
                          go_wp2
                          go_roundg k3
                          case measure => have := HK1.out; have := HJ3.out; have := HK3.out; omega
                          case rel => exact ⟨(wrap64 (((rd_T33 l0 x4_1).f0) + (((rd_T33 l0 x4_1).f1).size : Int))), (wrap64 (x4_1 + 1)), (by first | rfl | (simp; done) | (simp [*]; done)), (by first | rfl | (simp; done) | (simp [*]; done)), H', ⟨by have := HK1.out; have := HJ3.out; have := HK3.out; omega⟩, by repeat (first | exact Drawn0.refl _ | apply Drawn0.step)⟩
                        · rw [if_neg c17] at H
                          exact absurd H (by simp)
                      · rw [if_neg c16] at H
                        exact absurd H (by simp)
        · rw [if_neg c3] at H
          exact absurd H (by simp)
      · rw [if_neg c2] at H
        have c2b0 : decide (x4_1 < (l0.length : Int)) = false := decide_eq_false c2
        clear c2
        obtain rfl := Option.some.inj H
        go_wp2
        go_ret
        exact ⟨by first | rfl | (simp; done) | (simp [*]; done), by repeat (first | exact Drawn0.refl _ | apply Drawn0.step)⟩

end Go.Proofs.Ytdobcojmfhdinaa.Pr
