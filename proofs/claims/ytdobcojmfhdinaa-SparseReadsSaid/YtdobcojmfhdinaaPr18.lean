/- The functions that this seat's laws reach, each as a function in Lean (NAME.f) with its contract (NAME.calls): printed by the kit's print.py; those that it does not take by hand. Conditions: those that each contract names. Lean checks it all. -/
import Derived.Test.YtdobcojmfhdinaaPr0
import Derived.Test.YtdobcojmfhdinaaPr6
import Derived.Test.YtdobcojmfhdinaaPr15
import Derived.Test.YtdobcojmfhdinaaPr16
import Derived.Test.YtdobcojmfhdinaaPr17
namespace Go.Proofs.Ytdobcojmfhdinaa.Pr
open Go.RowKit Go.Proofs.YtdobcojmfhdinaaW.PrintWords Go.Proofs.YtdobcojmfhdinaaW.PrintLast Go.Proofs.YtdobcojmfhdinaaW.PrintMore
attribute [local go_sem] max2_int min2_int max_two min_two max_three min_three max_four min_four   -- for this text's walks alone
set_option linter.unusedVariables false
set_option linter.unusedSimpArgs false

/-! ### undercroftref15_Put: function 12 (by hand) -/
def refPad (b : List Int) (n : Nat) : List Int := b ++ List.replicate (n - b.length) 0
def undercroftref15_Put.f (k : Nat) (l0 : List S33) (a1 : Int) (a2 : ByteArray) : Option (List S33 × Int) :=
  (undercroftref15_Check.f k l0).bind fun e => if e ≠ 0 ∨ a1 < 0 then some ([], 1) else if (a2.size : Int) > 65536 ∨ a1 > 65536 - a2.size then some ([], 10) else
    (undercroftref15_Spread.f k l0).bind fun b => (undercroftref15_Gather.f k (refSplice (refPad b (a1.toNat + a2.size)) a1.toNat a2)).bind fun r => some (r, 0)
theorem undercroftref15_Put.mono : ∀ a0 a1 a2 k, LeO (undercroftref15_Put.f k a0 a1 a2) (undercroftref15_Put.f (k + 1) a0 a1 a2) := by
  intro a0 a1 a2 k
  unfold undercroftref15_Put.f
  refine LeO.bind (undercroftref15_Check.mono _ _) fun _ => LeO.ite (LeO.refl _) (LeO.ite (LeO.refl _) (LeO.bind (undercroftref15_Spread.mono _ _) fun _ => LeO.bind (undercroftref15_Gather.mono _ _) fun _ => LeO.refl _))
set_option maxHeartbeats 8000000 in
set_option maxRecDepth 100000 in
theorem undercroftref15_Put.calls (k : Nat) (A0 : Option Addr) (c0 : Nat) (l0 : List (S33)) (a1 : Int) (a2 : ByteArray) (r1 : List (S33)) (r2 : Int) (w : World) (hr0 : Kd.C k33 w A0 l0.length l0) (hc0 : l0.length ≤ c0) (h : undercroftref15_Put.f k l0 a1 a2 = some (r1, r2)) :
    Calls Try.prog 12 #[.slice A0 l0.length c0, .int .i64 a1, .string a2] w fun e w' => ∃ v0_ : Value, e = .returned (.tuple #[v0_, .int .i64 r2]) ∧ Kd.R k33 33 w' w.heap.size (fun _ => True) v0_ r1 ∧ Below w.heap.size w w' := by
  unfold undercroftref15_Put.f at h
  obtain ⟨e, he, h⟩ := Option.bind_eq_some_iff.1 h
  have HE := Aside0.mk he
  have HR0 := Aside0.mk hr0
  have HC0 := Aside0.mk hc0
  clear he hr0 hc0
  by_cases c1 : e ≠ 0 ∨ a1 < 0
  · rw [if_pos c1] at h
    have h2 := Option.some.inj h
    injection h2 with h3 h4
    subst h3 h4
    clear h
    by_cases c2 : e = 0
    · have c3 : a1 < 0 := by rcases c1 with c1 | c1 <;> first | exact absurd c2 c1 | exact c1
      have b1 : (e != 0) = false := by simpa using c2
      have b2 : decide (a1 < 0) = true := by simpa using c3
      clear c1 c2
      go_enter Try.func12, Try.ntmps12
      go_wp2_with (go_at_call 17; refine (undercroftref15_Check.calls k A0 c0 l0 e _ HR0.out HC0.out HE.out).mono ?_; rintro e_ w' ⟨rfl, ⟨n, rfl⟩⟩)
      go_ret2
      exact ⟨_, rfl, Kd.R_nil _ _ _ _ _, pw_below_drewN (Below.refl _ _) n⟩
    · have b1 : (e != 0) = true := by simpa using c2
      clear c1
      go_enter Try.func12, Try.ntmps12
      go_wp2_with (go_at_call 17; refine (undercroftref15_Check.calls k A0 c0 l0 e _ HR0.out HC0.out HE.out).mono ?_; rintro e_ w' ⟨rfl, ⟨n, rfl⟩⟩)
      go_ret2
      exact ⟨_, rfl, Kd.R_nil _ _ _ _ _, pw_below_drewN (Below.refl _ _) n⟩
  · rw [if_neg c1] at h
    have c2 : e = 0 := Classical.byContradiction fun hc => c1 (.inl hc)
    have c3 : ¬ a1 < 0 := fun hc => c1 (.inr hc)
    have b1 : (e != 0) = false := by simpa using c2
    have b2 : decide (a1 < 0) = false := by simpa using c3
    clear c1 c2
    by_cases c4 : (a2.size : Int) > 65536 ∨ a1 > 65536 - a2.size
    · rw [if_pos c4] at h
      have h2 := Option.some.inj h
      injection h2 with h3 h4
      subst h3 h4
      clear h
      by_cases c5 : (65536 : Int) < a2.size
      · have b3 : decide ((65536 : Int) < a2.size) = true := by simpa using c5
        have b3' : decide (65536 < a2.size) = true := by simp; omega
        clear c4 c5
        go_enter Try.func12, Try.ntmps12
        go_wp2_with (go_at_call 17; refine (undercroftref15_Check.calls k A0 c0 l0 e _ HR0.out HC0.out HE.out).mono ?_; rintro e_ w' ⟨rfl, ⟨n, rfl⟩⟩)
        go_ret2
        exact ⟨_, rfl, Kd.R_nil _ _ _ _ _, pw_below_drewN (Below.refl _ _) n⟩
      · have b3 : decide ((65536 : Int) < a2.size) = false := by simpa using c5
        have b3' : decide (65536 < a2.size) = false := by simp; omega
        have b4 : decide (65536 - (a2.size : Int) < a1) = true := by simp; omega
        clear c4
        go_enter Try.func12, Try.ntmps12
        go_wp2_with (go_at_call 17; refine (undercroftref15_Check.calls k A0 c0 l0 e _ HR0.out HC0.out HE.out).mono ?_; rintro e_ w' ⟨rfl, ⟨n, rfl⟩⟩)
        go_ret2
        exact ⟨_, rfl, Kd.R_nil _ _ _ _ _, pw_below_drewN (Below.refl _ _) n⟩
    · rw [if_neg c4] at h
      obtain ⟨b, hb, h⟩ := Option.bind_eq_some_iff.1 h
      obtain ⟨rr, hrr, h⟩ := Option.bind_eq_some_iff.1 h
      have h2 := Option.some.inj h
      injection h2 with h3 h4
      subst h3 h4
      clear h
      have c5 : (a2.size : Int) ≤ 65536 := by omega
      have c6 : a1 ≤ 65536 - (a2.size : Int) := by omega
      have b3 : decide ((65536 : Int) < a2.size) = false := by simp; omega
      have b3' : decide (65536 < a2.size) = false := by simp; omega
      have b4 : decide (65536 - (a2.size : Int) < a1) = false := by simp; omega
      have HBB := Aside0.mk hb
      have HRR := Aside0.mk hrr
      clear c4 hb hrr
      go_enter Try.func12, Try.ntmps12
      go_wp2_with (first | (go_at_call 17; refine (undercroftref15_Check.calls k A0 c0 l0 e _ HR0.out HC0.out HE.out).mono ?_; rintro e_ w' ⟨rfl, ⟨n, rfl⟩⟩) | (go_at_call 25; refine (undercroftref15_Spread.calls k A0 c0 l0 b _ (Kd.C_drewN HR0.out _) HC0.out HBB.out).mono ?_; rintro e_ w2 ⟨v2, rfl, ho2, hb2⟩; have HO2 := Aside0.mk ho2; have HB2 := Aside0.mk hb2; clear ho2 hb2))
      have hB2 := below_then (pw_below_drewN (Below.refl w.heap.size w) n) (Nat.le_refl _) HB2.out
      have hO2 : Kd.R (Kd.int .u8) 5 w2 w.heap.size (fun _ => True) v2 b := HO2.out
      have HB := Aside0.mk hB2
      have HO := Aside0.mk hO2
      clear HB2 HO2 hB2 hO2 n
      have ha0 : 0 ≤ a1 := by omega
      clear c3
      go_loopg [8] (a1.toNat + a2.size) (fun kq u w' => ∃ ys : List Int, Aside0 (Kd.R (Kd.int .u8) 5 w' w.heap.size (fun _ => True) u ys) ∧ Aside0 (Below w.heap.size w w') ∧ Aside0 (refPad ys (a1.toNat + a2.size) = refPad b (a1.toNat + a2.size)) ∧ Aside0 (a1.toNat + a2.size ≤ ys.length + kq))
      case atStart => exact ⟨b, HO, HB, ⟨rfl⟩, ⟨Nat.le_add_left _ _⟩⟩
      case round =>
        clear HO HB
        obtain ⟨ys, HO, HB, HP, HK⟩ := hrel
        obtain ⟨Ao, co, e8⟩ := Kd.R_slice HO.out
        subst e8
        by_cases hlt : (ys.length : Int) < a1 + (a2.size : Int)
        · have hlb : decide ((ys.length : Int) < a1 + (a2.size : Int)) = true := by simpa using hlt
          have HLT := Aside0.mk hlt
          have hy : ys.length ≤ 65536 := by omega
          clear hlt
          cases gk with
          | zero => exact absurd HK.out (by have := HLT.out; omega)
          | succ k1 =>
            go_wp2_with (first | ((with_reducible refine gate_builtin (b := .append) (xs := #[.tmp 35, .tmp 36]) rfl ?_); at_builtin; refine Kd.R_append (Kd.int .u8) (w0 := w) w.heap.size rfl (.tmp 35) (.tmp 36) 41 5 (.int .u8 0) 1 rfl Try.underlying41 info5 rfl (by decide) (by omega) (.slice Ao ys.length co) ys 0 [.int .u8 0] (fun _ => True) (fun _ => False) rfl rfl ?aP (fun _ hk => hk.elim) (fun _ _ => trivial) HO.out HB.out (below_size HB.out) (by omega) ?_; (case aP => rfl); intro v5 w5 ho hb hg hat; have HO5 := Aside0.mk ho; have HB5 := Aside0.mk hb; clear ho hb hg hat))
            go_roundg k1
            case measure => omega
            case rel =>
              refine ⟨ys ++ [0], HO5, HB5, ⟨?_⟩, ⟨by have := HK.out; rw [List.length_append, List.length_singleton]; omega⟩⟩
              rw [← HP.out]
              have := HLT.out
              unfold refPad
              rw [List.length_append, List.length_singleton, List.append_assoc]
              congr 1
              obtain ⟨q, hq⟩ : ∃ q, a1.toNat + a2.size - ys.length = q + 1 := ⟨a1.toNat + a2.size - ys.length - 1, by omega⟩
              rw [hq, show a1.toNat + a2.size - (ys.length + 1) = q by omega, List.replicate_succ]
              rfl
        · have hlb : decide ((ys.length : Int) < a1 + (a2.size : Int)) = false := by simpa using hlt
          have hpad : refPad b (a1.toNat + a2.size) = ys := by
            rw [← HP.out]; unfold refPad; rw [show a1.toNat + a2.size - ys.length = 0 by omega]; simp
          have HPD := Aside0.mk hpad
          obtain ⟨a, rfl⟩ := Int.eq_ofNat_of_zero_le ha0
          have hle : a + a2.size ≤ ys.length := by omega
          have HH := Aside0.mk hlt
          clear hlt hpad HP HK
          rw [Int.toNat_natCast] at *
          by_cases hd : a2.size = 0
          · have hcopy : ∀ (D : Option Addr) (L C : Nat) (W : World), (Builtin.copy_ #[41, 9] 3 #[.slice D L C, .string a2]).run Try.prog W = .ok (goInt 0) W := fun D L C W => Lib.run_copy_empty_string W _ _ _ 5 D L C a2 Try.underlying41 (by kernel_rfl) hd
            have hs : refSplice ys a a2 = ys := by
              have : bytesOf a2 = [] := List.eq_nil_of_length_eq_zero (by rw [Hl.bytesOf_len, hd])
              unfold refSplice; rw [this, hd]; simp
            have HS := Aside0.mk hs
            obtain ⟨-, hcc, hC⟩ := Kd.R_reads' HO.out
            have HCC := Aside0.mk hC
            clear hs hd hC
            go_wp2_with (first | (go_at_call 26; refine (undercroftref15_Gather.calls k Ao co ys rr _ HCC.out hcc (by have := HRR.out; rw [HPD.out, HS.out] at this; exact this)).mono ?_; rintro e_ w6 ⟨v6, rfl, ho6, hb6⟩; have HO6 := Aside0.mk ho6; have HB6 := Aside0.mk hb6; clear ho6 hb6))
            all_goals (go_ret2; exact ⟨_, rfl, Kd.R_lower HO6.out HB.out.size, below_then HB.out HB.out.size HB6.out⟩)
          · obtain ⟨g, cap, W', hv, hcap, hbase, hrun, hO7, hg7, hB7⟩ := Hl.splice_u8 (P := Try.prog) HO.out a a2 (by omega) hle 41 9 3 Try.underlying41 (by kernel_rfl)
            injection hv with hA _ hc
            subst hA hc
            have hcp := hrun (ys.length - a) (co - a) (by omega)
            have hco : ¬ co = a := by omega
            have hl : (refSplice ys a a2).length = ys.length := by unfold refSplice; simp only [List.length_append, List.length_take, List.length_drop, Hl.bytesOf_len]; omega
            have HO7 : Aside0 (Kd.R (Kd.int .u8) 5 W' w.heap.size (fun _ => True) (.slice (some ⟨g, 0, none⟩) ys.length co) (refSplice ys a a2)) := ⟨hO7⟩
            have HB7 := Aside0.mk (HB.out.trans hB7)
            have HL := Aside0.mk hl
            obtain ⟨-, hcc, hC⟩ := Kd.R_reads' HO7.out
            have HCC := Aside0.mk hC
            clear hrun hO7 hg7 hB7 hl hC hd
            go_wp2_with (first | (go_at_call 26; refine calls_of_args (by rw [← HL.out]) ((undercroftref15_Gather.calls k _ co (refSplice ys a a2) rr _ HCC.out (by rw [HL.out]; exact hcc) (by have := HRR.out; rw [HPD.out] at this; exact this)).mono ?_); rintro e_ w6 ⟨v6, rfl, ho6, hb6⟩; have HO6 := Aside0.mk ho6; have HB6 := Aside0.mk hb6; clear ho6 hb6))
            all_goals (go_ret2; exact ⟨_, rfl, Kd.R_lower HO6.out HB7.out.size, below_then HB7.out HB7.out.size HB6.out⟩)

end Go.Proofs.Ytdobcojmfhdinaa.Pr
