/- The functions that this seat's laws reach, each as a function in Lean (NAME.f) with its contract (NAME.calls): printed by the kit's print.py; those that it does not take by hand. Conditions: those that each contract names. Lean checks it all. -/
import Derived.Test.YtdobcojmfhdinaaPr0
import Derived.Test.YtdobcojmfhdinaaPr17
namespace Go.Proofs.Ytdobcojmfhdinaa.Pr
open Go.RowKit Go.Proofs.YtdobcojmfhdinaaW.PrintWords Go.Proofs.YtdobcojmfhdinaaW.PrintLast Go.Proofs.YtdobcojmfhdinaaW.PrintMore
attribute [local go_sem] max2_int min2_int max_two min_two max_three min_three max_four min_four   -- for this text's walks alone
set_option linter.unusedVariables false
set_option linter.unusedSimpArgs false

/-! ### undercroftref15_Of: function 14 (by hand) -/
def undercroftref15_Of.f (k : Nat) (a0 : ByteArray) : Option (List S33 × Int) :=
  if (a0.size : Int) > 65536 then some ([], 10) else (undercroftref15_Gather.f k (bytesOf a0)).bind fun r => some (r, 0)
theorem undercroftref15_Of.mono : ∀ a0 k, LeO (undercroftref15_Of.f k a0) (undercroftref15_Of.f (k + 1) a0) := by
  intro a0 k
  unfold undercroftref15_Of.f
  exact LeO.ite (LeO.refl _) (LeO.bind (undercroftref15_Gather.mono _ _) fun _ => LeO.refl _)
set_option maxHeartbeats 8000000 in
set_option maxRecDepth 100000 in
theorem undercroftref15_Of.calls (k : Nat) (a0 : ByteArray) (r1 : List (S33)) (r2 : Int) (w : World) (h : undercroftref15_Of.f k a0 = some (r1, r2)) :
    Calls Try.prog 14 #[.string a0] w fun e w' => ∃ v0_ : Value, e = .returned (.tuple #[v0_, .int .i64 r2]) ∧ Kd.R k33 33 w' w.heap.size (fun _ => True) v0_ r1 ∧ Below w.heap.size w w' := by
  unfold undercroftref15_Of.f at h
  by_cases c1 : (a0.size : Int) > 65536
  · rw [if_pos c1] at h
    have h2 := Option.some.inj h
    injection h2 with h3 h4
    subst h3 h4
    clear h
    have b3 : decide ((65536 : Int) < a0.size) = true := by simpa using c1
    have b3' : decide (65536 < a0.size) = true := by simp; omega
    go_enter Try.func14, Try.ntmps14
    go_wp2_with fail
    go_ret2
    exact ⟨_, rfl, Kd.R_nil _ _ _ _ _, Below.refl _ _⟩
  · rw [if_neg c1] at h
    obtain ⟨rr, hrr, h⟩ := Option.bind_eq_some_iff.1 h
    have h2 := Option.some.inj h
    injection h2 with h3 h4
    subst h3 h4
    clear h
    have b3 : decide ((65536 : Int) < a0.size) = false := by simp; omega
    have b3' : decide (65536 < a0.size) = false := by simp; omega
    have HRR := Aside0.mk hrr
    obtain ⟨A, c, W', hrun, hC, hB, hc⟩ := Hl.conv_bytes (P := Try.prog) w 9 41 5 a0 Try.underlying9 Try.underlying41 Try.underlying5 (by omega)
    have HC := Aside0.mk hC
    have HB := Aside0.mk hB
    have HL := Aside0.mk (Hl.bytesOf_len a0)
    clear hC hB hrr
    go_enter Try.func14, Try.ntmps14
    go_wp2_with (first | (go_at_call 26; refine calls_of_args (by rw [← HL.out]) ((undercroftref15_Gather.calls k A c (bytesOf a0) rr _ (by rw [HL.out]; exact HC.out) (by rw [HL.out]; exact hc) HRR.out).mono ?_); rintro e_ w6 ⟨v6, rfl, ho6, hb6⟩; have HO6 := Aside0.mk ho6; have HB6 := Aside0.mk hb6; clear ho6 hb6))
    go_ret2
    exact ⟨_, rfl, Kd.R_lower HO6.out HB.out.size, below_then HB.out HB.out.size HB6.out⟩

end Go.Proofs.Ytdobcojmfhdinaa.Pr
