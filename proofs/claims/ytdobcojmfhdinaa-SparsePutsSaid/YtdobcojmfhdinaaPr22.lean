/- The functions that this seat's laws reach, each as a function in Lean (NAME.f) with its contract (NAME.calls): printed by the kit's print.py; those that it does not take by hand. Conditions: those that each contract names. Lean checks it all. -/
import Derived.Test.YtdobcojmfhdinaaPr0
import Derived.Test.YtdobcojmfhdinaaPr4
import Derived.Test.YtdobcojmfhdinaaPr9
import Derived.Test.YtdobcojmfhdinaaPr10
import Derived.Test.YtdobcojmfhdinaaPr11
import Derived.Test.YtdobcojmfhdinaaPr13
import Derived.Test.YtdobcojmfhdinaaPr14
import Derived.Test.YtdobcojmfhdinaaPr15
import Derived.Test.YtdobcojmfhdinaaPr18
import Derived.Test.YtdobcojmfhdinaaPr19
import Derived.Test.YtdobcojmfhdinaaPr20
import Derived.Test.YtdobcojmfhdinaaPr21
namespace Go.Proofs.Ytdobcojmfhdinaa.Pr
open Go.RowKit Go.Proofs.YtdobcojmfhdinaaW.PrintWords Go.Proofs.YtdobcojmfhdinaaW.PrintLast Go.Proofs.YtdobcojmfhdinaaW.PrintMore
attribute [local go_sem] max2_int min2_int max_two min_two max_three min_three max_four min_four   -- for this text's walks alone
set_option linter.unusedVariables false
set_option linter.unusedSimpArgs false

/-! ### undercroftlaw15_SparsePuts: function 3 -/
mutual
def undercroftlaw15_SparsePuts.j0 : Nat → List (S33) → List (S33) → List (S33) → Bool → Option (Bool)
  | 0, _, _, _, _ => none
  | k + 1, x0, x7, x8, x16 => undercroftlaw15_SparsePuts.l0 k x0 x7 x8 x16 0
def undercroftlaw15_SparsePuts.l0 : Nat → List (S33) → List (S33) → List (S33) → Bool → Int → Option (Bool)
  | 0, _, _, _, _, _ => none
  | k + 1, x0, x7, x8, x16, x17 => if x17 < (x8.length : Int) then (if 0 ≤ x17 then (undercroftlaw15_SparsePuts.l0 k x0 x7 (x8.set (x17 : Int).toNat (⟨0, (⟨#[]⟩ : ByteArray)⟩ : S33)) x16 (wrap64 (x17 + 1))) else (none)) else (if x16 = true then ((undercroftref15_Same.f k x7 x0).bind fun t192 => (some t192)) else (some false))
end
def undercroftlaw15_SparsePuts.f (k : Nat) (l0 : List (S33)) (a1 : Int) (a2 : ByteArray) : Option (Bool) := (undercroftlaw15_alive.f k).bind fun t165 => (if t165 = true then ((undercroftlaw15_copied.f l0).bind fun t166 => ((sparse_Put.f k t166 a1 a2).bind fun bt169 => ((undercroftref15_Put.f k l0 a1 a2).bind fun bt173 => ((sparse_Of.f a2).bind fun bt177 => ((undercroftref15_Of.f k a2).bind fun bt181 => (if bt169.2 = bt173.2 then ((undercroftref15_Same.f k bt169.1 bt173.1).bind fun t185 => (if t185 = true then (if bt177.2 = bt181.2 then ((undercroftref15_Same.f k bt177.1 bt181.1).bind fun t186 => (if t186 = true then ((sparse_Check.f k t166).bind fun t187 => ((undercroftref15_Check.f k l0).bind fun t188 => (if t187 = t188 then ((sparse_End.f k t166).bind fun t189 => ((undercroftref15_End.f k l0).bind fun t190 => (undercroftlaw15_SparsePuts.j0 k l0 t166 bt169.1 (t189 == t190)))) else (undercroftlaw15_SparsePuts.j0 k l0 t166 bt169.1 false)))) else (undercroftlaw15_SparsePuts.j0 k l0 t166 bt169.1 false))) else (undercroftlaw15_SparsePuts.j0 k l0 t166 bt169.1 false)) else (undercroftlaw15_SparsePuts.j0 k l0 t166 bt169.1 false))) else (undercroftlaw15_SparsePuts.j0 k l0 t166 bt169.1 false))))))) else (some false))
theorem undercroftlaw15_SparsePuts.mono_l : ∀ k, (∀ y0 y1 y2 y3, LeO (undercroftlaw15_SparsePuts.j0 k y0 y1 y2 y3) (undercroftlaw15_SparsePuts.j0 (k + 1) y0 y1 y2 y3)) ∧ (∀ y0 y1 y2 y3 y4, LeO (undercroftlaw15_SparsePuts.l0 k y0 y1 y2 y3 y4) (undercroftlaw15_SparsePuts.l0 (k + 1) y0 y1 y2 y3 y4))
  | 0 => ⟨fun _ _ _ _ r h => by simp [undercroftlaw15_SparsePuts.j0] at h, fun _ _ _ _ _ r h => by simp [undercroftlaw15_SparsePuts.l0] at h⟩
  | k + 1 => by
    obtain ⟨ih0, ih1⟩ := undercroftlaw15_SparsePuts.mono_l k
    refine ⟨?_, ?_⟩
    · intro y0 y1 y2 y3
      unfold undercroftlaw15_SparsePuts.j0
      repeat' first
      | (with_reducible exact ih0 _ _ _ _)
      | (with_reducible exact ih1 _ _ _ _ _)
      | (with_reducible exact sparse_Check.mono _ _)
      | (with_reducible exact sparse_End.mono _ _)
      | (with_reducible exact sparse_Put.mono _ _ _ _)
      | (with_reducible exact undercroftlaw15_alive.mono _)
      | (with_reducible exact undercroftref15_Check.mono _ _)
      | (with_reducible exact undercroftref15_End.mono _ _)
      | (with_reducible exact undercroftref15_Of.mono _ _)
      | (with_reducible exact undercroftref15_Put.mono _ _ _ _)
      | (with_reducible exact undercroftref15_Same.mono _ _ _)
      | (with_reducible exact LeO.refl _)
      | (with_reducible exact LeO.none _)
      | (with_reducible refine LeO.ite ?_ ?_)
      | (with_reducible refine LeO.bind ?_ (fun _ => ?_))
      | exact ih0 _ _ _ _
      | exact ih1 _ _ _ _ _
      | exact sparse_Check.mono _ _
      | exact sparse_End.mono _ _
      | exact sparse_Put.mono _ _ _ _
      | exact undercroftlaw15_alive.mono _
      | exact undercroftref15_Check.mono _ _
      | exact undercroftref15_End.mono _ _
      | exact undercroftref15_Of.mono _ _
      | exact undercroftref15_Put.mono _ _ _ _
      | exact undercroftref15_Same.mono _ _ _
      | exact LeO.none _
      | refine LeO.ite ?_ ?_
      | refine LeO.bind ?_ (fun _ => ?_)
    · intro y0 y1 y2 y3 y4
      unfold undercroftlaw15_SparsePuts.l0
      repeat' first
      | (with_reducible exact ih0 _ _ _ _)
      | (with_reducible exact ih1 _ _ _ _ _)
      | (with_reducible exact sparse_Check.mono _ _)
      | (with_reducible exact sparse_End.mono _ _)
      | (with_reducible exact sparse_Put.mono _ _ _ _)
      | (with_reducible exact undercroftlaw15_alive.mono _)
      | (with_reducible exact undercroftref15_Check.mono _ _)
      | (with_reducible exact undercroftref15_End.mono _ _)
      | (with_reducible exact undercroftref15_Of.mono _ _)
      | (with_reducible exact undercroftref15_Put.mono _ _ _ _)
      | (with_reducible exact undercroftref15_Same.mono _ _ _)
      | (with_reducible exact LeO.refl _)
      | (with_reducible exact LeO.none _)
      | (with_reducible refine LeO.ite ?_ ?_)
      | (with_reducible refine LeO.bind ?_ (fun _ => ?_))
      | exact ih0 _ _ _ _
      | exact ih1 _ _ _ _ _
      | exact sparse_Check.mono _ _
      | exact sparse_End.mono _ _
      | exact sparse_Put.mono _ _ _ _
      | exact undercroftlaw15_alive.mono _
      | exact undercroftref15_Check.mono _ _
      | exact undercroftref15_End.mono _ _
      | exact undercroftref15_Of.mono _ _
      | exact undercroftref15_Put.mono _ _ _ _
      | exact undercroftref15_Same.mono _ _ _
      | exact LeO.none _
      | refine LeO.ite ?_ ?_
      | refine LeO.bind ?_ (fun _ => ?_)
theorem undercroftlaw15_SparsePuts.mono : ∀ a0 a1 a2 k, LeO (undercroftlaw15_SparsePuts.f k a0 a1 a2) (undercroftlaw15_SparsePuts.f (k + 1) a0 a1 a2) := by
  intro a0 a1 a2 k
  obtain ⟨ih0, ih1⟩ := undercroftlaw15_SparsePuts.mono_l k
  unfold undercroftlaw15_SparsePuts.f
  repeat' first
      | (with_reducible exact ih0 _ _ _ _)
      | (with_reducible exact ih1 _ _ _ _ _)
      | (with_reducible exact sparse_Check.mono _ _)
      | (with_reducible exact sparse_End.mono _ _)
      | (with_reducible exact sparse_Put.mono _ _ _ _)
      | (with_reducible exact undercroftlaw15_alive.mono _)
      | (with_reducible exact undercroftref15_Check.mono _ _)
      | (with_reducible exact undercroftref15_End.mono _ _)
      | (with_reducible exact undercroftref15_Of.mono _ _)
      | (with_reducible exact undercroftref15_Put.mono _ _ _ _)
      | (with_reducible exact undercroftref15_Same.mono _ _ _)
      | (with_reducible exact LeO.refl _)
      | (with_reducible exact LeO.none _)
      | (with_reducible refine LeO.ite ?_ ?_)
      | (with_reducible refine LeO.bind ?_ (fun _ => ?_))
      | exact ih0 _ _ _ _
      | exact ih1 _ _ _ _ _
      | exact sparse_Check.mono _ _
      | exact sparse_End.mono _ _
      | exact sparse_Put.mono _ _ _ _
      | exact undercroftlaw15_alive.mono _
      | exact undercroftref15_Check.mono _ _
      | exact undercroftref15_End.mono _ _
      | exact undercroftref15_Of.mono _ _
      | exact undercroftref15_Put.mono _ _ _ _
      | exact undercroftref15_Same.mono _ _ _
      | exact LeO.none _
      | refine LeO.ite ?_ ?_
      | refine LeO.bind ?_ (fun _ => ?_)
set_option maxHeartbeats 8000000 in
set_option maxRecDepth 100000 in
theorem undercroftlaw15_SparsePuts.calls (k : Nat) (A0 : Option Addr) (c0 : Nat) (l0 : List (S33)) (a1 : Int) (a2 : ByteArray) (r : Bool) (w : World) (hr0 : Kd.C k33 w A0 l0.length l0) (hc0 : l0.length ≤ c0) (h : undercroftlaw15_SparsePuts.f k l0 a1 a2 = some r) :
    Calls Try.prog 3 #[.slice A0 l0.length c0, .int .i64 a1, .string a2] w fun e w' => e = .returned (.bool r) ∧ Below w.heap.size w w' := by
  have hu33 := Try.underlying33
  have HR0 := Aside0.mk hr0
  have HC0 := Aside0.mk hc0
  clear hr0 hc0
  have HB := Aside0.mk (Below.refl w.heap.size w)
  have H : ((undercroftlaw15_alive.f k).bind fun t165 => (if t165 = true then ((undercroftlaw15_copied.f l0).bind fun t166 => ((sparse_Put.f k t166 a1 a2).bind fun bt169 => ((undercroftref15_Put.f k l0 a1 a2).bind fun bt173 => ((sparse_Of.f a2).bind fun bt177 => ((undercroftref15_Of.f k a2).bind fun bt181 => (if bt169.2 = bt173.2 then ((undercroftref15_Same.f k bt169.1 bt173.1).bind fun t185 => (if t185 = true then (if bt177.2 = bt181.2 then ((undercroftref15_Same.f k bt177.1 bt181.1).bind fun t186 => (if t186 = true then ((sparse_Check.f k t166).bind fun t187 => ((undercroftref15_Check.f k l0).bind fun t188 => (if t187 = t188 then ((sparse_End.f k t166).bind fun t189 => ((undercroftref15_End.f k l0).bind fun t190 => (undercroftlaw15_SparsePuts.j0 k l0 t166 bt169.1 (t189 == t190)))) else (undercroftlaw15_SparsePuts.j0 k l0 t166 bt169.1 false)))) else (undercroftlaw15_SparsePuts.j0 k l0 t166 bt169.1 false))) else (undercroftlaw15_SparsePuts.j0 k l0 t166 bt169.1 false)) else (undercroftlaw15_SparsePuts.j0 k l0 t166 bt169.1 false))) else (undercroftlaw15_SparsePuts.j0 k l0 t166 bt169.1 false))))))) else (some false))) = some r := h
  clear h
  replace H := Option.bind_eq_some_iff.mp H
  obtain ⟨t165, A40, H⟩ := H
  replace H : (if t165 = true then ((undercroftlaw15_copied.f l0).bind fun t166 => ((sparse_Put.f k t166 a1 a2).bind fun bt169 => ((undercroftref15_Put.f k l0 a1 a2).bind fun bt173 => ((sparse_Of.f a2).bind fun bt177 => ((undercroftref15_Of.f k a2).bind fun bt181 => (if bt169.2 = bt173.2 then ((undercroftref15_Same.f k bt169.1 bt173.1).bind fun t185 => (if t185 = true then (if bt177.2 = bt181.2 then ((undercroftref15_Same.f k bt177.1 bt181.1).bind fun t186 => (if t186 = true then ((sparse_Check.f k t166).bind fun t187 => ((undercroftref15_Check.f k l0).bind fun t188 => (if t187 = t188 then ((sparse_End.f k t166).bind fun t189 => ((undercroftref15_End.f k l0).bind fun t190 => (undercroftlaw15_SparsePuts.j0 k l0 t166 bt169.1 (t189 == t190)))) else (undercroftlaw15_SparsePuts.j0 k l0 t166 bt169.1 false)))) else (undercroftlaw15_SparsePuts.j0 k l0 t166 bt169.1 false))) else (undercroftlaw15_SparsePuts.j0 k l0 t166 bt169.1 false)) else (undercroftlaw15_SparsePuts.j0 k l0 t166 bt169.1 false))) else (undercroftlaw15_SparsePuts.j0 k l0 t166 bt169.1 false))))))) else (some false)) = some r := H
  have A4 := Aside0.mk A40
  clear A40
  by_cases c5 : t165 = true
  · subst c5
    have H1 : ((undercroftlaw15_copied.f l0).bind fun t166 => ((sparse_Put.f k t166 a1 a2).bind fun bt169 => ((undercroftref15_Put.f k l0 a1 a2).bind fun bt173 => ((sparse_Of.f a2).bind fun bt177 => ((undercroftref15_Of.f k a2).bind fun bt181 => (if bt169.2 = bt173.2 then ((undercroftref15_Same.f k bt169.1 bt173.1).bind fun t185 => (if t185 = true then (if bt177.2 = bt181.2 then ((undercroftref15_Same.f k bt177.1 bt181.1).bind fun t186 => (if t186 = true then ((sparse_Check.f k t166).bind fun t187 => ((undercroftref15_Check.f k l0).bind fun t188 => (if t187 = t188 then ((sparse_End.f k t166).bind fun t189 => ((undercroftref15_End.f k l0).bind fun t190 => (undercroftlaw15_SparsePuts.j0 k l0 t166 bt169.1 (t189 == t190)))) else (undercroftlaw15_SparsePuts.j0 k l0 t166 bt169.1 false)))) else (undercroftlaw15_SparsePuts.j0 k l0 t166 bt169.1 false))) else (undercroftlaw15_SparsePuts.j0 k l0 t166 bt169.1 false)) else (undercroftlaw15_SparsePuts.j0 k l0 t166 bt169.1 false))) else (undercroftlaw15_SparsePuts.j0 k l0 t166 bt169.1 false))))))) = some r := by rw [if_pos rfl] at H; exact H
    clear H
    have H := H1
    clear H1
    replace H := Option.bind_eq_some_iff.mp H
    obtain ⟨t166, A60, H⟩ := H
    replace H : ((sparse_Put.f k t166 a1 a2).bind fun bt169 => ((undercroftref15_Put.f k l0 a1 a2).bind fun bt173 => ((sparse_Of.f a2).bind fun bt177 => ((undercroftref15_Of.f k a2).bind fun bt181 => (if bt169.2 = bt173.2 then ((undercroftref15_Same.f k bt169.1 bt173.1).bind fun t185 => (if t185 = true then (if bt177.2 = bt181.2 then ((undercroftref15_Same.f k bt177.1 bt181.1).bind fun t186 => (if t186 = true then ((sparse_Check.f k t166).bind fun t187 => ((undercroftref15_Check.f k l0).bind fun t188 => (if t187 = t188 then ((sparse_End.f k t166).bind fun t189 => ((undercroftref15_End.f k l0).bind fun t190 => (undercroftlaw15_SparsePuts.j0 k l0 t166 bt169.1 (t189 == t190)))) else (undercroftlaw15_SparsePuts.j0 k l0 t166 bt169.1 false)))) else (undercroftlaw15_SparsePuts.j0 k l0 t166 bt169.1 false))) else (undercroftlaw15_SparsePuts.j0 k l0 t166 bt169.1 false)) else (undercroftlaw15_SparsePuts.j0 k l0 t166 bt169.1 false))) else (undercroftlaw15_SparsePuts.j0 k l0 t166 bt169.1 false)))))) = some r := H
    have A6 := Aside0.mk A60
    clear A60
    replace H := Option.bind_eq_some_iff.mp H
    obtain ⟨⟨t169, t170⟩, A70, H⟩ := H
    replace H : ((undercroftref15_Put.f k l0 a1 a2).bind fun bt173 => ((sparse_Of.f a2).bind fun bt177 => ((undercroftref15_Of.f k a2).bind fun bt181 => (if t170 = bt173.2 then ((undercroftref15_Same.f k t169 bt173.1).bind fun t185 => (if t185 = true then (if bt177.2 = bt181.2 then ((undercroftref15_Same.f k bt177.1 bt181.1).bind fun t186 => (if t186 = true then ((sparse_Check.f k t166).bind fun t187 => ((undercroftref15_Check.f k l0).bind fun t188 => (if t187 = t188 then ((sparse_End.f k t166).bind fun t189 => ((undercroftref15_End.f k l0).bind fun t190 => (undercroftlaw15_SparsePuts.j0 k l0 t166 t169 (t189 == t190)))) else (undercroftlaw15_SparsePuts.j0 k l0 t166 t169 false)))) else (undercroftlaw15_SparsePuts.j0 k l0 t166 t169 false))) else (undercroftlaw15_SparsePuts.j0 k l0 t166 t169 false)) else (undercroftlaw15_SparsePuts.j0 k l0 t166 t169 false))) else (undercroftlaw15_SparsePuts.j0 k l0 t166 t169 false))))) = some r := H
    have A7 := Aside0.mk A70
    clear A70
    replace H := Option.bind_eq_some_iff.mp H
    obtain ⟨⟨t173, t174⟩, A80, H⟩ := H
    replace H : ((sparse_Of.f a2).bind fun bt177 => ((undercroftref15_Of.f k a2).bind fun bt181 => (if t170 = t174 then ((undercroftref15_Same.f k t169 t173).bind fun t185 => (if t185 = true then (if bt177.2 = bt181.2 then ((undercroftref15_Same.f k bt177.1 bt181.1).bind fun t186 => (if t186 = true then ((sparse_Check.f k t166).bind fun t187 => ((undercroftref15_Check.f k l0).bind fun t188 => (if t187 = t188 then ((sparse_End.f k t166).bind fun t189 => ((undercroftref15_End.f k l0).bind fun t190 => (undercroftlaw15_SparsePuts.j0 k l0 t166 t169 (t189 == t190)))) else (undercroftlaw15_SparsePuts.j0 k l0 t166 t169 false)))) else (undercroftlaw15_SparsePuts.j0 k l0 t166 t169 false))) else (undercroftlaw15_SparsePuts.j0 k l0 t166 t169 false)) else (undercroftlaw15_SparsePuts.j0 k l0 t166 t169 false))) else (undercroftlaw15_SparsePuts.j0 k l0 t166 t169 false)))) = some r := H
    have A8 := Aside0.mk A80
    clear A80
    replace H := Option.bind_eq_some_iff.mp H
    obtain ⟨⟨t177, t178⟩, A90, H⟩ := H
    replace H : ((undercroftref15_Of.f k a2).bind fun bt181 => (if t170 = t174 then ((undercroftref15_Same.f k t169 t173).bind fun t185 => (if t185 = true then (if t178 = bt181.2 then ((undercroftref15_Same.f k t177 bt181.1).bind fun t186 => (if t186 = true then ((sparse_Check.f k t166).bind fun t187 => ((undercroftref15_Check.f k l0).bind fun t188 => (if t187 = t188 then ((sparse_End.f k t166).bind fun t189 => ((undercroftref15_End.f k l0).bind fun t190 => (undercroftlaw15_SparsePuts.j0 k l0 t166 t169 (t189 == t190)))) else (undercroftlaw15_SparsePuts.j0 k l0 t166 t169 false)))) else (undercroftlaw15_SparsePuts.j0 k l0 t166 t169 false))) else (undercroftlaw15_SparsePuts.j0 k l0 t166 t169 false)) else (undercroftlaw15_SparsePuts.j0 k l0 t166 t169 false))) else (undercroftlaw15_SparsePuts.j0 k l0 t166 t169 false))) = some r := H
    have A9 := Aside0.mk A90
    clear A90
    replace H := Option.bind_eq_some_iff.mp H
    obtain ⟨⟨t181, t182⟩, A100, H⟩ := H
    replace H : (if t170 = t174 then ((undercroftref15_Same.f k t169 t173).bind fun t185 => (if t185 = true then (if t178 = t182 then ((undercroftref15_Same.f k t177 t181).bind fun t186 => (if t186 = true then ((sparse_Check.f k t166).bind fun t187 => ((undercroftref15_Check.f k l0).bind fun t188 => (if t187 = t188 then ((sparse_End.f k t166).bind fun t189 => ((undercroftref15_End.f k l0).bind fun t190 => (undercroftlaw15_SparsePuts.j0 k l0 t166 t169 (t189 == t190)))) else (undercroftlaw15_SparsePuts.j0 k l0 t166 t169 false)))) else (undercroftlaw15_SparsePuts.j0 k l0 t166 t169 false))) else (undercroftlaw15_SparsePuts.j0 k l0 t166 t169 false)) else (undercroftlaw15_SparsePuts.j0 k l0 t166 t169 false))) else (undercroftlaw15_SparsePuts.j0 k l0 t166 t169 false)) = some r := H
    have A10 := Aside0.mk A100
    clear A100
    have HC11 := Aside0.mk H
    clear H
    go_enter Try.func3, Try.ntmps3
    go_upto_region 8 with (first | ((with_reducible refine gate_callee (f := 9) rfl ?_); refine goesL_ (some 18) rfl rfl Try.func9 (by kernel_rfl) rfl #[] rfl (by (try simp only [List.map_toArray, List.map_cons, List.map_nil]); first | done | rfl | (simp only [List.length_drop, List.length_take]; rfl)) ?_; (with_reducible refine (undercroftlaw15_alive.calls k  true _ A4.out).mono ?_); rintro e w12 ⟨rfl, hb⟩; refine ⟨_, rfl, ?_⟩; have n0_ := Aside0.mk (below_step (by repeat (first | (with_reducible first | exact HB.out | apply below_alloc | apply pw_below_drewN | apply below_drew1) | exact HB.out)) hb); clear HB; have HB := n0_; clear n0_; (try clear hb); (try clear hb2); (try clear hk); (try clear hi)) | ((with_reducible refine gate_callee (f := 10) rfl ?_); refine goesL_ (some 21) rfl rfl Try.func10 (by kernel_rfl) rfl #[.slice A0 l0.length c0] rfl (by (try simp only [List.map_toArray, List.map_cons, List.map_nil]); first | done | rfl | (simp only [List.length_drop, List.length_take]; rfl)) ?_; (with_reducible refine (undercroftlaw15_copied.calls _ _ l0 t166 _ ?side1 ?side2 A6.out).mono ?_); (case side1 => repeat (first | exact (Kd.C_below HR0.out HB.out) | (with_reducible refine Kd.C_alloc ?_ _) | (with_reducible refine Kd.C_drewN ?_ _) | (with_reducible refine Kd.C_drew ?_))); (case side2 => exact HC0.out); rintro e w13 ⟨v167, rfl, ho0, hb⟩; refine ⟨_, rfl, ?_⟩; have n0_ := Aside0.mk (Kd.R_lower ho0 (below_size (by repeat (first | (with_reducible first | exact HB.out | apply below_alloc | apply pw_below_drewN | apply below_drew1) | exact HB.out)))); have n1_ := Aside0.mk (below_step (by repeat (first | (with_reducible first | exact HB.out | apply below_alloc | apply pw_below_drewN | apply below_drew1) | exact HB.out)) hb); clear HB; have HO168 := n0_; have HB := n1_; clear n0_ n1_; (try clear hb); (try clear hb2); (try clear hk); (try clear hi); (try clear ho0); obtain ⟨Ao14, co14, eo14⟩ := Kd.R_slice HO168.out; subst eo14) | ((with_reducible refine gate_callee (f := 11) rfl ?_); refine goesL_ (some 26) rfl rfl Try.func11 (by kernel_rfl) rfl #[.slice Ao14 t166.length co14, .int .i64 a1, .string a2] rfl (by (try simp only [List.map_toArray, List.map_cons, List.map_nil]); first | done | rfl | (simp only [List.length_drop, List.length_take]; rfl)) ?_; (with_reducible refine (sparse_Put.calls k _ _ t166 a1 a2 t169 t170 _ ?side1 ?side2 A7.out).mono ?_); (case side1 => repeat (first | exact (Kd.R_reads' HO168.out).2.2 | (with_reducible refine Kd.C_alloc ?_ _) | (with_reducible refine Kd.C_drewN ?_ _) | (with_reducible refine Kd.C_drew ?_))); (case side2 => exact (Kd.R_reads' HO168.out).2.1); rintro e w15 ⟨v171, rfl, ho0, hb⟩; refine ⟨_, rfl, ?_⟩; have n0_ := Aside0.mk (Kd.R_elder' (by (with_reducible repeat (first | apply Kd.R_alloc | apply Kd.R_drewN | apply Kd.R_drew)); exact HO168.out) (Kd.R_base ho0) hb); have n1_ := Aside0.mk (Kd.R_lower (Kd.R_new' ho0 (Kd.R_lt (by (with_reducible repeat (first | apply Kd.R_alloc | apply Kd.R_drewN | apply Kd.R_drew)); exact HO168.out))) (below_size (by repeat (first | (with_reducible first | exact HB.out | apply below_alloc | apply pw_below_drewN | apply below_drew1) | exact HB.out)))); have n2_ := Aside0.mk (below_step (by repeat (first | (with_reducible first | exact HB.out | apply below_alloc | apply pw_below_drewN | apply below_drew1) | exact HB.out)) hb); clear HO168; clear HB; have HO168 := n0_; have HO172 := n1_; have HB := n2_; clear n0_ n1_ n2_; (try clear hb); (try clear hb2); (try clear hk); (try clear hi); (try clear ho0)) | ((with_reducible refine gate_callee (f := 12) rfl ?_); refine goesL_ (some 33) rfl rfl Try.func12 (by kernel_rfl) rfl #[.slice A0 l0.length c0, .int .i64 a1, .string a2] rfl (by (try simp only [List.map_toArray, List.map_cons, List.map_nil]); first | done | rfl | (simp only [List.length_drop, List.length_take]; rfl)) ?_; (with_reducible refine (undercroftref15_Put.calls k _ _ l0 a1 a2 t173 t174 _ ?side1 ?side2 A8.out).mono ?_); (case side1 => repeat (first | exact (Kd.C_below HR0.out HB.out) | (with_reducible refine Kd.C_alloc ?_ _) | (with_reducible refine Kd.C_drewN ?_ _) | (with_reducible refine Kd.C_drew ?_))); (case side2 => exact HC0.out); rintro e w16 ⟨v175, rfl, ho0, hb⟩; refine ⟨_, rfl, ?_⟩; have n0_ := Aside0.mk (Kd.R_elder' (by (with_reducible repeat (first | apply Kd.R_alloc | apply Kd.R_drewN | apply Kd.R_drew)); exact HO168.out) (Kd.R_base ho0) hb); have n1_ := Aside0.mk (Kd.R_elder' (by (with_reducible repeat (first | apply Kd.R_alloc | apply Kd.R_drewN | apply Kd.R_drew)); exact HO172.out) (Kd.R_base ho0) hb); have n2_ := Aside0.mk (Kd.R_lower (Kd.R_new' (Kd.R_new' ho0 (Kd.R_lt (by (with_reducible repeat (first | apply Kd.R_alloc | apply Kd.R_drewN | apply Kd.R_drew)); exact HO168.out))) (Kd.R_lt (by (with_reducible repeat (first | apply Kd.R_alloc | apply Kd.R_drewN | apply Kd.R_drew)); exact HO172.out))) (below_size (by repeat (first | (with_reducible first | exact HB.out | apply below_alloc | apply pw_below_drewN | apply below_drew1) | exact HB.out)))); have n3_ := Aside0.mk (below_step (by repeat (first | (with_reducible first | exact HB.out | apply below_alloc | apply pw_below_drewN | apply below_drew1) | exact HB.out)) hb); clear HO168; clear HO172; clear HB; have HO168 := n0_; have HO172 := n1_; have HO176 := n2_; have HB := n3_; clear n0_ n1_ n2_ n3_; (try clear hb); (try clear hb2); (try clear hk); (try clear hi); (try clear ho0)) | ((with_reducible refine gate_callee (f := 13) rfl ?_); refine goesL_ (some 38) rfl rfl Try.func13 (by kernel_rfl) rfl #[.string a2] rfl (by (try simp only [List.map_toArray, List.map_cons, List.map_nil]); first | done | rfl | (simp only [List.length_drop, List.length_take]; rfl)) ?_; (with_reducible refine (sparse_Of.calls a2 t177 t178 _ A9.out).mono ?_); rintro e w17 ⟨v179, rfl, ho0, hb⟩; refine ⟨_, rfl, ?_⟩; have n0_ := Aside0.mk (Kd.R_elder' (by (with_reducible repeat (first | apply Kd.R_alloc | apply Kd.R_drewN | apply Kd.R_drew)); exact HO168.out) (Kd.R_base ho0) hb); have n1_ := Aside0.mk (Kd.R_elder' (by (with_reducible repeat (first | apply Kd.R_alloc | apply Kd.R_drewN | apply Kd.R_drew)); exact HO172.out) (Kd.R_base ho0) hb); have n2_ := Aside0.mk (Kd.R_elder' (by (with_reducible repeat (first | apply Kd.R_alloc | apply Kd.R_drewN | apply Kd.R_drew)); exact HO176.out) (Kd.R_base ho0) hb); have n3_ := Aside0.mk (Kd.R_lower (Kd.R_new' (Kd.R_new' (Kd.R_new' ho0 (Kd.R_lt (by (with_reducible repeat (first | apply Kd.R_alloc | apply Kd.R_drewN | apply Kd.R_drew)); exact HO168.out))) (Kd.R_lt (by (with_reducible repeat (first | apply Kd.R_alloc | apply Kd.R_drewN | apply Kd.R_drew)); exact HO172.out))) (Kd.R_lt (by (with_reducible repeat (first | apply Kd.R_alloc | apply Kd.R_drewN | apply Kd.R_drew)); exact HO176.out))) (below_size (by repeat (first | (with_reducible first | exact HB.out | apply below_alloc | apply pw_below_drewN | apply below_drew1) | exact HB.out)))); have n4_ := Aside0.mk (below_step (by repeat (first | (with_reducible first | exact HB.out | apply below_alloc | apply pw_below_drewN | apply below_drew1) | exact HB.out)) hb); clear HO168; clear HO172; clear HO176; clear HB; have HO168 := n0_; have HO172 := n1_; have HO176 := n2_; have HO180 := n3_; have HB := n4_; clear n0_ n1_ n2_ n3_ n4_; (try clear hb); (try clear hb2); (try clear hk); (try clear hi); (try clear ho0)) | ((with_reducible refine gate_callee (f := 14) rfl ?_); refine goesL_ (some 43) rfl rfl Try.func14 (by kernel_rfl) rfl #[.string a2] rfl (by (try simp only [List.map_toArray, List.map_cons, List.map_nil]); first | done | rfl | (simp only [List.length_drop, List.length_take]; rfl)) ?_; (with_reducible refine (undercroftref15_Of.calls k a2 t181 t182 _ A10.out).mono ?_); rintro e w18 ⟨v183, rfl, ho0, hb⟩; refine ⟨_, rfl, ?_⟩; have n0_ := Aside0.mk (Kd.R_elder' (by (with_reducible repeat (first | apply Kd.R_alloc | apply Kd.R_drewN | apply Kd.R_drew)); exact HO168.out) (Kd.R_base ho0) hb); have n1_ := Aside0.mk (Kd.R_elder' (by (with_reducible repeat (first | apply Kd.R_alloc | apply Kd.R_drewN | apply Kd.R_drew)); exact HO172.out) (Kd.R_base ho0) hb); have n2_ := Aside0.mk (Kd.R_elder' (by (with_reducible repeat (first | apply Kd.R_alloc | apply Kd.R_drewN | apply Kd.R_drew)); exact HO176.out) (Kd.R_base ho0) hb); have n3_ := Aside0.mk (Kd.R_elder' (by (with_reducible repeat (first | apply Kd.R_alloc | apply Kd.R_drewN | apply Kd.R_drew)); exact HO180.out) (Kd.R_base ho0) hb); have n4_ := Aside0.mk (Kd.R_lower (Kd.R_new' (Kd.R_new' (Kd.R_new' (Kd.R_new' ho0 (Kd.R_lt (by (with_reducible repeat (first | apply Kd.R_alloc | apply Kd.R_drewN | apply Kd.R_drew)); exact HO168.out))) (Kd.R_lt (by (with_reducible repeat (first | apply Kd.R_alloc | apply Kd.R_drewN | apply Kd.R_drew)); exact HO172.out))) (Kd.R_lt (by (with_reducible repeat (first | apply Kd.R_alloc | apply Kd.R_drewN | apply Kd.R_drew)); exact HO176.out))) (Kd.R_lt (by (with_reducible repeat (first | apply Kd.R_alloc | apply Kd.R_drewN | apply Kd.R_drew)); exact HO180.out))) (below_size (by repeat (first | (with_reducible first | exact HB.out | apply below_alloc | apply pw_below_drewN | apply below_drew1) | exact HB.out)))); have n5_ := Aside0.mk (below_step (by repeat (first | (with_reducible first | exact HB.out | apply below_alloc | apply pw_below_drewN | apply below_drew1) | exact HB.out)) hb); clear HO168; clear HO172; clear HO176; clear HO180; clear HB; have HO168 := n0_; have HO172 := n1_; have HO176 := n2_; have HO180 := n3_; have HO184 := n4_; have HB := n5_; clear n0_ n1_ n2_ n3_ n4_ n5_; (try clear hb); (try clear hb2); (try clear hk); (try clear hi); (try clear ho0)))
    (try simp only [Act.put, List.setIfInBounds_toArray, List.set_cons_zero, List.set_cons_succ])
    go_cut [16] (fun v16 wc => ∃ (kq : Nat) (x16_10 : Bool), v16 = .bool x16_10 ∧ Aside0 (undercroftlaw15_SparsePuts.j0 kq l0 t166 t169 x16_10 = some r) ∧ Aside0 (kq ≤ k) ∧ Aside0 (Kd.R k33 33 wc w.heap.size (fun k_ => some k_ ≠ (v171 : Value).ownBlock) (.slice Ao14 t166.length co14) t166) ∧ Aside0 (Kd.R k33 33 wc w.heap.size (fun k_ => some k_ ≠ ((.slice Ao14 t166.length co14) : Value).ownBlock) v171 t169) ∧ Aside0 (Below w.heap.size w wc))
    case first =>
      have H := HC11.out
      clear HC11
      by_cases c19 : t170 = t174
      · rw [if_pos c19] at H
        have c19b0 : (t170 == t174) = true := beq_iff_eq.mpr c19
        have c19b1 : (t170 != t174) = false := bne_eq_false_iff_eq.mpr c19
        clear c19
        (first | rw [c19b0] | (simp only [i64_w, i32_w]; rw [c19b0]) | skip)
        replace H := Option.bind_eq_some_iff.mp H
        obtain ⟨t185, A200, H⟩ := H
        replace H : (if t185 = true then (if t178 = t182 then ((undercroftref15_Same.f k t177 t181).bind fun t186 => (if t186 = true then ((sparse_Check.f k t166).bind fun t187 => ((undercroftref15_Check.f k l0).bind fun t188 => (if t187 = t188 then ((sparse_End.f k t166).bind fun t189 => ((undercroftref15_End.f k l0).bind fun t190 => (undercroftlaw15_SparsePuts.j0 k l0 t166 t169 (t189 == t190)))) else (undercroftlaw15_SparsePuts.j0 k l0 t166 t169 false)))) else (undercroftlaw15_SparsePuts.j0 k l0 t166 t169 false))) else (undercroftlaw15_SparsePuts.j0 k l0 t166 t169 false)) else (undercroftlaw15_SparsePuts.j0 k l0 t166 t169 false)) = some r := H
        have A20 := Aside0.mk A200
        clear A200
        by_cases c21 : t185 = true
        · subst c21
          have H1 : (if t178 = t182 then ((undercroftref15_Same.f k t177 t181).bind fun t186 => (if t186 = true then ((sparse_Check.f k t166).bind fun t187 => ((undercroftref15_Check.f k l0).bind fun t188 => (if t187 = t188 then ((sparse_End.f k t166).bind fun t189 => ((undercroftref15_End.f k l0).bind fun t190 => (undercroftlaw15_SparsePuts.j0 k l0 t166 t169 (t189 == t190)))) else (undercroftlaw15_SparsePuts.j0 k l0 t166 t169 false)))) else (undercroftlaw15_SparsePuts.j0 k l0 t166 t169 false))) else (undercroftlaw15_SparsePuts.j0 k l0 t166 t169 false)) = some r := by rw [if_pos rfl] at H; exact H
          clear H
          have H := H1
          clear H1
          by_cases c22 : t178 = t182
          · rw [if_pos c22] at H
            have c22b0 : (t178 == t182) = true := beq_iff_eq.mpr c22
            have c22b1 : (t178 != t182) = false := bne_eq_false_iff_eq.mpr c22
            clear c22
            replace H := Option.bind_eq_some_iff.mp H
            obtain ⟨t186, A230, H⟩ := H
            replace H : (if t186 = true then ((sparse_Check.f k t166).bind fun t187 => ((undercroftref15_Check.f k l0).bind fun t188 => (if t187 = t188 then ((sparse_End.f k t166).bind fun t189 => ((undercroftref15_End.f k l0).bind fun t190 => (undercroftlaw15_SparsePuts.j0 k l0 t166 t169 (t189 == t190)))) else (undercroftlaw15_SparsePuts.j0 k l0 t166 t169 false)))) else (undercroftlaw15_SparsePuts.j0 k l0 t166 t169 false)) = some r := H
            have A23 := Aside0.mk A230
            clear A230
            by_cases c24 : t186 = true
            · subst c24
              have H1 : ((sparse_Check.f k t166).bind fun t187 => ((undercroftref15_Check.f k l0).bind fun t188 => (if t187 = t188 then ((sparse_End.f k t166).bind fun t189 => ((undercroftref15_End.f k l0).bind fun t190 => (undercroftlaw15_SparsePuts.j0 k l0 t166 t169 (t189 == t190)))) else (undercroftlaw15_SparsePuts.j0 k l0 t166 t169 false)))) = some r := by rw [if_pos rfl] at H; exact H
              clear H
              have H := H1
              clear H1
              replace H := Option.bind_eq_some_iff.mp H
              obtain ⟨t187, A250, H⟩ := H
              replace H : ((undercroftref15_Check.f k l0).bind fun t188 => (if t187 = t188 then ((sparse_End.f k t166).bind fun t189 => ((undercroftref15_End.f k l0).bind fun t190 => (undercroftlaw15_SparsePuts.j0 k l0 t166 t169 (t189 == t190)))) else (undercroftlaw15_SparsePuts.j0 k l0 t166 t169 false))) = some r := H
              have A25 := Aside0.mk A250
              clear A250
              replace H := Option.bind_eq_some_iff.mp H
              obtain ⟨t188, A260, H⟩ := H
              replace H : (if t187 = t188 then ((sparse_End.f k t166).bind fun t189 => ((undercroftref15_End.f k l0).bind fun t190 => (undercroftlaw15_SparsePuts.j0 k l0 t166 t169 (t189 == t190)))) else (undercroftlaw15_SparsePuts.j0 k l0 t166 t169 false)) = some r := H
              have A26 := Aside0.mk A260
              clear A260
              by_cases c27 : t187 = t188
              · rw [if_pos c27] at H
                have c27b0 : (t187 == t188) = true := beq_iff_eq.mpr c27
                have c27b1 : (t187 != t188) = false := bne_eq_false_iff_eq.mpr c27
                clear c27
                replace H := Option.bind_eq_some_iff.mp H
                obtain ⟨t189, A280, H⟩ := H
                replace H : ((undercroftref15_End.f k l0).bind fun t190 => (undercroftlaw15_SparsePuts.j0 k l0 t166 t169 (t189 == t190))) = some r := H
                have A28 := Aside0.mk A280
                clear A280
                replace H := Option.bind_eq_some_iff.mp H
                obtain ⟨t190, A290, H⟩ := H
                replace H : (undercroftlaw15_SparsePuts.j0 k l0 t166 t169 (t189 == t190)) = some r := H
                have A29 := Aside0.mk A290
                clear A290
                have H' := Aside0.mk H
                clear H
                obtain ⟨Ao30, co30, eo30⟩ := Kd.R_slice HO172.out
                subst eo30
                obtain ⟨Ao31, co31, eo31⟩ := Kd.R_slice HO176.out
                subst eo31
                go_wp2_with (first | (go_at_call 15; (with_reducible refine (undercroftref15_Same.calls k _ _ t169 _ _ t173 true _ ?side1 ?side2 ?side3 ?side4 A20.out).mono ?_); (case side1 => repeat (first | exact (Kd.R_reads' HO172.out).2.2 | (with_reducible refine Kd.C_alloc ?_ _) | (with_reducible refine Kd.C_drewN ?_ _) | (with_reducible refine Kd.C_drew ?_))); (case side2 => exact (Kd.R_reads' HO172.out).2.1); (case side3 => repeat (first | exact (Kd.R_reads' HO176.out).2.2 | (with_reducible refine Kd.C_alloc ?_ _) | (with_reducible refine Kd.C_drewN ?_ _) | (with_reducible refine Kd.C_drew ?_))); (case side4 => exact (Kd.R_reads' HO176.out).2.1); rintro e w' ⟨rfl, ⟨nd, rfl⟩⟩; obtain ⟨Ao32, co32, eo32⟩ := Kd.R_slice HO180.out; subst eo32; obtain ⟨Ao33, co33, eo33⟩ := Kd.R_slice HO184.out; subst eo33) | (go_at_call 15; (with_reducible refine (undercroftref15_Same.calls k _ _ t177 _ _ t181 true _ ?side1 ?side2 ?side3 ?side4 A23.out).mono ?_); (case side1 => repeat (first | exact (Kd.R_reads' HO180.out).2.2 | (with_reducible refine Kd.C_alloc ?_ _) | (with_reducible refine Kd.C_drewN ?_ _) | (with_reducible refine Kd.C_drew ?_))); (case side2 => exact (Kd.R_reads' HO180.out).2.1); (case side3 => repeat (first | exact (Kd.R_reads' HO184.out).2.2 | (with_reducible refine Kd.C_alloc ?_ _) | (with_reducible refine Kd.C_drewN ?_ _) | (with_reducible refine Kd.C_drew ?_))); (case side4 => exact (Kd.R_reads' HO184.out).2.1); rintro e w' ⟨rfl, ⟨nd, rfl⟩⟩) | (go_at_call 16; (with_reducible refine (sparse_Check.calls k _ _ t166 t187 _ ?side1 ?side2 A25.out).mono ?_); (case side1 => repeat (first | exact (Kd.R_reads' HO168.out).2.2 | (with_reducible refine Kd.C_alloc ?_ _) | (with_reducible refine Kd.C_drewN ?_ _) | (with_reducible refine Kd.C_drew ?_))); (case side2 => exact (Kd.R_reads' HO168.out).2.1); rintro e w34 ⟨rfl, hb⟩; have n0_ := Aside0.mk (Kd.R_below (by (with_reducible repeat (first | apply Kd.R_alloc | apply Kd.R_drewN | apply Kd.R_drew)); exact HO168.out) hb); have n1_ := Aside0.mk (Kd.R_below (by (with_reducible repeat (first | apply Kd.R_alloc | apply Kd.R_drewN | apply Kd.R_drew)); exact HO172.out) hb); have n2_ := Aside0.mk (Kd.R_below (by (with_reducible repeat (first | apply Kd.R_alloc | apply Kd.R_drewN | apply Kd.R_drew)); exact HO176.out) hb); have n3_ := Aside0.mk (Kd.R_below (by (with_reducible repeat (first | apply Kd.R_alloc | apply Kd.R_drewN | apply Kd.R_drew)); exact HO180.out) hb); have n4_ := Aside0.mk (Kd.R_below (by (with_reducible repeat (first | apply Kd.R_alloc | apply Kd.R_drewN | apply Kd.R_drew)); exact HO184.out) hb); have n5_ := Aside0.mk (below_step (by repeat (first | (with_reducible first | exact HB.out | apply below_alloc | apply pw_below_drewN | apply below_drew1) | exact HB.out)) hb); clear HO168; clear HO172; clear HO176; clear HO180; clear HO184; clear HB; have HO168 := n0_; have HO172 := n1_; have HO176 := n2_; have HO180 := n3_; have HO184 := n4_; have HB := n5_; clear n0_ n1_ n2_ n3_ n4_ n5_; (try clear hb); (try clear hb2); (try clear hk); (try clear hi)) | (go_at_call 17; (with_reducible refine (undercroftref15_Check.calls k _ _ l0 t188 _ ?side1 ?side2 A26.out).mono ?_); (case side1 => repeat (first | exact (Kd.C_below HR0.out HB.out) | (with_reducible refine Kd.C_alloc ?_ _) | (with_reducible refine Kd.C_drewN ?_ _) | (with_reducible refine Kd.C_drew ?_))); (case side2 => exact HC0.out); rintro e w' ⟨rfl, ⟨nd, rfl⟩⟩) | (go_at_call 18; (with_reducible refine (sparse_End.calls k _ _ t166 t189 _ ?side1 ?side2 A28.out).mono ?_); (case side1 => repeat (first | exact (Kd.R_reads' HO168.out).2.2 | (with_reducible refine Kd.C_alloc ?_ _) | (with_reducible refine Kd.C_drewN ?_ _) | (with_reducible refine Kd.C_drew ?_))); (case side2 => exact (Kd.R_reads' HO168.out).2.1); rintro e w35 ⟨rfl, hb⟩; have n0_ := Aside0.mk (Kd.R_below (by (with_reducible repeat (first | apply Kd.R_alloc | apply Kd.R_drewN | apply Kd.R_drew)); exact HO168.out) hb); have n1_ := Aside0.mk (Kd.R_below (by (with_reducible repeat (first | apply Kd.R_alloc | apply Kd.R_drewN | apply Kd.R_drew)); exact HO172.out) hb); have n2_ := Aside0.mk (Kd.R_below (by (with_reducible repeat (first | apply Kd.R_alloc | apply Kd.R_drewN | apply Kd.R_drew)); exact HO176.out) hb); have n3_ := Aside0.mk (Kd.R_below (by (with_reducible repeat (first | apply Kd.R_alloc | apply Kd.R_drewN | apply Kd.R_drew)); exact HO180.out) hb); have n4_ := Aside0.mk (Kd.R_below (by (with_reducible repeat (first | apply Kd.R_alloc | apply Kd.R_drewN | apply Kd.R_drew)); exact HO184.out) hb); have n5_ := Aside0.mk (below_step (by repeat (first | (with_reducible first | exact HB.out | apply below_alloc | apply pw_below_drewN | apply below_drew1) | exact HB.out)) hb); clear HO168; clear HO172; clear HO176; clear HO180; clear HO184; clear HB; have HO168 := n0_; have HO172 := n1_; have HO176 := n2_; have HO180 := n3_; have HO184 := n4_; have HB := n5_; clear n0_ n1_ n2_ n3_ n4_ n5_; (try clear hb); (try clear hb2); (try clear hk); (try clear hi)) | (go_at_call 19; (with_reducible refine (undercroftref15_End.calls k _ _ l0 t190 _ ?side1 ?side2 A29.out).mono ?_); (case side1 => repeat (first | exact (Kd.C_below HR0.out HB.out) | (with_reducible refine Kd.C_alloc ?_ _) | (with_reducible refine Kd.C_drewN ?_ _) | (with_reducible refine Kd.C_drew ?_))); (case side2 => exact HC0.out); rintro e w' ⟨rfl, ⟨nd, rfl⟩⟩))
                go_meet
                case rel => exact ⟨_, ((t189 == t190)), (by first | rfl | (simp; done) | (simp [*]; done)), H', ⟨by first | omega | exact Nat.le_refl _⟩, ⟨by (with_reducible repeat (first | apply Kd.R_alloc | apply Kd.R_drewN | apply Kd.R_drew)); exact Kd.R_mono HO168.out (fun _ hk => hk.1.1.1.2)⟩, ⟨by (with_reducible repeat (first | apply Kd.R_alloc | apply Kd.R_drewN | apply Kd.R_drew)); exact Kd.R_mono HO172.out (fun _ hk => hk.1.1.1.2)⟩, ⟨by repeat (first | (with_reducible first | exact HB.out | apply below_alloc | apply pw_below_drewN | apply below_drew1) | exact HB.out)⟩⟩
              · rw [if_neg c27] at H
                have c27b0 : (t187 == t188) = false := beq_eq_false_iff_ne.mpr c27
                have c27b1 : (t187 != t188) = true := bne_iff_ne.mpr c27
                have H' := Aside0.mk H
                clear H
                obtain ⟨Ao36, co36, eo36⟩ := Kd.R_slice HO172.out
                subst eo36
                obtain ⟨Ao37, co37, eo37⟩ := Kd.R_slice HO176.out
                subst eo37
                go_wp2_with (first | (go_at_call 15; (with_reducible refine (undercroftref15_Same.calls k _ _ t169 _ _ t173 true _ ?side1 ?side2 ?side3 ?side4 A20.out).mono ?_); (case side1 => repeat (first | exact (Kd.R_reads' HO172.out).2.2 | (with_reducible refine Kd.C_alloc ?_ _) | (with_reducible refine Kd.C_drewN ?_ _) | (with_reducible refine Kd.C_drew ?_))); (case side2 => exact (Kd.R_reads' HO172.out).2.1); (case side3 => repeat (first | exact (Kd.R_reads' HO176.out).2.2 | (with_reducible refine Kd.C_alloc ?_ _) | (with_reducible refine Kd.C_drewN ?_ _) | (with_reducible refine Kd.C_drew ?_))); (case side4 => exact (Kd.R_reads' HO176.out).2.1); rintro e w' ⟨rfl, ⟨nd, rfl⟩⟩; obtain ⟨Ao38, co38, eo38⟩ := Kd.R_slice HO180.out; subst eo38; obtain ⟨Ao39, co39, eo39⟩ := Kd.R_slice HO184.out; subst eo39) | (go_at_call 15; (with_reducible refine (undercroftref15_Same.calls k _ _ t177 _ _ t181 true _ ?side1 ?side2 ?side3 ?side4 A23.out).mono ?_); (case side1 => repeat (first | exact (Kd.R_reads' HO180.out).2.2 | (with_reducible refine Kd.C_alloc ?_ _) | (with_reducible refine Kd.C_drewN ?_ _) | (with_reducible refine Kd.C_drew ?_))); (case side2 => exact (Kd.R_reads' HO180.out).2.1); (case side3 => repeat (first | exact (Kd.R_reads' HO184.out).2.2 | (with_reducible refine Kd.C_alloc ?_ _) | (with_reducible refine Kd.C_drewN ?_ _) | (with_reducible refine Kd.C_drew ?_))); (case side4 => exact (Kd.R_reads' HO184.out).2.1); rintro e w' ⟨rfl, ⟨nd, rfl⟩⟩) | (go_at_call 16; (with_reducible refine (sparse_Check.calls k _ _ t166 t187 _ ?side1 ?side2 A25.out).mono ?_); (case side1 => repeat (first | exact (Kd.R_reads' HO168.out).2.2 | (with_reducible refine Kd.C_alloc ?_ _) | (with_reducible refine Kd.C_drewN ?_ _) | (with_reducible refine Kd.C_drew ?_))); (case side2 => exact (Kd.R_reads' HO168.out).2.1); rintro e w40 ⟨rfl, hb⟩; have n0_ := Aside0.mk (Kd.R_below (by (with_reducible repeat (first | apply Kd.R_alloc | apply Kd.R_drewN | apply Kd.R_drew)); exact HO168.out) hb); have n1_ := Aside0.mk (Kd.R_below (by (with_reducible repeat (first | apply Kd.R_alloc | apply Kd.R_drewN | apply Kd.R_drew)); exact HO172.out) hb); have n2_ := Aside0.mk (Kd.R_below (by (with_reducible repeat (first | apply Kd.R_alloc | apply Kd.R_drewN | apply Kd.R_drew)); exact HO176.out) hb); have n3_ := Aside0.mk (Kd.R_below (by (with_reducible repeat (first | apply Kd.R_alloc | apply Kd.R_drewN | apply Kd.R_drew)); exact HO180.out) hb); have n4_ := Aside0.mk (Kd.R_below (by (with_reducible repeat (first | apply Kd.R_alloc | apply Kd.R_drewN | apply Kd.R_drew)); exact HO184.out) hb); have n5_ := Aside0.mk (below_step (by repeat (first | (with_reducible first | exact HB.out | apply below_alloc | apply pw_below_drewN | apply below_drew1) | exact HB.out)) hb); clear HO168; clear HO172; clear HO176; clear HO180; clear HO184; clear HB; have HO168 := n0_; have HO172 := n1_; have HO176 := n2_; have HO180 := n3_; have HO184 := n4_; have HB := n5_; clear n0_ n1_ n2_ n3_ n4_ n5_; (try clear hb); (try clear hb2); (try clear hk); (try clear hi)) | (go_at_call 17; (with_reducible refine (undercroftref15_Check.calls k _ _ l0 t188 _ ?side1 ?side2 A26.out).mono ?_); (case side1 => repeat (first | exact (Kd.C_below HR0.out HB.out) | (with_reducible refine Kd.C_alloc ?_ _) | (with_reducible refine Kd.C_drewN ?_ _) | (with_reducible refine Kd.C_drew ?_))); (case side2 => exact HC0.out); rintro e w' ⟨rfl, ⟨nd, rfl⟩⟩))
                go_meet
                case rel => exact ⟨_, (false), (by first | rfl | (simp; done) | (simp [*]; done)), H', ⟨by first | omega | exact Nat.le_refl _⟩, ⟨by (with_reducible repeat (first | apply Kd.R_alloc | apply Kd.R_drewN | apply Kd.R_drew)); exact Kd.R_mono HO168.out (fun _ hk => hk.1.1.1.2)⟩, ⟨by (with_reducible repeat (first | apply Kd.R_alloc | apply Kd.R_drewN | apply Kd.R_drew)); exact Kd.R_mono HO172.out (fun _ hk => hk.1.1.1.2)⟩, ⟨by repeat (first | (with_reducible first | exact HB.out | apply below_alloc | apply pw_below_drewN | apply below_drew1) | exact HB.out)⟩⟩
            · replace c24 := Bool.eq_false_iff.mpr c24
              subst c24
              have H1 : (undercroftlaw15_SparsePuts.j0 k l0 t166 t169 false) = some r := by rw [if_neg (show ¬ (false = true) by decide)] at H; exact H
              clear H
              have H := H1
              clear H1
              have H' := Aside0.mk H
              clear H
              obtain ⟨Ao41, co41, eo41⟩ := Kd.R_slice HO172.out
              subst eo41
              obtain ⟨Ao42, co42, eo42⟩ := Kd.R_slice HO176.out
              subst eo42
              go_wp2_with (first | (go_at_call 15; (with_reducible refine (undercroftref15_Same.calls k _ _ t169 _ _ t173 true _ ?side1 ?side2 ?side3 ?side4 A20.out).mono ?_); (case side1 => repeat (first | exact (Kd.R_reads' HO172.out).2.2 | (with_reducible refine Kd.C_alloc ?_ _) | (with_reducible refine Kd.C_drewN ?_ _) | (with_reducible refine Kd.C_drew ?_))); (case side2 => exact (Kd.R_reads' HO172.out).2.1); (case side3 => repeat (first | exact (Kd.R_reads' HO176.out).2.2 | (with_reducible refine Kd.C_alloc ?_ _) | (with_reducible refine Kd.C_drewN ?_ _) | (with_reducible refine Kd.C_drew ?_))); (case side4 => exact (Kd.R_reads' HO176.out).2.1); rintro e w' ⟨rfl, ⟨nd, rfl⟩⟩; obtain ⟨Ao43, co43, eo43⟩ := Kd.R_slice HO180.out; subst eo43; obtain ⟨Ao44, co44, eo44⟩ := Kd.R_slice HO184.out; subst eo44) | (go_at_call 15; (with_reducible refine (undercroftref15_Same.calls k _ _ t177 _ _ t181 false _ ?side1 ?side2 ?side3 ?side4 A23.out).mono ?_); (case side1 => repeat (first | exact (Kd.R_reads' HO180.out).2.2 | (with_reducible refine Kd.C_alloc ?_ _) | (with_reducible refine Kd.C_drewN ?_ _) | (with_reducible refine Kd.C_drew ?_))); (case side2 => exact (Kd.R_reads' HO180.out).2.1); (case side3 => repeat (first | exact (Kd.R_reads' HO184.out).2.2 | (with_reducible refine Kd.C_alloc ?_ _) | (with_reducible refine Kd.C_drewN ?_ _) | (with_reducible refine Kd.C_drew ?_))); (case side4 => exact (Kd.R_reads' HO184.out).2.1); rintro e w' ⟨rfl, ⟨nd, rfl⟩⟩))
              go_meet
              case rel => exact ⟨_, (false), (by first | rfl | (simp; done) | (simp [*]; done)), H', ⟨by first | omega | exact Nat.le_refl _⟩, ⟨by (with_reducible repeat (first | apply Kd.R_alloc | apply Kd.R_drewN | apply Kd.R_drew)); exact Kd.R_mono HO168.out (fun _ hk => hk.1.1.1.2)⟩, ⟨by (with_reducible repeat (first | apply Kd.R_alloc | apply Kd.R_drewN | apply Kd.R_drew)); exact Kd.R_mono HO172.out (fun _ hk => hk.1.1.1.2)⟩, ⟨by repeat (first | (with_reducible first | exact HB.out | apply below_alloc | apply pw_below_drewN | apply below_drew1) | exact HB.out)⟩⟩
          · rw [if_neg c22] at H
            have c22b0 : (t178 == t182) = false := beq_eq_false_iff_ne.mpr c22
            have c22b1 : (t178 != t182) = true := bne_iff_ne.mpr c22
            have H' := Aside0.mk H
            clear H
            obtain ⟨Ao45, co45, eo45⟩ := Kd.R_slice HO172.out
            subst eo45
            obtain ⟨Ao46, co46, eo46⟩ := Kd.R_slice HO176.out
            subst eo46
            go_wp2_with (first | (go_at_call 15; (with_reducible refine (undercroftref15_Same.calls k _ _ t169 _ _ t173 true _ ?side1 ?side2 ?side3 ?side4 A20.out).mono ?_); (case side1 => repeat (first | exact (Kd.R_reads' HO172.out).2.2 | (with_reducible refine Kd.C_alloc ?_ _) | (with_reducible refine Kd.C_drewN ?_ _) | (with_reducible refine Kd.C_drew ?_))); (case side2 => exact (Kd.R_reads' HO172.out).2.1); (case side3 => repeat (first | exact (Kd.R_reads' HO176.out).2.2 | (with_reducible refine Kd.C_alloc ?_ _) | (with_reducible refine Kd.C_drewN ?_ _) | (with_reducible refine Kd.C_drew ?_))); (case side4 => exact (Kd.R_reads' HO176.out).2.1); rintro e w' ⟨rfl, ⟨nd, rfl⟩⟩))
            go_meet
            case rel => exact ⟨_, (false), (by first | rfl | (simp; done) | (simp [*]; done)), H', ⟨by first | omega | exact Nat.le_refl _⟩, ⟨by (with_reducible repeat (first | apply Kd.R_alloc | apply Kd.R_drewN | apply Kd.R_drew)); exact Kd.R_mono HO168.out (fun _ hk => hk.1.1.1.2)⟩, ⟨by (with_reducible repeat (first | apply Kd.R_alloc | apply Kd.R_drewN | apply Kd.R_drew)); exact Kd.R_mono HO172.out (fun _ hk => hk.1.1.1.2)⟩, ⟨by repeat (first | (with_reducible first | exact HB.out | apply below_alloc | apply pw_below_drewN | apply below_drew1) | exact HB.out)⟩⟩
        · replace c21 := Bool.eq_false_iff.mpr c21
          subst c21
          have H1 : (undercroftlaw15_SparsePuts.j0 k l0 t166 t169 false) = some r := by rw [if_neg (show ¬ (false = true) by decide)] at H; exact H
          clear H
          have H := H1
          clear H1
          have H' := Aside0.mk H
          clear H
          obtain ⟨Ao47, co47, eo47⟩ := Kd.R_slice HO172.out
          subst eo47
          obtain ⟨Ao48, co48, eo48⟩ := Kd.R_slice HO176.out
          subst eo48
          go_wp2_with (first | (go_at_call 15; (with_reducible refine (undercroftref15_Same.calls k _ _ t169 _ _ t173 false _ ?side1 ?side2 ?side3 ?side4 A20.out).mono ?_); (case side1 => repeat (first | exact (Kd.R_reads' HO172.out).2.2 | (with_reducible refine Kd.C_alloc ?_ _) | (with_reducible refine Kd.C_drewN ?_ _) | (with_reducible refine Kd.C_drew ?_))); (case side2 => exact (Kd.R_reads' HO172.out).2.1); (case side3 => repeat (first | exact (Kd.R_reads' HO176.out).2.2 | (with_reducible refine Kd.C_alloc ?_ _) | (with_reducible refine Kd.C_drewN ?_ _) | (with_reducible refine Kd.C_drew ?_))); (case side4 => exact (Kd.R_reads' HO176.out).2.1); rintro e w' ⟨rfl, ⟨nd, rfl⟩⟩))
          go_meet
          case rel => exact ⟨_, (false), (by first | rfl | (simp; done) | (simp [*]; done)), H', ⟨by first | omega | exact Nat.le_refl _⟩, ⟨by (with_reducible repeat (first | apply Kd.R_alloc | apply Kd.R_drewN | apply Kd.R_drew)); exact Kd.R_mono HO168.out (fun _ hk => hk.1.1.1.2)⟩, ⟨by (with_reducible repeat (first | apply Kd.R_alloc | apply Kd.R_drewN | apply Kd.R_drew)); exact Kd.R_mono HO172.out (fun _ hk => hk.1.1.1.2)⟩, ⟨by repeat (first | (with_reducible first | exact HB.out | apply below_alloc | apply pw_below_drewN | apply below_drew1) | exact HB.out)⟩⟩
      · rw [if_neg c19] at H
        have c19b0 : (t170 == t174) = false := beq_eq_false_iff_ne.mpr c19
        have c19b1 : (t170 != t174) = true := bne_iff_ne.mpr c19
        (first | rw [c19b0] | (simp only [i64_w, i32_w]; rw [c19b0]) | skip)
        have H' := Aside0.mk H
        clear H
        go_wp2
        go_meet
        case rel => exact ⟨_, (false), (by first | rfl | (simp; done) | (simp [*]; done)), H', ⟨by first | omega | exact Nat.le_refl _⟩, ⟨by (with_reducible repeat (first | apply Kd.R_alloc | apply Kd.R_drewN | apply Kd.R_drew)); exact Kd.R_mono HO168.out (fun _ hk => hk.1.1.1.2)⟩, ⟨by (with_reducible repeat (first | apply Kd.R_alloc | apply Kd.R_drewN | apply Kd.R_drew)); exact Kd.R_mono HO172.out (fun _ hk => hk.1.1.1.2)⟩, ⟨by repeat (first | (with_reducible first | exact HB.out | apply below_alloc | apply pw_below_drewN | apply below_drew1) | exact HB.out)⟩⟩
    case rest =>
      clear HC11
      try clear c1
      try clear c2
      try clear p2
      try clear c3
      try clear c5
      try clear c9
      try clear c10
      try clear c11
      try clear c12
      try clear c13
      try clear c14
      try clear c19
      try clear c19b0
      try clear c19b1
      try clear c21
      try clear c22
      try clear c22b0
      try clear c22b1
      try clear c24
      try clear c27
      try clear c27b0
      try clear c27b1
      obtain ⟨kq, x16_10, rfl, HA, HJ10, HO_7, HO_8, HB⟩ := hcut
      cases kq with
      | zero => exact absurd HA.out (by simp [undercroftlaw15_SparsePuts.j0])
      | succ kj10 =>
        have H := HA.out
        clear HA
        simp only [undercroftlaw15_SparsePuts.j0] at H
        have H' := Aside0.mk H
        clear H
        go_wp2
        go_loopg [17] kj10 (fun kq v17 w' => ∃ (x8_2 : List (S33)) (x17_2 : Int), v17 = .int .i64 x17_2 ∧ Aside0 (undercroftlaw15_SparsePuts.l0 kq l0 t166 x8_2 x16_10 x17_2 = some r) ∧ Aside0 (kq ≤ kj10) ∧ Aside0 (Kd.R k33 33 w' w.heap.size (fun k_ => some k_ ≠ (v171 : Value).ownBlock) (.slice Ao14 t166.length co14) t166) ∧ Aside0 (Kd.R k33 33 w' w.heap.size (fun k_ => some k_ ≠ ((.slice Ao14 t166.length co14) : Value).ownBlock) v171 x8_2) ∧ Aside0 (Below w.heap.size w w'))
        case atStart => exact ⟨(t169), (0), (by first | rfl | (simp; done) | (simp [*]; done)), H', ⟨Nat.le_refl _⟩, ⟨by (with_reducible repeat (first | apply Kd.R_alloc | apply Kd.R_drewN | apply Kd.R_drew)); exact HO_7.out⟩, ⟨by (with_reducible repeat (first | apply Kd.R_alloc | apply Kd.R_drewN | apply Kd.R_drew)); exact HO_8.out⟩, ⟨by repeat (first | (with_reducible first | exact HB.out | apply below_alloc | apply pw_below_drewN | apply below_drew1) | exact HB.out)⟩⟩
        case round =>
          clear H'
          try clear c1
          try clear c2
          try clear p2
          try clear c3
          try clear c5
          try clear c9
          try clear c10
          try clear c11
          try clear c12
          try clear c13
          try clear c14
          try clear c19
          try clear c19b0
          try clear c19b1
          try clear c21
          try clear c22
          try clear c22b0
          try clear c22b1
          try clear c24
          try clear c27
          try clear c27b0
          try clear c27b1
          try clear p2
          obtain ⟨x8_2, x17_2, rfl, HA, HK2, HO_7, HO_8, HB⟩ := hrel
          cases gk with
          | zero => exact absurd HA.out (by simp [undercroftlaw15_SparsePuts.l0])
          | succ k2 =>
            have H := HA.out
            clear HA
            simp only [undercroftlaw15_SparsePuts.l0] at H
            by_cases c49 : x17_2 < (x8_2.length : Int)
            · rw [if_pos c49] at H
              have c49b0 : decide (x17_2 < (x8_2.length : Int)) = true := decide_eq_true c49
              clear c49
              by_cases c50 : 0 ≤ x17_2
              · rw [if_pos c50] at H
                have c50b0 : decide (0 ≤ x17_2) = true := decide_eq_true c50
                clear c50
                obtain ⟨y191, hy191⟩ : ∃ y_ : List (S33), y_ = (x8_2.set (x17_2 : Int).toNat (⟨0, (⟨#[]⟩ : ByteArray)⟩ : S33)) := ⟨_, rfl⟩
                replace H : (undercroftlaw15_SparsePuts.l0 k2 l0 t166 y191 x16_10 (wrap64 (x17_2 + 1))) = some r := by first | (rw [hy191]; with_reducible exact H) | (have H2_ := (Option.bind_some _ _).symm.trans H; rw [hy191]; with_reducible exact H2_) | (have H2_ := (Option.bind_some _ _).symm.trans H; with_reducible exact H2_) | with_reducible exact H | (rw [hy191]; exact H) | exact H
                have Ny191 := Aside0.mk hy191
                clear hy191
                have H' := Aside0.mk H
                clear H
                obtain ⟨Ao52, co52, eo52⟩ := Kd.R_slice HO_8.out
                subst eo52
                have p51 : 0 ≤ (x17_2 : Int) := of_decide_eq_true (by first | (with_reducible assumption) | assumption)
                have q51 : (x17_2 : Int) < ((x8_2.length : Int) : Int) := of_decide_eq_true (by first | (with_reducible assumption) | assumption)
                obtain ⟨go51, co51, eo51, gb51, gl51, cl51, HG51⟩ := Kd.R_form HO_8.out (by omega)
                (first | cases eo51 | (injection eo51 with ea_ en_ ec_; (first | subst ea_ | (injection ea_ with ea_; subst ea_)); subst ec_; clear en_))
                have GB51 := Aside0.mk gb51
                have GG51 := Aside0.mk HG51
                clear gb51 gl51 HG51
                obtain ⟨ce51, hcl51, hM51, hcc51, hfr51⟩ := Kd.R_elem HO_8.out z33 (x17_2 : Int) p51 q51
                obtain rfl := k33_openM hM51
                have hx51_0 : wr.cell? ⟨go51, (x17_2 : Int).toNat * 2, none⟩ = some (.int .i64 ((rd_T33 x8_2 x17_2).f0)) := hcc51 0 _ rfl
                have hx51_1 : wr.cell? ⟨go51, (x17_2 : Int).toNat * 2 + 1, none⟩ = some (.string ((rd_T33 x8_2 x17_2).f1)) := hcc51 1 _ rfl
                have hf51_0 : wr.frozen? ⟨go51, (x17_2 : Int).toNat * 2, none⟩ = false := hfr51 0
                have hf51_1 : wr.frozen? ⟨go51, (x17_2 : Int).toNat * 2 + 1, none⟩ = false := hfr51 1
                clear hcl51 hcc51 hfr51 hM51
                replace p51 := eq_true p51
                replace q51 := eq_true q51
                have HX53 := Aside0.mk (show Kd.R k33 33 wr w.heap.size (fun k_ => some k_ ≠ (.slice Ao14 t166.length co14 : Value).ownBlock) (.slice (some ⟨go51, 0, none⟩) x8_2.length co52) x8_2 from (by (with_reducible repeat (first | apply Kd.R_alloc | apply Kd.R_drewN | apply Kd.R_drew)); exact HO_8.out))
                obtain ⟨ce53, hcl53, hM53, hcc53, hfr53⟩ := Kd.R_elem HX53.out z33 (x17_2 : Int) (of_decide_eq_true (by first | (with_reducible assumption) | assumption)) (by have h_ : (x17_2 : Int) < ((x8_2.length : Int) : Int) := of_decide_eq_true (by first | (with_reducible assumption) | assumption); first | exact h_ | (have e_ := (Kd.R_reads' HO_8.out).1; omega) | simpa using h_)
                obtain rfl := k33_openM hM53
                have HP53 := Kd.R_seg HX53.out (x17_2 : Int) (of_decide_eq_true (by first | (with_reducible assumption) | assumption)) (by have h_ : (x17_2 : Int) < ((x8_2.length : Int) : Int) := of_decide_eq_true (by first | (with_reducible assumption) | assumption); first | exact h_ | (have e_ := (Kd.R_reads' HO_8.out).1; omega) | simpa using h_) (seg := [.int .i64 0, .string (⟨#[]⟩ : ByteArray)]) (j := 0) hcl53 hcc53 (show 2 ≤ 2 from by decide) (x' := (⟨0, (⟨#[]⟩ : ByteArray)⟩ : S33)) (k33_mkM _ _ _ (⟨0, (⟨#[]⟩ : ByteArray)⟩ : S33) ) (fun _ hk => hk)
                have hx53_0 := hcc53 0 _ rfl
                (try simp only [show (k33).sz = 2 from rfl, Nat.mul_one, Nat.add_zero] at hx53_0)
                have hf53_0 := hfr53 0
                (try simp only [show (k33).sz = 2 from rfl, Nat.mul_one, Nat.add_zero] at hf53_0)
                have hx53_1 := hcc53 1 _ rfl
                (try simp only [show (k33).sz = 2 from rfl, Nat.mul_one, Nat.add_zero] at hx53_1)
                have hf53_1 := hfr53 1
                (try simp only [show (k33).sz = 2 from rfl, Nat.mul_one, Nat.add_zero] at hf53_1)
                clear hcl53 hcc53 hfr53 hM53
                go_wp2_with (first | ((with_reducible refine gate_store (t := 33) (p := 87) rfl ?_); refine store_event (t := 33) (p := 87) (v := ?vo_w54) (w1 := ((wr.setCell ⟨go51, (x17_2 : Int).toNat * 2, none⟩ (.int .i64 0)).setCell ⟨go51, (x17_2 : Int).toNat * 2 + 1, none⟩ (.string (⟨#[]⟩ : ByteArray)))) ?hg ?ho ?hn ?hr ?_; (case ho => rfl); (case hg => rfl); (case hn => rfl); (case hr => first | (go_simp; done) | (go_simp; rfl)); intro w54 hw; have hg : wr.grownBy w54 (some go51) := (by rw [hw]; exact HP53.2); have hp_ : Kd.R k33 33 w54 w.heap.size (fun k_ => some k_ ≠ (.slice Ao14 t166.length co14 : Value).ownBlock) (.slice (some ⟨go51, 0, none⟩) x8_2.length co52) y191 := (by rw [hw, Ny191.out]; exact HP53.1); clear HP53; have n0_ := Aside0.mk (Kd.R_after (v := (.slice (some ⟨go51, 0, none⟩) x8_2.length co52)) (v1 := (.slice (some ⟨go51, 0, none⟩) x8_2.length co52)) (ok := (fun _ => True)) (by (with_reducible repeat (first | apply Kd.R_alloc | apply Kd.R_drewN | apply Kd.R_drew)); exact Kd.R_mono HO_7.out (fun _ hk => ⟨trivial, hk⟩)) hg (.inl rfl)); have n1_ := Aside0.mk (hp_); have n2_ := Aside0.mk ((by rw [hw]; exact below_set (below_set (HB.out) GB51.out) GB51.out : Below w.heap.size w w54)); clear HO_7; clear HO_8; clear HB; have HO_7 := n0_; have HO_8 := n1_; have HB := n2_; clear n0_ n1_ n2_; clear hg hw hp_))
                go_roundg k2
                case measure => have := HJ10.out; have := HK2.out; omega
                case rel => exact ⟨(y191), (wrap64 (x17_2 + 1)), (by first | rfl | (simp; done) | (simp [*]; done)), H', ⟨by have := HJ10.out; have := HK2.out; omega⟩, ⟨by (with_reducible repeat (first | apply Kd.R_alloc | apply Kd.R_drewN | apply Kd.R_drew)); exact Kd.R_mono HO_7.out (fun _ hk => hk.2)⟩, ⟨by (with_reducible repeat (first | apply Kd.R_alloc | apply Kd.R_drewN | apply Kd.R_drew)); exact HO_8.out⟩, ⟨by repeat (first | (with_reducible first | exact HB.out | apply below_alloc | apply pw_below_drewN | apply below_drew1) | exact HB.out)⟩⟩
              · rw [if_neg c50] at H
                exact absurd H (by simp)
            · rw [if_neg c49] at H
              have c49b0 : decide (x17_2 < (x8_2.length : Int)) = false := decide_eq_false c49
              clear c49
              by_cases c55 : x16_10 = true
              · subst c55
                have H1 : ((undercroftref15_Same.f k2 t166 l0).bind fun t192 => (some t192)) = some r := by rw [if_pos rfl] at H; exact H
                clear H
                have H := H1
                clear H1
                replace H := Option.bind_eq_some_iff.mp H
                obtain ⟨t192, A560, H⟩ := H
                replace H : (some t192) = some r := H
                have A56 := Aside0.mk A560
                clear A560
                obtain rfl := Option.some.inj H
                obtain ⟨Ao57, co57, eo57⟩ := Kd.R_slice HO_8.out
                subst eo57
                go_wp2_with (first | (go_at_call 15; (with_reducible refine (undercroftref15_Same.calls k2 _ _ t166 _ _ l0 t192 _ ?side1 ?side2 ?side3 ?side4 A56.out).mono ?_); (case side1 => repeat (first | exact (Kd.R_reads' HO_7.out).2.2 | (with_reducible refine Kd.C_alloc ?_ _) | (with_reducible refine Kd.C_drewN ?_ _) | (with_reducible refine Kd.C_drew ?_))); (case side2 => exact (Kd.R_reads' HO_7.out).2.1); (case side3 => repeat (first | exact (Kd.C_below HR0.out HB.out) | (with_reducible refine Kd.C_alloc ?_ _) | (with_reducible refine Kd.C_drewN ?_ _) | (with_reducible refine Kd.C_drew ?_))); (case side4 => exact HC0.out); rintro e w' ⟨rfl, ⟨nd, rfl⟩⟩))
                go_ret
                exact ⟨by first | rfl | (simp [errW_none, errW_some] <;> rfl) | (simp [*, errW_none, errW_some] <;> rfl), by repeat (first | (with_reducible first | exact HB.out | apply below_alloc | apply pw_below_drewN | apply below_drew1) | exact HB.out)⟩
              · replace c55 := Bool.eq_false_iff.mpr c55
                subst c55
                have H1 : (some false) = some r := by rw [if_neg (show ¬ (false = true) by decide)] at H; exact H
                clear H
                have H := H1
                clear H1
                obtain rfl := Option.some.inj H
                obtain ⟨Ao58, co58, eo58⟩ := Kd.R_slice HO_8.out
                subst eo58
                go_wp2
                go_ret
                exact ⟨by first | rfl | (simp [errW_none, errW_some] <;> rfl) | (simp [*, errW_none, errW_some] <;> rfl), by repeat (first | (with_reducible first | exact HB.out | apply below_alloc | apply pw_below_drewN | apply below_drew1) | exact HB.out)⟩
  · replace c5 := Bool.eq_false_iff.mpr c5
    subst c5
    have H1 : (some false) = some r := by rw [if_neg (show ¬ (false = true) by decide)] at H; exact H
    clear H
    have H := H1
    clear H1
    obtain rfl := Option.some.inj H
    go_enter Try.func3, Try.ntmps3
    go_wp2_with (first | ((with_reducible refine gate_callee (f := 9) rfl ?_); refine goesL_ (some 18) rfl rfl Try.func9 (by kernel_rfl) rfl #[] rfl (by (try simp only [List.map_toArray, List.map_cons, List.map_nil]); first | done | rfl | (simp only [List.length_drop, List.length_take]; rfl)) ?_; (with_reducible refine (undercroftlaw15_alive.calls k  false _ A4.out).mono ?_); rintro e w59 ⟨rfl, hb⟩; refine ⟨_, rfl, ?_⟩; have n0_ := Aside0.mk (below_step (by repeat (first | (with_reducible first | exact HB.out | apply below_alloc | apply pw_below_drewN | apply below_drew1) | exact HB.out)) hb); clear HB; have HB := n0_; clear n0_; (try clear hb); (try clear hb2); (try clear hk); (try clear hi)))
    go_ret
    exact ⟨by first | rfl | (simp [errW_none, errW_some] <;> rfl) | (simp [*, errW_none, errW_some] <;> rfl), by repeat (first | (with_reducible first | exact HB.out | apply below_alloc | apply pw_below_drewN | apply below_drew1) | exact HB.out)⟩

end Go.Proofs.Ytdobcojmfhdinaa.Pr
