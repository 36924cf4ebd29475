/- MBlocks: this session's texts for the one law, put together (part 6 of 6): what its program computes, function by function, and that this answers true; the row stands at the end of the last part. Conditions: those that each theorem names; the last theorem has none. -/
import Derived.Test.YtopmjjnkolfciaaRows
import Derived.WalkKit
import Derived.ProofKit
import Derived.OpenShut
import Derived.ShutString
import Derived.ChangeOld
import Derived.Below
import Derived.SizedLaws
import Derived.Carry
import Derived.Lib.SmallJoins
import Derived.Test.YtopmjjnkolfciaaMBlocksE
section
namespace Go.Proofs.Ytopmjjnkolfciaa.Pr
open Go.RowKit Go.Proofs.YtopmjjnkolfciaaW.PrintWords Go.Proofs.YtopmjjnkolfciaaW.PrintLast Go.Proofs.YtopmjjnkolfciaaW.PrintMore
attribute [local go_sem] max2_int min2_int max_two min_two max_three min_three max_four min_four
attribute [local go_sem] Go.Proofs.Ytopmjjnkolfciaa.Hl.str_geq Go.Proofs.Ytopmjjnkolfciaa.Hl.str_gtr Go.Proofs.Ytopmjjnkolfciaa.Hl.str_leq
set_option linter.unusedVariables false
set_option linter.unusedSimpArgs false
mutual
def undercroftlaw10_ExtentBlocks.j0 : Nat → List (S24) → Int → List (S24) → Int → List (S24) → Int → List (S24) → Int → Bool → Int → Int → Int → Bool → Option (Bool)
 | 0, _, _, _, _, _, _, _, _, _, _, _, _, _ => none
 | k + 1, x0, x2, x7, x8, x9, x11, x12, x13, x84, x305000, x305001, x305002, x305003 => if x84 = true then (some false) else (undercroftlaw10_ExtentBlocks.l0 k x0 x2 x7 x8 x9 x11 x12 x13 (-1) x305000 x305001 x305002 x305003)
def undercroftlaw10_ExtentBlocks.l0 : Nat → List (S24) → Int → List (S24) → Int → List (S24) → Int → List (S24) → Int → Int → Int → Int → Int → Bool → Option (Bool)
 | 0, _, _, _, _, _, _, _, _, _, _, _, _, _ => none
 | k + 1, x0, x2, x7, x8, x9, x11, x12, x13, x14, x305000, x305001, x305002, x305003 => if x14 ≤ 256 then ((extent_Find.f k x0 x14).bind fun bt330 => (if x14 ≥ x305000 then (undercroftlaw10_ExtentBlocks.j2 k x0 x2 x7 x8 x9 x11 x12 x13 x14 bt330.1 bt330.2.1 bt330.2.2 (decide (x14 < x2)) x305000 x305001 x305002 x305003) else (undercroftlaw10_ExtentBlocks.j2 k x0 x2 x7 x8 x9 x11 x12 x13 x14 bt330.1 bt330.2.1 bt330.2.2 false x305000 x305001 x305002 x305003))) else (some true)
def undercroftlaw10_ExtentBlocks.j2 : Nat → List (S24) → Int → List (S24) → Int → List (S24) → Int → List (S24) → Int → Int → Int → Bool → Bool → Bool → Int → Int → Int → Bool → Option (Bool)
 | 0, _, _, _, _, _, _, _, _, _, _, _, _, _, _, _, _, _ => none
 | k + 1, x0, x2, x7, x8, x9, x11, x12, x13, x14, x15, x16, x17, x18, x305000, x305001, x305002, x305003 => if x8 = 0 then ((extent_Find.f k x7 x14).bind fun bt333 => (if x14 ≥ x305000 then (if x14 < (wrap64 (x305000 + x305002)) then (if x17 = true then (some false) else (if bt333.2.2 = true then (if bt333.1 = (wrap64 ((wrap64 (x305001 + x14)) - x305000)) then (if (bt333.2.1 == x305003) = true then (some false) else (undercroftlaw10_ExtentBlocks.j3 k x0 x2 x7 x8 x9 x11 x12 x13 x14 x15 x16 x17 x18 x305000 x305001 x305002 x305003)) else (some false)) else (some false))) else (if bt333.1 = x15 then (if (bt333.2.1 != x16) = true then (some false) else (if (bt333.2.2 != x17) = true then (some false) else (undercroftlaw10_ExtentBlocks.j3 k x0 x2 x7 x8 x9 x11 x12 x13 x14 x15 x16 x17 x18 x305000 x305001 x305002 x305003))) else (some false))) else (if bt333.1 = x15 then (if (bt333.2.1 != x16) = true then (some false) else (if (bt333.2.2 != x17) = true then (some false) else (undercroftlaw10_ExtentBlocks.j3 k x0 x2 x7 x8 x9 x11 x12 x13 x14 x15 x16 x17 x18 x305000 x305001 x305002 x305003))) else (some false)))) else (undercroftlaw10_ExtentBlocks.j3 k x0 x2 x7 x8 x9 x11 x12 x13 x14 x15 x16 x17 x18 x305000 x305001 x305002 x305003)
def undercroftlaw10_ExtentBlocks.j3 : Nat → List (S24) → Int → List (S24) → Int → List (S24) → Int → List (S24) → Int → Int → Int → Bool → Bool → Bool → Int → Int → Int → Bool → Option (Bool)
 | 0, _, _, _, _, _, _, _, _, _, _, _, _, _, _, _, _, _ => none
 | k + 1, x0, x2, x7, x8, x9, x11, x12, x13, x14, x15, x16, x17, x18, x305000, x305001, x305002, x305003 => if x11 = 0 then ((extent_Find.f k x9 x14).bind fun bt336 => (if x18 = true then (if bt336.2.2 = true then (some false) else (undercroftlaw10_ExtentBlocks.j4 k x0 x2 x7 x8 x9 x11 x12 x13 x14 x15 x16 x17 x18 x305000 x305001 x305002 x305003)) else (if bt336.1 = x15 then (if (bt336.2.1 != x16) = true then (some false) else (if (bt336.2.2 != x17) = true then (some false) else (undercroftlaw10_ExtentBlocks.j4 k x0 x2 x7 x8 x9 x11 x12 x13 x14 x15 x16 x17 x18 x305000 x305001 x305002 x305003))) else (some false)))) else (undercroftlaw10_ExtentBlocks.j4 k x0 x2 x7 x8 x9 x11 x12 x13 x14 x15 x16 x17 x18 x305000 x305001 x305002 x305003)
def undercroftlaw10_ExtentBlocks.j4 : Nat → List (S24) → Int → List (S24) → Int → List (S24) → Int → List (S24) → Int → Int → Int → Bool → Bool → Bool → Int → Int → Int → Bool → Option (Bool)
 | 0, _, _, _, _, _, _, _, _, _, _, _, _, _, _, _, _, _ => none
 | k + 1, x0, x2, x7, x8, x9, x11, x12, x13, x14, x15, x16, x17, x18, x305000, x305001, x305002, x305003 => if x13 = 0 then ((extent_Find.f k x12 x14).bind fun bt339 => (if bt339.1 = x15 then (if (bt339.2.2 != x17) = true then (some false) else (if x16 = true then (if (bt339.2.1 != true) = true then (some false) else (undercroftlaw10_ExtentBlocks.l0 k x0 x2 x7 x8 x9 x11 x12 x13 (wrap64 (x14 + 1)) x305000 x305001 x305002 x305003)) else (if x18 = true then (if (bt339.2.1 != x17) = true then (some false) else (undercroftlaw10_ExtentBlocks.l0 k x0 x2 x7 x8 x9 x11 x12 x13 (wrap64 (x14 + 1)) x305000 x305001 x305002 x305003)) else (if (bt339.2.1 != false) = true then (some false) else (undercroftlaw10_ExtentBlocks.l0 k x0 x2 x7 x8 x9 x11 x12 x13 (wrap64 (x14 + 1)) x305000 x305001 x305002 x305003))))) else (some false))) else (undercroftlaw10_ExtentBlocks.l0 k x0 x2 x7 x8 x9 x11 x12 x13 (wrap64 (x14 + 1)) x305000 x305001 x305002 x305003)
end
def undercroftlaw10_ExtentBlocks.f (k : Nat) (l0 : List (S24)) (a1_0 : Int) (a1_1 : Int) (a1_2 : Int) (a1_3 : Bool) (a2 : Int) : Option (Bool) := (undercroftlaw10_alive.f k).bind fun t305 => (if t305 = true then ((extent_Check.f k l0).bind fun t306 => (if t306 = 0 then ((extent_Put.f k l0 a1_0 a1_1 a1_2 a1_3).bind fun bt308 => ((extent_Cut.f k l0 a1_0 a2).bind fun bt312 => ((extent_Mark.f k l0 a1_0 a2).bind fun bt319 => (if bt308.2 = 0 then ((extent_Check.f k bt308.1).bind fun t323 => (if t323 = 0 then (if bt312.2.2 = 0 then ((extent_Check.f k bt312.1).bind fun t324 => (if t324 = 0 then (if bt319.2 = 0 then ((extent_Check.f k bt319.1).bind fun t325 => (undercroftlaw10_ExtentBlocks.j0 k l0 a2 bt308.1 bt308.2 bt312.1 bt312.2.2 bt319.1 bt319.2 (t325 != 0) a1_0 a1_1 a1_2 a1_3)) else (undercroftlaw10_ExtentBlocks.j0 k l0 a2 bt308.1 bt308.2 bt312.1 bt312.2.2 bt319.1 bt319.2 false a1_0 a1_1 a1_2 a1_3)) else (undercroftlaw10_ExtentBlocks.j0 k l0 a2 bt308.1 bt308.2 bt312.1 bt312.2.2 bt319.1 bt319.2 true a1_0 a1_1 a1_2 a1_3))) else (if bt319.2 = 0 then ((extent_Check.f k bt319.1).bind fun t326 => (undercroftlaw10_ExtentBlocks.j0 k l0 a2 bt308.1 bt308.2 bt312.1 bt312.2.2 bt319.1 bt319.2 (t326 != 0) a1_0 a1_1 a1_2 a1_3)) else (undercroftlaw10_ExtentBlocks.j0 k l0 a2 bt308.1 bt308.2 bt312.1 bt312.2.2 bt319.1 bt319.2 false a1_0 a1_1 a1_2 a1_3))) else (undercroftlaw10_ExtentBlocks.j0 k l0 a2 bt308.1 bt308.2 bt312.1 bt312.2.2 bt319.1 bt319.2 true a1_0 a1_1 a1_2 a1_3))) else (if bt312.2.2 = 0 then ((extent_Check.f k bt312.1).bind fun t327 => (if t327 = 0 then (if bt319.2 = 0 then ((extent_Check.f k bt319.1).bind fun t328 => (undercroftlaw10_ExtentBlocks.j0 k l0 a2 bt308.1 bt308.2 bt312.1 bt312.2.2 bt319.1 bt319.2 (t328 != 0) a1_0 a1_1 a1_2 a1_3)) else (undercroftlaw10_ExtentBlocks.j0 k l0 a2 bt308.1 bt308.2 bt312.1 bt312.2.2 bt319.1 bt319.2 false a1_0 a1_1 a1_2 a1_3)) else (undercroftlaw10_ExtentBlocks.j0 k l0 a2 bt308.1 bt308.2 bt312.1 bt312.2.2 bt319.1 bt319.2 true a1_0 a1_1 a1_2 a1_3))) else (if bt319.2 = 0 then ((extent_Check.f k bt319.1).bind fun t329 => (undercroftlaw10_ExtentBlocks.j0 k l0 a2 bt308.1 bt308.2 bt312.1 bt312.2.2 bt319.1 bt319.2 (t329 != 0) a1_0 a1_1 a1_2 a1_3)) else (undercroftlaw10_ExtentBlocks.j0 k l0 a2 bt308.1 bt308.2 bt312.1 bt312.2.2 bt319.1 bt319.2 false a1_0 a1_1 a1_2 a1_3))))))) else ((extent_Need.f k l0).bind fun t307 => (some (t307 == (-1)))))) else (some false))
set_option maxHeartbeats 8000000 in
set_option maxRecDepth 100000 in
theorem undercroftlaw10_ExtentBlocks.calls (k : Nat) (A0 : Option Addr) (c0 : Nat) (l0 : List (S24)) (a1_0 : Int) (a1_1 : Int) (a1_2 : Int) (a1_3 : Bool) (a2 : Int) (r : Bool) (w : World) (hr0 : Kd.C k24 w A0 l0.length l0) (hc0 : l0.length ≤ c0) (h : undercroftlaw10_ExtentBlocks.f k l0 a1_0 a1_1 a1_2 a1_3 a2 = some r) :
  Calls Try.prog 8 #[.slice A0 l0.length c0, .agg #[.int .i64 a1_0, .int .i64 a1_1, .int .i64 a1_2, .bool a1_3], .int .i64 a2] w fun e w' => e = .returned (.bool r) ∧ Below w.heap.size w w' := by
 have hu24 := Try.underlying24
 have HR0 := Aside0.mk hr0
 have HC0 := Aside0.mk hc0
 clear hr0 hc0
 have HB := Aside0.mk (Below.refl w.heap.size w)
 have H : ((undercroftlaw10_alive.f k).bind fun t305 => (if t305 = true then ((extent_Check.f k l0).bind fun t306 => (if t306 = 0 then ((extent_Put.f k l0 a1_0 a1_1 a1_2 a1_3).bind fun bt308 => ((extent_Cut.f k l0 a1_0 a2).bind fun bt312 => ((extent_Mark.f k l0 a1_0 a2).bind fun bt319 => (if bt308.2 = 0 then ((extent_Check.f k bt308.1).bind fun t323 => (if t323 = 0 then (if bt312.2.2 = 0 then ((extent_Check.f k bt312.1).bind fun t324 => (if t324 = 0 then (if bt319.2 = 0 then ((extent_Check.f k bt319.1).bind fun t325 => (undercroftlaw10_ExtentBlocks.j0 k l0 a2 bt308.1 bt308.2 bt312.1 bt312.2.2 bt319.1 bt319.2 (t325 != 0) a1_0 a1_1 a1_2 a1_3)) else (undercroftlaw10_ExtentBlocks.j0 k l0 a2 bt308.1 bt308.2 bt312.1 bt312.2.2 bt319.1 bt319.2 false a1_0 a1_1 a1_2 a1_3)) else (undercroftlaw10_ExtentBlocks.j0 k l0 a2 bt308.1 bt308.2 bt312.1 bt312.2.2 bt319.1 bt319.2 true a1_0 a1_1 a1_2 a1_3))) else (if bt319.2 = 0 then ((extent_Check.f k bt319.1).bind fun t326 => (undercroftlaw10_ExtentBlocks.j0 k l0 a2 bt308.1 bt308.2 bt312.1 bt312.2.2 bt319.1 bt319.2 (t326 != 0) a1_0 a1_1 a1_2 a1_3)) else (undercroftlaw10_ExtentBlocks.j0 k l0 a2 bt308.1 bt308.2 bt312.1 bt312.2.2 bt319.1 bt319.2 false a1_0 a1_1 a1_2 a1_3))) else (undercroftlaw10_ExtentBlocks.j0 k l0 a2 bt308.1 bt308.2 bt312.1 bt312.2.2 bt319.1 bt319.2 true a1_0 a1_1 a1_2 a1_3))) else (if bt312.2.2 = 0 then ((extent_Check.f k bt312.1).bind fun t327 => (if t327 = 0 then (if bt319.2 = 0 then ((extent_Check.f k bt319.1).bind fun t328 => (undercroftlaw10_ExtentBlocks.j0 k l0 a2 bt308.1 bt308.2 bt312.1 bt312.2.2 bt319.1 bt319.2 (t328 != 0) a1_0 a1_1 a1_2 a1_3)) else (undercroftlaw10_ExtentBlocks.j0 k l0 a2 bt308.1 bt308.2 bt312.1 bt312.2.2 bt319.1 bt319.2 false a1_0 a1_1 a1_2 a1_3)) else (undercroftlaw10_ExtentBlocks.j0 k l0 a2 bt308.1 bt308.2 bt312.1 bt312.2.2 bt319.1 bt319.2 true a1_0 a1_1 a1_2 a1_3))) else (if bt319.2 = 0 then ((extent_Check.f k bt319.1).bind fun t329 => (undercroftlaw10_ExtentBlocks.j0 k l0 a2 bt308.1 bt308.2 bt312.1 bt312.2.2 bt319.1 bt319.2 (t329 != 0) a1_0 a1_1 a1_2 a1_3)) else (undercroftlaw10_ExtentBlocks.j0 k l0 a2 bt308.1 bt308.2 bt312.1 bt312.2.2 bt319.1 bt319.2 false a1_0 a1_1 a1_2 a1_3))))))) else ((extent_Need.f k l0).bind fun t307 => (some (t307 == (-1)))))) else (some false))) = some r := h
 clear h
 replace H := Option.bind_eq_some_iff.mp H
 obtain ⟨t305, A40, H⟩ := H
 replace H : (if t305 = true then ((extent_Check.f k l0).bind fun t306 => (if t306 = 0 then ((extent_Put.f k l0 a1_0 a1_1 a1_2 a1_3).bind fun bt308 => ((extent_Cut.f k l0 a1_0 a2).bind fun bt312 => ((extent_Mark.f k l0 a1_0 a2).bind fun bt319 => (if bt308.2 = 0 then ((extent_Check.f k bt308.1).bind fun t323 => (if t323 = 0 then (if bt312.2.2 = 0 then ((extent_Check.f k bt312.1).bind fun t324 => (if t324 = 0 then (if bt319.2 = 0 then ((extent_Check.f k bt319.1).bind fun t325 => (undercroftlaw10_ExtentBlocks.j0 k l0 a2 bt308.1 bt308.2 bt312.1 bt312.2.2 bt319.1 bt319.2 (t325 != 0) a1_0 a1_1 a1_2 a1_3)) else (undercroftlaw10_ExtentBlocks.j0 k l0 a2 bt308.1 bt308.2 bt312.1 bt312.2.2 bt319.1 bt319.2 false a1_0 a1_1 a1_2 a1_3)) else (undercroftlaw10_ExtentBlocks.j0 k l0 a2 bt308.1 bt308.2 bt312.1 bt312.2.2 bt319.1 bt319.2 true a1_0 a1_1 a1_2 a1_3))) else (if bt319.2 = 0 then ((extent_Check.f k bt319.1).bind fun t326 => (undercroftlaw10_ExtentBlocks.j0 k l0 a2 bt308.1 bt308.2 bt312.1 bt312.2.2 bt319.1 bt319.2 (t326 != 0) a1_0 a1_1 a1_2 a1_3)) else (undercroftlaw10_ExtentBlocks.j0 k l0 a2 bt308.1 bt308.2 bt312.1 bt312.2.2 bt319.1 bt319.2 false a1_0 a1_1 a1_2 a1_3))) else (undercroftlaw10_ExtentBlocks.j0 k l0 a2 bt308.1 bt308.2 bt312.1 bt312.2.2 bt319.1 bt319.2 true a1_0 a1_1 a1_2 a1_3))) else (if bt312.2.2 = 0 then ((extent_Check.f k bt312.1).bind fun t327 => (if t327 = 0 then (if bt319.2 = 0 then ((extent_Check.f k bt319.1).bind fun t328 => (undercroftlaw10_ExtentBlocks.j0 k l0 a2 bt308.1 bt308.2 bt312.1 bt312.2.2 bt319.1 bt319.2 (t328 != 0) a1_0 a1_1 a1_2 a1_3)) else (undercroftlaw10_ExtentBlocks.j0 k l0 a2 bt308.1 bt308.2 bt312.1 bt312.2.2 bt319.1 bt319.2 false a1_0 a1_1 a1_2 a1_3)) else (undercroftlaw10_ExtentBlocks.j0 k l0 a2 bt308.1 bt308.2 bt312.1 bt312.2.2 bt319.1 bt319.2 true a1_0 a1_1 a1_2 a1_3))) else (if bt319.2 = 0 then ((extent_Check.f k bt319.1).bind fun t329 => (undercroftlaw10_ExtentBlocks.j0 k l0 a2 bt308.1 bt308.2 bt312.1 bt312.2.2 bt319.1 bt319.2 (t329 != 0) a1_0 a1_1 a1_2 a1_3)) else (undercroftlaw10_ExtentBlocks.j0 k l0 a2 bt308.1 bt308.2 bt312.1 bt312.2.2 bt319.1 bt319.2 false a1_0 a1_1 a1_2 a1_3))))))) else ((extent_Need.f k l0).bind fun t307 => (some (t307 == (-1)))))) else (some false)) = some r := H
 have A4 := Aside0.mk A40
 clear A40
 by_cases c5 : t305 = true
 ·subst c5
  have H1 : ((extent_Check.f k l0).bind fun t306 => (if t306 = 0 then ((extent_Put.f k l0 a1_0 a1_1 a1_2 a1_3).bind fun bt308 => ((extent_Cut.f k l0 a1_0 a2).bind fun bt312 => ((extent_Mark.f k l0 a1_0 a2).bind fun bt319 => (if bt308.2 = 0 then ((extent_Check.f k bt308.1).bind fun t323 => (if t323 = 0 then (if bt312.2.2 = 0 then ((extent_Check.f k bt312.1).bind fun t324 => (if t324 = 0 then (if bt319.2 = 0 then ((extent_Check.f k bt319.1).bind fun t325 => (undercroftlaw10_ExtentBlocks.j0 k l0 a2 bt308.1 bt308.2 bt312.1 bt312.2.2 bt319.1 bt319.2 (t325 != 0) a1_0 a1_1 a1_2 a1_3)) else (undercroftlaw10_ExtentBlocks.j0 k l0 a2 bt308.1 bt308.2 bt312.1 bt312.2.2 bt319.1 bt319.2 false a1_0 a1_1 a1_2 a1_3)) else (undercroftlaw10_ExtentBlocks.j0 k l0 a2 bt308.1 bt308.2 bt312.1 bt312.2.2 bt319.1 bt319.2 true a1_0 a1_1 a1_2 a1_3))) else (if bt319.2 = 0 then ((extent_Check.f k bt319.1).bind fun t326 => (undercroftlaw10_ExtentBlocks.j0 k l0 a2 bt308.1 bt308.2 bt312.1 bt312.2.2 bt319.1 bt319.2 (t326 != 0) a1_0 a1_1 a1_2 a1_3)) else (undercroftlaw10_ExtentBlocks.j0 k l0 a2 bt308.1 bt308.2 bt312.1 bt312.2.2 bt319.1 bt319.2 false a1_0 a1_1 a1_2 a1_3))) else (undercroftlaw10_ExtentBlocks.j0 k l0 a2 bt308.1 bt308.2 bt312.1 bt312.2.2 bt319.1 bt319.2 true a1_0 a1_1 a1_2 a1_3))) else (if bt312.2.2 = 0 then ((extent_Check.f k bt312.1).bind fun t327 => (if t327 = 0 then (if bt319.2 = 0 then ((extent_Check.f k bt319.1).bind fun t328 => (undercroftlaw10_ExtentBlocks.j0 k l0 a2 bt308.1 bt308.2 bt312.1 bt312.2.2 bt319.1 bt319.2 (t328 != 0) a1_0 a1_1 a1_2 a1_3)) else (undercroftlaw10_ExtentBlocks.j0 k l0 a2 bt308.1 bt308.2 bt312.1 bt312.2.2 bt319.1 bt319.2 false a1_0 a1_1 a1_2 a1_3)) else (undercroftlaw10_ExtentBlocks.j0 k l0 a2 bt308.1 bt308.2 bt312.1 bt312.2.2 bt319.1 bt319.2 true a1_0 a1_1 a1_2 a1_3))) else (if bt319.2 = 0 then ((extent_Check.f k bt319.1).bind fun t329 => (undercroftlaw10_ExtentBlocks.j0 k l0 a2 bt308.1 bt308.2 bt312.1 bt312.2.2 bt319.1 bt319.2 (t329 != 0) a1_0 a1_1 a1_2 a1_3)) else (undercroftlaw10_ExtentBlocks.j0 k l0 a2 bt308.1 bt308.2 bt312.1 bt312.2.2 bt319.1 bt319.2 false a1_0 a1_1 a1_2 a1_3))))))) else ((extent_Need.f k l0).bind fun t307 => (some (t307 == (-1)))))) = some r := by rw [if_pos rfl] at H; exact H
  clear H;have H := H1;clear H1
  replace H := Option.bind_eq_some_iff.mp H
  obtain ⟨t306, A60, H⟩ := H
  replace H : (if t306 = 0 then ((extent_Put.f k l0 a1_0 a1_1 a1_2 a1_3).bind fun bt308 => ((extent_Cut.f k l0 a1_0 a2).bind fun bt312 => ((extent_Mark.f k l0 a1_0 a2).bind fun bt319 => (if bt308.2 = 0 then ((extent_Check.f k bt308.1).bind fun t323 => (if t323 = 0 then (if bt312.2.2 = 0 then ((extent_Check.f k bt312.1).bind fun t324 => (if t324 = 0 then (if bt319.2 = 0 then ((extent_Check.f k bt319.1).bind fun t325 => (undercroftlaw10_ExtentBlocks.j0 k l0 a2 bt308.1 bt308.2 bt312.1 bt312.2.2 bt319.1 bt319.2 (t325 != 0) a1_0 a1_1 a1_2 a1_3)) else (undercroftlaw10_ExtentBlocks.j0 k l0 a2 bt308.1 bt308.2 bt312.1 bt312.2.2 bt319.1 bt319.2 false a1_0 a1_1 a1_2 a1_3)) else (undercroftlaw10_ExtentBlocks.j0 k l0 a2 bt308.1 bt308.2 bt312.1 bt312.2.2 bt319.1 bt319.2 true a1_0 a1_1 a1_2 a1_3))) else (if bt319.2 = 0 then ((extent_Check.f k bt319.1).bind fun t326 => (undercroftlaw10_ExtentBlocks.j0 k l0 a2 bt308.1 bt308.2 bt312.1 bt312.2.2 bt319.1 bt319.2 (t326 != 0) a1_0 a1_1 a1_2 a1_3)) else (undercroftlaw10_ExtentBlocks.j0 k l0 a2 bt308.1 bt308.2 bt312.1 bt312.2.2 bt319.1 bt319.2 false a1_0 a1_1 a1_2 a1_3))) else (undercroftlaw10_ExtentBlocks.j0 k l0 a2 bt308.1 bt308.2 bt312.1 bt312.2.2 bt319.1 bt319.2 true a1_0 a1_1 a1_2 a1_3))) else (if bt312.2.2 = 0 then ((extent_Check.f k bt312.1).bind fun t327 => (if t327 = 0 then (if bt319.2 = 0 then ((extent_Check.f k bt319.1).bind fun t328 => (undercroftlaw10_ExtentBlocks.j0 k l0 a2 bt308.1 bt308.2 bt312.1 bt312.2.2 bt319.1 bt319.2 (t328 != 0) a1_0 a1_1 a1_2 a1_3)) else (undercroftlaw10_ExtentBlocks.j0 k l0 a2 bt308.1 bt308.2 bt312.1 bt312.2.2 bt319.1 bt319.2 false a1_0 a1_1 a1_2 a1_3)) else (undercroftlaw10_ExtentBlocks.j0 k l0 a2 bt308.1 bt308.2 bt312.1 bt312.2.2 bt319.1 bt319.2 true a1_0 a1_1 a1_2 a1_3))) else (if bt319.2 = 0 then ((extent_Check.f k bt319.1).bind fun t329 => (undercroftlaw10_ExtentBlocks.j0 k l0 a2 bt308.1 bt308.2 bt312.1 bt312.2.2 bt319.1 bt319.2 (t329 != 0) a1_0 a1_1 a1_2 a1_3)) else (undercroftlaw10_ExtentBlocks.j0 k l0 a2 bt308.1 bt308.2 bt312.1 bt312.2.2 bt319.1 bt319.2 false a1_0 a1_1 a1_2 a1_3))))))) else ((extent_Need.f k l0).bind fun t307 => (some (t307 == (-1))))) = some r := H
  have A6 := Aside0.mk A60
  clear A60
  by_cases c7 : t306 = 0
  ·rw [if_pos c7] at H
   have c7b0 : (t306 == 0) = true := beq_iff_eq.mpr c7
   have c7b1 : (t306 != 0) = false := bne_eq_false_iff_eq.mpr c7
   clear c7
   replace H := Option.bind_eq_some_iff.mp H
   obtain ⟨⟨t308, t311⟩, A80, H⟩ := H
   replace H : ((extent_Cut.f k l0 a1_0 a2).bind fun bt312 => ((extent_Mark.f k l0 a1_0 a2).bind fun bt319 => (if t311 = 0 then ((extent_Check.f k t308).bind fun t323 => (if t323 = 0 then (if bt312.2.2 = 0 then ((extent_Check.f k bt312.1).bind fun t324 => (if t324 = 0 then (if bt319.2 = 0 then ((extent_Check.f k bt319.1).bind fun t325 => (undercroftlaw10_ExtentBlocks.j0 k l0 a2 t308 t311 bt312.1 bt312.2.2 bt319.1 bt319.2 (t325 != 0) a1_0 a1_1 a1_2 a1_3)) else (undercroftlaw10_ExtentBlocks.j0 k l0 a2 t308 t311 bt312.1 bt312.2.2 bt319.1 bt319.2 false a1_0 a1_1 a1_2 a1_3)) else (undercroftlaw10_ExtentBlocks.j0 k l0 a2 t308 t311 bt312.1 bt312.2.2 bt319.1 bt319.2 true a1_0 a1_1 a1_2 a1_3))) else (if bt319.2 = 0 then ((extent_Check.f k bt319.1).bind fun t326 => (undercroftlaw10_ExtentBlocks.j0 k l0 a2 t308 t311 bt312.1 bt312.2.2 bt319.1 bt319.2 (t326 != 0) a1_0 a1_1 a1_2 a1_3)) else (undercroftlaw10_ExtentBlocks.j0 k l0 a2 t308 t311 bt312.1 bt312.2.2 bt319.1 bt319.2 false a1_0 a1_1 a1_2 a1_3))) else (undercroftlaw10_ExtentBlocks.j0 k l0 a2 t308 t311 bt312.1 bt312.2.2 bt319.1 bt319.2 true a1_0 a1_1 a1_2 a1_3))) else (if bt312.2.2 = 0 then ((extent_Check.f k bt312.1).bind fun t327 => (if t327 = 0 then (if bt319.2 = 0 then ((extent_Check.f k bt319.1).bind fun t328 => (undercroftlaw10_ExtentBlocks.j0 k l0 a2 t308 t311 bt312.1 bt312.2.2 bt319.1 bt319.2 (t328 != 0) a1_0 a1_1 a1_2 a1_3)) else (undercroftlaw10_ExtentBlocks.j0 k l0 a2 t308 t311 bt312.1 bt312.2.2 bt319.1 bt319.2 false a1_0 a1_1 a1_2 a1_3)) else (undercroftlaw10_ExtentBlocks.j0 k l0 a2 t308 t311 bt312.1 bt312.2.2 bt319.1 bt319.2 true a1_0 a1_1 a1_2 a1_3))) else (if bt319.2 = 0 then ((extent_Check.f k bt319.1).bind fun t329 => (undercroftlaw10_ExtentBlocks.j0 k l0 a2 t308 t311 bt312.1 bt312.2.2 bt319.1 bt319.2 (t329 != 0) a1_0 a1_1 a1_2 a1_3)) else (undercroftlaw10_ExtentBlocks.j0 k l0 a2 t308 t311 bt312.1 bt312.2.2 bt319.1 bt319.2 false a1_0 a1_1 a1_2 a1_3)))))) = some r := H
   have A8 := Aside0.mk A80
   clear A80
   replace H := Option.bind_eq_some_iff.mp H
   obtain ⟨⟨t312, t313, t314⟩, A90, H⟩ := H
   replace H : ((extent_Mark.f k l0 a1_0 a2).bind fun bt319 => (if t311 = 0 then ((extent_Check.f k t308).bind fun t323 => (if t323 = 0 then (if t314 = 0 then ((extent_Check.f k t312).bind fun t324 => (if t324 = 0 then (if bt319.2 = 0 then ((extent_Check.f k bt319.1).bind fun t325 => (undercroftlaw10_ExtentBlocks.j0 k l0 a2 t308 t311 t312 t314 bt319.1 bt319.2 (t325 != 0) a1_0 a1_1 a1_2 a1_3)) else (undercroftlaw10_ExtentBlocks.j0 k l0 a2 t308 t311 t312 t314 bt319.1 bt319.2 false a1_0 a1_1 a1_2 a1_3)) else (undercroftlaw10_ExtentBlocks.j0 k l0 a2 t308 t311 t312 t314 bt319.1 bt319.2 true a1_0 a1_1 a1_2 a1_3))) else (if bt319.2 = 0 then ((extent_Check.f k bt319.1).bind fun t326 => (undercroftlaw10_ExtentBlocks.j0 k l0 a2 t308 t311 t312 t314 bt319.1 bt319.2 (t326 != 0) a1_0 a1_1 a1_2 a1_3)) else (undercroftlaw10_ExtentBlocks.j0 k l0 a2 t308 t311 t312 t314 bt319.1 bt319.2 false a1_0 a1_1 a1_2 a1_3))) else (undercroftlaw10_ExtentBlocks.j0 k l0 a2 t308 t311 t312 t314 bt319.1 bt319.2 true a1_0 a1_1 a1_2 a1_3))) else (if t314 = 0 then ((extent_Check.f k t312).bind fun t327 => (if t327 = 0 then (if bt319.2 = 0 then ((extent_Check.f k bt319.1).bind fun t328 => (undercroftlaw10_ExtentBlocks.j0 k l0 a2 t308 t311 t312 t314 bt319.1 bt319.2 (t328 != 0) a1_0 a1_1 a1_2 a1_3)) else (undercroftlaw10_ExtentBlocks.j0 k l0 a2 t308 t311 t312 t314 bt319.1 bt319.2 false a1_0 a1_1 a1_2 a1_3)) else (undercroftlaw10_ExtentBlocks.j0 k l0 a2 t308 t311 t312 t314 bt319.1 bt319.2 true a1_0 a1_1 a1_2 a1_3))) else (if bt319.2 = 0 then ((extent_Check.f k bt319.1).bind fun t329 => (undercroftlaw10_ExtentBlocks.j0 k l0 a2 t308 t311 t312 t314 bt319.1 bt319.2 (t329 != 0) a1_0 a1_1 a1_2 a1_3)) else (undercroftlaw10_ExtentBlocks.j0 k l0 a2 t308 t311 t312 t314 bt319.1 bt319.2 false a1_0 a1_1 a1_2 a1_3))))) = some r := H
   have A9 := Aside0.mk A90
   clear A90
   replace H := Option.bind_eq_some_iff.mp H
   obtain ⟨⟨t319, t320⟩, A100, H⟩ := H
   replace H : (if t311 = 0 then ((extent_Check.f k t308).bind fun t323 => (if t323 = 0 then (if t314 = 0 then ((extent_Check.f k t312).bind fun t324 => (if t324 = 0 then (if t320 = 0 then ((extent_Check.f k t319).bind fun t325 => (undercroftlaw10_ExtentBlocks.j0 k l0 a2 t308 t311 t312 t314 t319 t320 (t325 != 0) a1_0 a1_1 a1_2 a1_3)) else (undercroftlaw10_ExtentBlocks.j0 k l0 a2 t308 t311 t312 t314 t319 t320 false a1_0 a1_1 a1_2 a1_3)) else (undercroftlaw10_ExtentBlocks.j0 k l0 a2 t308 t311 t312 t314 t319 t320 true a1_0 a1_1 a1_2 a1_3))) else (if t320 = 0 then ((extent_Check.f k t319).bind fun t326 => (undercroftlaw10_ExtentBlocks.j0 k l0 a2 t308 t311 t312 t314 t319 t320 (t326 != 0) a1_0 a1_1 a1_2 a1_3)) else (undercroftlaw10_ExtentBlocks.j0 k l0 a2 t308 t311 t312 t314 t319 t320 false a1_0 a1_1 a1_2 a1_3))) else (undercroftlaw10_ExtentBlocks.j0 k l0 a2 t308 t311 t312 t314 t319 t320 true a1_0 a1_1 a1_2 a1_3))) else (if t314 = 0 then ((extent_Check.f k t312).bind fun t327 => (if t327 = 0 then (if t320 = 0 then ((extent_Check.f k t319).bind fun t328 => (undercroftlaw10_ExtentBlocks.j0 k l0 a2 t308 t311 t312 t314 t319 t320 (t328 != 0) a1_0 a1_1 a1_2 a1_3)) else (undercroftlaw10_ExtentBlocks.j0 k l0 a2 t308 t311 t312 t314 t319 t320 false a1_0 a1_1 a1_2 a1_3)) else (undercroftlaw10_ExtentBlocks.j0 k l0 a2 t308 t311 t312 t314 t319 t320 true a1_0 a1_1 a1_2 a1_3))) else (if t320 = 0 then ((extent_Check.f k t319).bind fun t329 => (undercroftlaw10_ExtentBlocks.j0 k l0 a2 t308 t311 t312 t314 t319 t320 (t329 != 0) a1_0 a1_1 a1_2 a1_3)) else (undercroftlaw10_ExtentBlocks.j0 k l0 a2 t308 t311 t312 t314 t319 t320 false a1_0 a1_1 a1_2 a1_3)))) = some r := H
   have A10 := Aside0.mk A100
   clear A100
   have HC11 := Aside0.mk H
   clear H
   go_enter Try.func8, Try.ntmps8
   go_upto_region 8 with (first | ((with_reducible refine gate_dst (N := 4) rfl ?_); refine box_event ?hg (N := 4) ?hd (cs := #[.int .i64 a1_0, .int .i64 a1_1, .int .i64 a1_2, .bool a1_3]) (t := 24) ?hr ?_; (case hd => rfl); (case hg => rfl); (case hr => first | (go_simp; done) | (go_simp; rfl)); intro gb304 hg w12 hbox hb; have n0_ := Aside0.mk (below_step (by repeat (first | (with_reducible first | exact HB.out | apply below_alloc | apply pw_below_drewN | apply below_drew1) | exact HB.out)) hb); have n1_ := Aside0.mk (hbox); have n2_ := Aside0.mk ((by rw [hg]; exact (below_size (by repeat (first | (with_reducible first | exact HB.out | apply below_alloc | apply pw_below_drewN | apply below_drew1) | exact HB.out))) : w.heap.size ≤ gb304)); have n3_ := Aside0.mk ((by rw [hg]; exact (below_size (by repeat (first | (with_reducible first | exact HB.out | apply below_alloc | apply pw_below_drewN | apply below_drew1) | exact HB.out))) : w.heap.size ≤ gb304)); clear HB; have HB := n0_; have BK304 := n1_; have GW304 := n2_; have GE304 := n3_; clear n0_ n1_ n2_ n3_; clear hb hbox hg) | ((with_reducible refine gate_callee (f := 11) rfl ?_); refine goesL_ (some 29) rfl rfl Try.func11 (by kernel_rfl) rfl #[] rfl (by (try simp only [List.map_toArray, List.map_cons, List.map_nil]); first | done | rfl | (simp only [List.length_drop, List.length_take]; rfl)) ?_; (with_reducible refine (undercroftlaw10_alive.calls k  true _ A4.out).mono ?_); rintro e w13 ⟨rfl, hb⟩; refine ⟨_, rfl, ?_⟩; have n0_ := Aside0.mk (blk_below (g := gb304) (o := .cells #[.int .i64 a1_0, .int .i64 a1_1, .int .i64 a1_2, .bool a1_3] 24 (0, 0)) (by (with_reducible repeat (first | refine blk_drewN ?_ _ | refine blk_drew ?_ | refine blk_alloc ?_ _)); exact BK304.out) hb); have n1_ := Aside0.mk (below_step (by repeat (first | (with_reducible first | exact HB.out | apply below_alloc | apply pw_below_drewN | apply below_drew1 | refine below_set ?_ GE304.out) | exact HB.out)) hb); clear BK304; clear HB; have BK304 := n0_; have HB := n1_; clear n0_ n1_; (try clear hb); (try clear hb2); (try clear hk); (try clear hi)) | ((with_reducible refine gate_callee (f := 12) rfl ?_); refine goesL_ (some 32) rfl rfl Try.func12 (by kernel_rfl) rfl #[.slice A0 l0.length c0] rfl (by (try simp only [List.map_toArray, List.map_cons, List.map_nil]); first | done | rfl | (simp only [List.length_drop, List.length_take]; rfl)) ?_; (with_reducible refine (extent_Check.calls k _ _ l0 t306 _ ?side1 ?side2 A6.out).mono ?_); (case side1 => repeat (first | exact (Kd.C_below HR0.out HB.out) | (with_reducible refine Kd.C_alloc ?_ _) | (with_reducible refine Kd.C_drewN ?_ _) | (with_reducible refine Kd.C_drew ?_))); (case side2 => exact HC0.out); rintro e w14 ⟨rfl, hb⟩; refine ⟨_, rfl, ?_⟩; have n0_ := Aside0.mk (blk_below (g := gb304) (o := .cells #[.int .i64 a1_0, .int .i64 a1_1, .int .i64 a1_2, .bool a1_3] 24 (0, 0)) (by (with_reducible repeat (first | refine blk_drewN ?_ _ | refine blk_drew ?_ | refine blk_alloc ?_ _)); exact BK304.out) hb); have n1_ := Aside0.mk (below_step (by repeat (first | (with_reducible first | exact HB.out | apply below_alloc | apply pw_below_drewN | apply below_drew1 | refine below_set ?_ GE304.out) | exact HB.out)) hb); clear BK304; clear HB; have BK304 := n0_; have HB := n1_; clear n0_ n1_; (try clear hb); (try clear hb2); (try clear hk); (try clear hi); have hcz15_0 : w14.cell? ⟨gb304, 0, none⟩ = some (.int .i64 a1_0) := (blk_cell BK304.out 0).trans rfl; have hcz15_1 : w14.cell? ⟨gb304, 1, none⟩ = some (.int .i64 a1_1) := (blk_cell BK304.out 1).trans rfl; have hcz15_2 : w14.cell? ⟨gb304, 2, none⟩ = some (.int .i64 a1_2) := (blk_cell BK304.out 2).trans rfl; have hcz15_3 : w14.cell? ⟨gb304, 3, none⟩ = some (.bool a1_3) := (blk_cell BK304.out 3).trans rfl; have hfz15_0 := blk_frozen BK304.out 0; have hfz15_1 := blk_frozen BK304.out 1; have hfz15_2 := blk_frozen BK304.out 2; have hfz15_3 := blk_frozen BK304.out 3) | ((with_reducible refine gate_callee (f := 14) rfl ?_); refine goesL_ (some 40) rfl rfl Try.func14 (by kernel_rfl) rfl #[.slice A0 l0.length c0, .agg #[.int .i64 a1_0, .int .i64 a1_1, .int .i64 a1_2, .bool a1_3]] rfl (by (try simp only [List.map_toArray, List.map_cons, List.map_nil]); first | done | rfl | (simp only [List.length_drop, List.length_take]; rfl)) ?_; (with_reducible refine (extent_Put.calls k _ _ l0 a1_0 a1_1 a1_2 a1_3 t308 t311 _ ?side1 ?side2 A8.out).mono ?_); (case side1 => repeat (first | exact (Kd.C_below HR0.out HB.out) | (with_reducible refine Kd.C_alloc ?_ _) | (with_reducible refine Kd.C_drewN ?_ _) | (with_reducible refine Kd.C_drew ?_))); (case side2 => exact HC0.out); rintro e w16 ⟨v309, rfl, ho0, hb⟩; refine ⟨_, rfl, ?_⟩; have n0_ := Aside0.mk (Kd.R_lower (Kd.R_newB ho0 (g := gb304) (o := .cells #[.int .i64 a1_0, .int .i64 a1_1, .int .i64 a1_2, .bool a1_3] 24 (0, 0)) (by (with_reducible repeat (first | refine blk_drewN ?_ _ | refine blk_drew ?_ | refine blk_alloc ?_ _)); exact BK304.out)) (below_size (by repeat (first | (with_reducible first | exact HB.out | apply below_alloc | apply pw_below_drewN | apply below_drew1 | refine below_set ?_ GE304.out) | exact HB.out)))); have n1_ := Aside0.mk (blk_below (g := gb304) (o := .cells #[.int .i64 a1_0, .int .i64 a1_1, .int .i64 a1_2, .bool a1_3] 24 (0, 0)) (by (with_reducible repeat (first | refine blk_drewN ?_ _ | refine blk_drew ?_ | refine blk_alloc ?_ _)); exact BK304.out) hb); have n2_ := Aside0.mk (below_step (by repeat (first | (with_reducible first | exact HB.out | apply below_alloc | apply pw_below_drewN | apply below_drew1 | refine below_set ?_ GE304.out) | exact HB.out)) hb); clear BK304; clear HB; have HO310 := n0_; have BK304 := n1_; have HB := n2_; clear n0_ n1_ n2_; (try clear hb); (try clear hb2); (try clear hk); (try clear hi); (try clear ho0); have hcz17_0 : w16.cell? ⟨gb304, 0, none⟩ = some (.int .i64 a1_0) := (blk_cell BK304.out 0).trans rfl; have hcz17_1 : w16.cell? ⟨gb304, 1, none⟩ = some (.int .i64 a1_1) := (blk_cell BK304.out 1).trans rfl; have hcz17_2 : w16.cell? ⟨gb304, 2, none⟩ = some (.int .i64 a1_2) := (blk_cell BK304.out 2).trans rfl; have hcz17_3 : w16.cell? ⟨gb304, 3, none⟩ = some (.bool a1_3) := (blk_cell BK304.out 3).trans rfl; have hfz17_0 := blk_frozen BK304.out 0; have hfz17_1 := blk_frozen BK304.out 1; have hfz17_2 := blk_frozen BK304.out 2; have hfz17_3 := blk_frozen BK304.out 3) | ((with_reducible refine gate_callee (f := 13) rfl ?_); refine goesL_ (some 48) rfl rfl Try.func13 (by kernel_rfl) rfl #[.slice A0 l0.length c0, .int .i64 a1_0, .int .i64 a2] rfl (by (try simp only [List.map_toArray, List.map_cons, List.map_nil]); first | done | rfl | (simp only [List.length_drop, List.length_take]; rfl)) ?_; (with_reducible refine (extent_Cut.calls k _ _ l0 a1_0 a2 t312 t313 t314 _ ?side1 ?side2 A9.out).mono ?_); (case side1 => repeat (first | exact (Kd.C_below HR0.out HB.out) | (with_reducible refine Kd.C_alloc ?_ _) | (with_reducible refine Kd.C_drewN ?_ _) | (with_reducible refine Kd.C_drew ?_))); (case side2 => exact HC0.out); rintro e w18 ⟨v315, v317, rfl, ho0, ho1, hb⟩; refine ⟨_, rfl, ?_⟩; have n0_ := Aside0.mk (Kd.R_elder' (by (with_reducible repeat (first | apply Kd.R_alloc | apply Kd.R_drewN | apply Kd.R_drew)); exact HO310.out) (Kd.R_base ho0) hb); have n1_ := Aside0.mk (Kd.R_lower (Kd.R_newB (Kd.R_new' ho0 (Kd.R_lt (by (with_reducible repeat (first | apply Kd.R_alloc | apply Kd.R_drewN | apply Kd.R_drew)); exact HO310.out))) (g := gb304) (o := .cells #[.int .i64 a1_0, .int .i64 a1_1, .int .i64 a1_2, .bool a1_3] 24 (0, 0)) (by (with_reducible repeat (first | refine blk_drewN ?_ _ | refine blk_drew ?_ | refine blk_alloc ?_ _)); exact BK304.out)) (below_size (by repeat (first | (with_reducible first | exact HB.out | apply below_alloc | apply pw_below_drewN | apply below_drew1 | refine below_set ?_ GE304.out) | exact HB.out)))); have n2_ := Aside0.mk (Kd.R_lower ho1 (below_size (by repeat (first | (with_reducible first | exact HB.out | apply below_alloc | apply pw_below_drewN | apply below_drew1 | refine below_set ?_ GE304.out) | exact HB.out)))); have n3_ := Aside0.mk (blk_below (g := gb304) (o := .cells #[.int .i64 a1_0, .int .i64 a1_1, .int .i64 a1_2, .bool a1_3] 24 (0, 0)) (by (with_reducible repeat (first | refine blk_drewN ?_ _ | refine blk_drew ?_ | refine blk_alloc ?_ _)); exact BK304.out) hb); have n4_ := Aside0.mk (below_step (by repeat (first | (with_reducible first | exact HB.out | apply below_alloc | apply pw_below_drewN | apply below_drew1 | refine below_set ?_ GE304.out) | exact HB.out)) hb); clear HO310; clear BK304; clear HB; have HO310 := n0_; have HO316 := n1_; have HO318 := n2_; have BK304 := n3_; have HB := n4_; clear n0_ n1_ n2_ n3_ n4_; (try clear hb); (try clear hb2); (try clear hk); (try clear hi); (try clear ho0); (try clear ho1); have hcz19_0 : w18.cell? ⟨gb304, 0, none⟩ = some (.int .i64 a1_0) := (blk_cell BK304.out 0).trans rfl; have hcz19_1 : w18.cell? ⟨gb304, 1, none⟩ = some (.int .i64 a1_1) := (blk_cell BK304.out 1).trans rfl; have hcz19_2 : w18.cell? ⟨gb304, 2, none⟩ = some (.int .i64 a1_2) := (blk_cell BK304.out 2).trans rfl; have hcz19_3 : w18.cell? ⟨gb304, 3, none⟩ = some (.bool a1_3) := (blk_cell BK304.out 3).trans rfl; have hfz19_0 := blk_frozen BK304.out 0; have hfz19_1 := blk_frozen BK304.out 1; have hfz19_2 := blk_frozen BK304.out 2; have hfz19_3 := blk_frozen BK304.out 3) | ((with_reducible refine gate_callee (f := 22) rfl ?_); refine goesL_ (some 57) rfl rfl Try.func22 (by kernel_rfl) rfl #[.slice A0 l0.length c0, .int .i64 a1_0, .int .i64 a2] rfl (by (try simp only [List.map_toArray, List.map_cons, List.map_nil]); first | done | rfl | (simp only [List.length_drop, List.length_take]; rfl)) ?_; (with_reducible refine (extent_Mark.calls k _ _ l0 a1_0 a2 t319 t320 _ ?side1 ?side2 A10.out).mono ?_); (case side1 => repeat (first | exact (Kd.C_below HR0.out HB.out) | (with_reducible refine Kd.C_alloc ?_ _) | (with_reducible refine Kd.C_drewN ?_ _) | (with_reducible refine Kd.C_drew ?_))); (case side2 => exact HC0.out); rintro e w20 ⟨v321, rfl, ho0, hb⟩; refine ⟨_, rfl, ?_⟩; have n0_ := Aside0.mk (Kd.R_elder' (by (with_reducible repeat (first | apply Kd.R_alloc | apply Kd.R_drewN | apply Kd.R_drew)); exact HO310.out) (Kd.R_base ho0) hb); have n1_ := Aside0.mk (Kd.R_elder' (by (with_reducible repeat (first | apply Kd.R_alloc | apply Kd.R_drewN | apply Kd.R_drew)); exact HO316.out) (Kd.R_base ho0) hb); have n2_ := Aside0.mk (Kd.R_below (by (with_reducible repeat (first | apply Kd.R_alloc | apply Kd.R_drewN | apply Kd.R_drew)); exact HO318.out) hb); have n3_ := Aside0.mk (Kd.R_lower (Kd.R_newB (Kd.R_new' (Kd.R_new' ho0 (Kd.R_lt (by (with_reducible repeat (first | apply Kd.R_alloc | apply Kd.R_drewN | apply Kd.R_drew)); exact HO310.out))) (Kd.R_lt (by (with_reducible repeat (first | apply Kd.R_alloc | apply Kd.R_drewN | apply Kd.R_drew)); exact HO316.out))) (g := gb304) (o := .cells #[.int .i64 a1_0, .int .i64 a1_1, .int .i64 a1_2, .bool a1_3] 24 (0, 0)) (by (with_reducible repeat (first | refine blk_drewN ?_ _ | refine blk_drew ?_ | refine blk_alloc ?_ _)); exact BK304.out)) (below_size (by repeat (first | (with_reducible first | exact HB.out | apply below_alloc | apply pw_below_drewN | apply below_drew1 | refine below_set ?_ GE304.out) | exact HB.out)))); have n4_ := Aside0.mk (blk_below (g := gb304) (o := .cells #[.int .i64 a1_0, .int .i64 a1_1, .int .i64 a1_2, .bool a1_3] 24 (0, 0)) (by (with_reducible repeat (first | refine blk_drewN ?_ _ | refine blk_drew ?_ | refine blk_alloc ?_ _)); exact BK304.out) hb); have n5_ := Aside0.mk (below_step (by repeat (first | (with_reducible first | exact HB.out | apply below_alloc | apply pw_below_drewN | apply below_drew1 | refine below_set ?_ GE304.out) | exact HB.out)) hb); clear HO310; clear HO316; clear HO318; clear BK304; clear HB; have HO310 := n0_; have HO316 := n1_; have HO318 := n2_; have HO322 := n3_; have BK304 := n4_; have HB := n5_; clear n0_ n1_ n2_ n3_ n4_ n5_; (try clear hb); (try clear hb2); (try clear hk); (try clear hi); (try clear ho0)))
   (try simp only [Act.put, List.setIfInBounds_toArray, List.set_cons_zero, List.set_cons_succ])
   go_cut [84] (fun v84 wc => ∃ (kq : Nat) (x84_10 : Bool), v84 = .bool x84_10 ∧ Aside0 (undercroftlaw10_ExtentBlocks.j0 kq l0 a2 t308 t311 t312 t314 t319 t320 x84_10 a1_0 a1_1 a1_2 a1_3 = some r) ∧ Aside0 (kq ≤ k) ∧ Aside0 (Kd.R k24 24 wc w.heap.size (fun k_ => some k_ ≠ (v315 : Value).ownBlock ∧ some k_ ≠ (v321 : Value).ownBlock ∧ k_ ≠ gb304) v309 t308) ∧ Aside0 (Kd.R k24 24 wc w.heap.size (fun k_ => some k_ ≠ (v309 : Value).ownBlock ∧ some k_ ≠ (v321 : Value).ownBlock ∧ k_ ≠ gb304) v315 t312) ∧ Aside0 (Kd.R k24 24 wc w.heap.size (fun k_ => some k_ ≠ (v309 : Value).ownBlock ∧ some k_ ≠ (v315 : Value).ownBlock ∧ k_ ≠ gb304) v321 t319) ∧ Aside0 (wc.heap[gb304]? = some (.cells #[.int .i64 a1_0, .int .i64 a1_1, .int .i64 a1_2, .bool a1_3] 24 (0, 0))) ∧ Aside0 (Below w.heap.size w wc))
   case first =>
    have H := HC11.out
    clear HC11
    by_cases c21 : t311 = 0
    ·as_aux_lemma =>
     rw [if_pos c21] at H
     have c21b0 : (t311 == 0) = true := beq_iff_eq.mpr c21
     have c21b1 : (t311 != 0) = false := bne_eq_false_iff_eq.mpr c21
     clear c21
     (first | rw [c21b0] | (simp only [i64_w, i32_w]; rw [c21b0]) | skip)
     replace H := Option.bind_eq_some_iff.mp H
     obtain ⟨t323, A220, H⟩ := H
     replace H : (if t323 = 0 then (if t314 = 0 then ((extent_Check.f k t312).bind fun t324 => (if t324 = 0 then (if t320 = 0 then ((extent_Check.f k t319).bind fun t325 => (undercroftlaw10_ExtentBlocks.j0 k l0 a2 t308 t311 t312 t314 t319 t320 (t325 != 0) a1_0 a1_1 a1_2 a1_3)) else (undercroftlaw10_ExtentBlocks.j0 k l0 a2 t308 t311 t312 t314 t319 t320 false a1_0 a1_1 a1_2 a1_3)) else (undercroftlaw10_ExtentBlocks.j0 k l0 a2 t308 t311 t312 t314 t319 t320 true a1_0 a1_1 a1_2 a1_3))) else (if t320 = 0 then ((extent_Check.f k t319).bind fun t326 => (undercroftlaw10_ExtentBlocks.j0 k l0 a2 t308 t311 t312 t314 t319 t320 (t326 != 0) a1_0 a1_1 a1_2 a1_3)) else (undercroftlaw10_ExtentBlocks.j0 k l0 a2 t308 t311 t312 t314 t319 t320 false a1_0 a1_1 a1_2 a1_3))) else (undercroftlaw10_ExtentBlocks.j0 k l0 a2 t308 t311 t312 t314 t319 t320 true a1_0 a1_1 a1_2 a1_3)) = some r := H
     have A22 := Aside0.mk A220
     clear A220
     by_cases c23 : t323 = 0
     ·rw [if_pos c23] at H
      have c23b0 : (t323 == 0) = true := beq_iff_eq.mpr c23
      have c23b1 : (t323 != 0) = false := bne_eq_false_iff_eq.mpr c23
      clear c23
      by_cases c24 : t314 = 0
      ·rw [if_pos c24] at H
       have c24b0 : (t314 == 0) = true := beq_iff_eq.mpr c24
       have c24b1 : (t314 != 0) = false := bne_eq_false_iff_eq.mpr c24
       clear c24
       replace H := Option.bind_eq_some_iff.mp H
       obtain ⟨t324, A250, H⟩ := H
       replace H : (if t324 = 0 then (if t320 = 0 then ((extent_Check.f k t319).bind fun t325 => (undercroftlaw10_ExtentBlocks.j0 k l0 a2 t308 t311 t312 t314 t319 t320 (t325 != 0) a1_0 a1_1 a1_2 a1_3)) else (undercroftlaw10_ExtentBlocks.j0 k l0 a2 t308 t311 t312 t314 t319 t320 false a1_0 a1_1 a1_2 a1_3)) else (undercroftlaw10_ExtentBlocks.j0 k l0 a2 t308 t311 t312 t314 t319 t320 true a1_0 a1_1 a1_2 a1_3)) = some r := H
       have A25 := Aside0.mk A250
       clear A250
       by_cases c26 : t324 = 0
       ·rw [if_pos c26] at H
        have c26b0 : (t324 == 0) = true := beq_iff_eq.mpr c26
        have c26b1 : (t324 != 0) = false := bne_eq_false_iff_eq.mpr c26
        clear c26
        by_cases c27 : t320 = 0
        ·rw [if_pos c27] at H
         have c27b0 : (t320 == 0) = true := beq_iff_eq.mpr c27
         have c27b1 : (t320 != 0) = false := bne_eq_false_iff_eq.mpr c27
         clear c27
         replace H := Option.bind_eq_some_iff.mp H
         obtain ⟨t325, A280, H⟩ := H
         replace H : (undercroftlaw10_ExtentBlocks.j0 k l0 a2 t308 t311 t312 t314 t319 t320 (t325 != 0) a1_0 a1_1 a1_2 a1_3) = some r := H
         have A28 := Aside0.mk A280
         clear A280
         have H' := Aside0.mk H
         clear H
         obtain ⟨Ao29, co29, eo29⟩ := Kd.R_slice HO310.out
         subst eo29
         go_wp2_with (first | (go_at_call 12; (with_reducible refine (extent_Check.calls k _ _ t308 t323 _ ?side1 ?side2 A22.out).mono ?_); (case side1 => repeat (first | exact (Kd.R_reads' HO310.out).2.2 | (with_reducible refine Kd.C_alloc ?_ _) | (with_reducible refine Kd.C_drewN ?_ _) | (with_reducible refine Kd.C_drew ?_))); (case side2 => exact (Kd.R_reads' HO310.out).2.1); rintro e w30 ⟨rfl, hb⟩; have n0_ := Aside0.mk (Kd.R_below (by (with_reducible repeat (first | apply Kd.R_alloc | apply Kd.R_drewN | apply Kd.R_drew)); exact HO310.out) hb); have n1_ := Aside0.mk (Kd.R_below (by (with_reducible repeat (first | apply Kd.R_alloc | apply Kd.R_drewN | apply Kd.R_drew)); exact HO316.out) hb); have n2_ := Aside0.mk (Kd.R_below (by (with_reducible repeat (first | apply Kd.R_alloc | apply Kd.R_drewN | apply Kd.R_drew)); exact HO318.out) hb); have n3_ := Aside0.mk (Kd.R_below (by (with_reducible repeat (first | apply Kd.R_alloc | apply Kd.R_drewN | apply Kd.R_drew)); exact HO322.out) hb); have n4_ := Aside0.mk (blk_below (g := gb304) (o := .cells #[.int .i64 a1_0, .int .i64 a1_1, .int .i64 a1_2, .bool a1_3] 24 (0, 0)) (by (with_reducible repeat (first | refine blk_drewN ?_ _ | refine blk_drew ?_ | refine blk_alloc ?_ _)); exact BK304.out) hb); have n5_ := Aside0.mk (below_step (by repeat (first | (with_reducible first | exact HB.out | apply below_alloc | apply pw_below_drewN | apply below_drew1 | refine below_set ?_ GE304.out) | exact HB.out)) hb); clear HO310; clear HO316; clear HO318; clear HO322; clear BK304; clear HB; have HO310 := n0_; have HO316 := n1_; have HO318 := n2_; have HO322 := n3_; have BK304 := n4_; have HB := n5_; clear n0_ n1_ n2_ n3_ n4_ n5_; (try clear hb); (try clear hb2); (try clear hk); (try clear hi); obtain ⟨Ao31, co31, eo31⟩ := Kd.R_slice HO316.out; subst eo31) | (go_at_call 12; (with_reducible refine (extent_Check.calls k _ _ t312 t324 _ ?side1 ?side2 A25.out).mono ?_); (case side1 => repeat (first | exact (Kd.R_reads' HO316.out).2.2 | (with_reducible refine Kd.C_alloc ?_ _) | (with_reducible refine Kd.C_drewN ?_ _) | (with_reducible refine Kd.C_drew ?_))); (case side2 => exact (Kd.R_reads' HO316.out).2.1); rintro e w32 ⟨rfl, hb⟩; have n0_ := Aside0.mk (Kd.R_below (by (with_reducible repeat (first | apply Kd.R_alloc | apply Kd.R_drewN | apply Kd.R_drew)); exact HO310.out) hb); have n1_ := Aside0.mk (Kd.R_below (by (with_reducible repeat (first | apply Kd.R_alloc | apply Kd.R_drewN | apply Kd.R_drew)); exact HO316.out) hb); have n2_ := Aside0.mk (Kd.R_below (by (with_reducible repeat (first | apply Kd.R_alloc | apply Kd.R_drewN | apply Kd.R_drew)); exact HO318.out) hb); have n3_ := Aside0.mk (Kd.R_below (by (with_reducible repeat (first | apply Kd.R_alloc | apply Kd.R_drewN | apply Kd.R_drew)); exact HO322.out) hb); have n4_ := Aside0.mk (blk_below (g := gb304) (o := .cells #[.int .i64 a1_0, .int .i64 a1_1, .int .i64 a1_2, .bool a1_3] 24 (0, 0)) (by (with_reducible repeat (first | refine blk_drewN ?_ _ | refine blk_drew ?_ | refine blk_alloc ?_ _)); exact BK304.out) hb); have n5_ := Aside0.mk (below_step (by repeat (first | (with_reducible first | exact HB.out | apply below_alloc | apply pw_below_drewN | apply below_drew1 | refine below_set ?_ GE304.out) | exact HB.out)) hb); clear HO310; clear HO316; clear HO318; clear HO322; clear BK304; clear HB; have HO310 := n0_; have HO316 := n1_; have HO318 := n2_; have HO322 := n3_; have BK304 := n4_; have HB := n5_; clear n0_ n1_ n2_ n3_ n4_ n5_; (try clear hb); (try clear hb2); (try clear hk); (try clear hi); obtain ⟨Ao33, co33, eo33⟩ := Kd.R_slice HO322.out; subst eo33) | (go_at_call 12; (with_reducible refine (extent_Check.calls k _ _ t319 t325 _ ?side1 ?side2 A28.out).mono ?_); (case side1 => repeat (first | exact (Kd.R_reads' HO322.out).2.2 | (with_reducible refine Kd.C_alloc ?_ _) | (with_reducible refine Kd.C_drewN ?_ _) | (with_reducible refine Kd.C_drew ?_))); (case side2 => exact (Kd.R_reads' HO322.out).2.1); rintro e w34 ⟨rfl, hb⟩; have n0_ := Aside0.mk (Kd.R_below (by (with_reducible repeat (first | apply Kd.R_alloc | apply Kd.R_drewN | apply Kd.R_drew)); exact HO310.out) hb); have n1_ := Aside0.mk (Kd.R_below (by (with_reducible repeat (first | apply Kd.R_alloc | apply Kd.R_drewN | apply Kd.R_drew)); exact HO316.out) hb); have n2_ := Aside0.mk (Kd.R_below (by (with_reducible repeat (first | apply Kd.R_alloc | apply Kd.R_drewN | apply Kd.R_drew)); exact HO318.out) hb); have n3_ := Aside0.mk (Kd.R_below (by (with_reducible repeat (first | apply Kd.R_alloc | apply Kd.R_drewN | apply Kd.R_drew)); exact HO322.out) hb); have n4_ := Aside0.mk (blk_below (g := gb304) (o := .cells #[.int .i64 a1_0, .int .i64 a1_1, .int .i64 a1_2, .bool a1_3] 24 (0, 0)) (by (with_reducible repeat (first | refine blk_drewN ?_ _ | refine blk_drew ?_ | refine blk_alloc ?_ _)); exact BK304.out) hb); have n5_ := Aside0.mk (below_step (by repeat (first | (with_reducible first | exact HB.out | apply below_alloc | apply pw_below_drewN | apply below_drew1 | refine below_set ?_ GE304.out) | exact HB.out)) hb); clear HO310; clear HO316; clear HO318; clear HO322; clear BK304; clear HB; have HO310 := n0_; have HO316 := n1_; have HO318 := n2_; have HO322 := n3_; have BK304 := n4_; have HB := n5_; clear n0_ n1_ n2_ n3_ n4_ n5_; (try clear hb); (try clear hb2); (try clear hk); (try clear hi)))
         go_meet
         case rel => exact ⟨_, ((t325 != 0)), (by first | rfl | (simp; done) | (simp [*]; done)), H', ⟨by first | omega | exact Nat.le_refl _⟩, ⟨by (with_reducible repeat (first | apply Kd.R_alloc | apply Kd.R_drewN | apply Kd.R_drew)); exact Kd.R_mono HO310.out (fun _ hk => ⟨hk.1.2, ⟨hk.2, hk.1.1.2⟩⟩)⟩, ⟨by (with_reducible repeat (first | apply Kd.R_alloc | apply Kd.R_drewN | apply Kd.R_drew)); exact Kd.R_mono HO316.out (fun _ hk => ⟨hk.1.1.2, ⟨hk.2, hk.1.2⟩⟩)⟩, ⟨by (with_reducible repeat (first | apply Kd.R_alloc | apply Kd.R_drewN | apply Kd.R_drew)); exact Kd.R_mono HO322.out (fun _ hk => ⟨hk.1.1.2, ⟨hk.1.2, hk.2⟩⟩)⟩, ⟨by (with_reducible repeat (first | refine blk_drewN ?_ _ | refine blk_drew ?_ | refine blk_alloc ?_ _)); exact BK304.out⟩, ⟨by repeat (first | (with_reducible first | exact HB.out | apply below_alloc | apply pw_below_drewN | apply below_drew1 | refine below_set ?_ GE304.out) | exact HB.out)⟩⟩
        ·rw [if_neg c27] at H
         have c27b0 : (t320 == 0) = false := beq_eq_false_iff_ne.mpr c27
         have c27b1 : (t320 != 0) = true := bne_iff_ne.mpr c27
         have H' := Aside0.mk H
         clear H
         obtain ⟨Ao35, co35, eo35⟩ := Kd.R_slice HO310.out
         subst eo35
         go_wp2_with (first | (go_at_call 12; (with_reducible refine (extent_Check.calls k _ _ t308 t323 _ ?side1 ?side2 A22.out).mono ?_); (case side1 => repeat (first | exact (Kd.R_reads' HO310.out).2.2 | (with_reducible refine Kd.C_alloc ?_ _) | (with_reducible refine Kd.C_drewN ?_ _) | (with_reducible refine Kd.C_drew ?_))); (case side2 => exact (Kd.R_reads' HO310.out).2.1); rintro e w36 ⟨rfl, hb⟩; have n0_ := Aside0.mk (Kd.R_below (by (with_reducible repeat (first | apply Kd.R_alloc | apply Kd.R_drewN | apply Kd.R_drew)); exact HO310.out) hb); have n1_ := Aside0.mk (Kd.R_below (by (with_reducible repeat (first | apply Kd.R_alloc | apply Kd.R_drewN | apply Kd.R_drew)); exact HO316.out) hb); have n2_ := Aside0.mk (Kd.R_below (by (with_reducible repeat (first | apply Kd.R_alloc | apply Kd.R_drewN | apply Kd.R_drew)); exact HO318.out) hb); have n3_ := Aside0.mk (Kd.R_below (by (with_reducible repeat (first | apply Kd.R_alloc | apply Kd.R_drewN | apply Kd.R_drew)); exact HO322.out) hb); have n4_ := Aside0.mk (blk_below (g := gb304) (o := .cells #[.int .i64 a1_0, .int .i64 a1_1, .int .i64 a1_2, .bool a1_3] 24 (0, 0)) (by (with_reducible repeat (first | refine blk_drewN ?_ _ | refine blk_drew ?_ | refine blk_alloc ?_ _)); exact BK304.out) hb); have n5_ := Aside0.mk (below_step (by repeat (first | (with_reducible first | exact HB.out | apply below_alloc | apply pw_below_drewN | apply below_drew1 | refine below_set ?_ GE304.out) | exact HB.out)) hb); clear HO310; clear HO316; clear HO318; clear HO322; clear BK304; clear HB; have HO310 := n0_; have HO316 := n1_; have HO318 := n2_; have HO322 := n3_; have BK304 := n4_; have HB := n5_; clear n0_ n1_ n2_ n3_ n4_ n5_; (try clear hb); (try clear hb2); (try clear hk); (try clear hi); obtain ⟨Ao37, co37, eo37⟩ := Kd.R_slice HO316.out; subst eo37) | (go_at_call 12; (with_reducible refine (extent_Check.calls k _ _ t312 t324 _ ?side1 ?side2 A25.out).mono ?_); (case side1 => repeat (first | exact (Kd.R_reads' HO316.out).2.2 | (with_reducible refine Kd.C_alloc ?_ _) | (with_reducible refine Kd.C_drewN ?_ _) | (with_reducible refine Kd.C_drew ?_))); (case side2 => exact (Kd.R_reads' HO316.out).2.1); rintro e w38 ⟨rfl, hb⟩; have n0_ := Aside0.mk (Kd.R_below (by (with_reducible repeat (first | apply Kd.R_alloc | apply Kd.R_drewN | apply Kd.R_drew)); exact HO310.out) hb); have n1_ := Aside0.mk (Kd.R_below (by (with_reducible repeat (first | apply Kd.R_alloc | apply Kd.R_drewN | apply Kd.R_drew)); exact HO316.out) hb); have n2_ := Aside0.mk (Kd.R_below (by (with_reducible repeat (first | apply Kd.R_alloc | apply Kd.R_drewN | apply Kd.R_drew)); exact HO318.out) hb); have n3_ := Aside0.mk (Kd.R_below (by (with_reducible repeat (first | apply Kd.R_alloc | apply Kd.R_drewN | apply Kd.R_drew)); exact HO322.out) hb); have n4_ := Aside0.mk (blk_below (g := gb304) (o := .cells #[.int .i64 a1_0, .int .i64 a1_1, .int .i64 a1_2, .bool a1_3] 24 (0, 0)) (by (with_reducible repeat (first | refine blk_drewN ?_ _ | refine blk_drew ?_ | refine blk_alloc ?_ _)); exact BK304.out) hb); have n5_ := Aside0.mk (below_step (by repeat (first | (with_reducible first | exact HB.out | apply below_alloc | apply pw_below_drewN | apply below_drew1 | refine below_set ?_ GE304.out) | exact HB.out)) hb); clear HO310; clear HO316; clear HO318; clear HO322; clear BK304; clear HB; have HO310 := n0_; have HO316 := n1_; have HO318 := n2_; have HO322 := n3_; have BK304 := n4_; have HB := n5_; clear n0_ n1_ n2_ n3_ n4_ n5_; (try clear hb); (try clear hb2); (try clear hk); (try clear hi)))
         go_meet
         case rel => exact ⟨_, (false), (by first | rfl | (simp; done) | (simp [*]; done)), H', ⟨by first | omega | exact Nat.le_refl _⟩, ⟨by (with_reducible repeat (first | apply Kd.R_alloc | apply Kd.R_drewN | apply Kd.R_drew)); exact Kd.R_mono HO310.out (fun _ hk => ⟨hk.1.2, ⟨hk.2, hk.1.1.2⟩⟩)⟩, ⟨by (with_reducible repeat (first | apply Kd.R_alloc | apply Kd.R_drewN | apply Kd.R_drew)); exact Kd.R_mono HO316.out (fun _ hk => ⟨hk.1.1.2, ⟨hk.2, hk.1.2⟩⟩)⟩, ⟨by (with_reducible repeat (first | apply Kd.R_alloc | apply Kd.R_drewN | apply Kd.R_drew)); exact Kd.R_mono HO322.out (fun _ hk => ⟨hk.1.1.2, ⟨hk.1.2, hk.2⟩⟩)⟩, ⟨by (with_reducible repeat (first | refine blk_drewN ?_ _ | refine blk_drew ?_ | refine blk_alloc ?_ _)); exact BK304.out⟩, ⟨by repeat (first | (with_reducible first | exact HB.out | apply below_alloc | apply pw_below_drewN | apply below_drew1 | refine below_set ?_ GE304.out) | exact HB.out)⟩⟩
       ·rw [if_neg c26] at H
        have c26b0 : (t324 == 0) = false := beq_eq_false_iff_ne.mpr c26
        have c26b1 : (t324 != 0) = true := bne_iff_ne.mpr c26
        have H' := Aside0.mk H
        clear H
        obtain ⟨Ao39, co39, eo39⟩ := Kd.R_slice HO310.out
        subst eo39
        go_wp2_with (first | (go_at_call 12; (with_reducible refine (extent_Check.calls k _ _ t308 t323 _ ?side1 ?side2 A22.out).mono ?_); (case side1 => repeat (first | exact (Kd.R_reads' HO310.out).2.2 | (with_reducible refine Kd.C_alloc ?_ _) | (with_reducible refine Kd.C_drewN ?_ _) | (with_reducible refine Kd.C_drew ?_))); (case side2 => exact (Kd.R_reads' HO310.out).2.1); rintro e w40 ⟨rfl, hb⟩; have n0_ := Aside0.mk (Kd.R_below (by (with_reducible repeat (first | apply Kd.R_alloc | apply Kd.R_drewN | apply Kd.R_drew)); exact HO310.out) hb); have n1_ := Aside0.mk (Kd.R_below (by (with_reducible repeat (first | apply Kd.R_alloc | apply Kd.R_drewN | apply Kd.R_drew)); exact HO316.out) hb); have n2_ := Aside0.mk (Kd.R_below (by (with_reducible repeat (first | apply Kd.R_alloc | apply Kd.R_drewN | apply Kd.R_drew)); exact HO318.out) hb); have n3_ := Aside0.mk (Kd.R_below (by (with_reducible repeat (first | apply Kd.R_alloc | apply Kd.R_drewN | apply Kd.R_drew)); exact HO322.out) hb); have n4_ := Aside0.mk (blk_below (g := gb304) (o := .cells #[.int .i64 a1_0, .int .i64 a1_1, .int .i64 a1_2, .bool a1_3] 24 (0, 0)) (by (with_reducible repeat (first | refine blk_drewN ?_ _ | refine blk_drew ?_ | refine blk_alloc ?_ _)); exact BK304.out) hb); have n5_ := Aside0.mk (below_step (by repeat (first | (with_reducible first | exact HB.out | apply below_alloc | apply pw_below_drewN | apply below_drew1 | refine below_set ?_ GE304.out) | exact HB.out)) hb); clear HO310; clear HO316; clear HO318; clear HO322; clear BK304; clear HB; have HO310 := n0_; have HO316 := n1_; have HO318 := n2_; have HO322 := n3_; have BK304 := n4_; have HB := n5_; clear n0_ n1_ n2_ n3_ n4_ n5_; (try clear hb); (try clear hb2); (try clear hk); (try clear hi); obtain ⟨Ao41, co41, eo41⟩ := Kd.R_slice HO316.out; subst eo41) | (go_at_call 12; (with_reducible refine (extent_Check.calls k _ _ t312 t324 _ ?side1 ?side2 A25.out).mono ?_); (case side1 => repeat (first | exact (Kd.R_reads' HO316.out).2.2 | (with_reducible refine Kd.C_alloc ?_ _) | (with_reducible refine Kd.C_drewN ?_ _) | (with_reducible refine Kd.C_drew ?_))); (case side2 => exact (Kd.R_reads' HO316.out).2.1); rintro e w42 ⟨rfl, hb⟩; have n0_ := Aside0.mk (Kd.R_below (by (with_reducible repeat (first | apply Kd.R_alloc | apply Kd.R_drewN | apply Kd.R_drew)); exact HO310.out) hb); have n1_ := Aside0.mk (Kd.R_below (by (with_reducible repeat (first | apply Kd.R_alloc | apply Kd.R_drewN | apply Kd.R_drew)); exact HO316.out) hb); have n2_ := Aside0.mk (Kd.R_below (by (with_reducible repeat (first | apply Kd.R_alloc | apply Kd.R_drewN | apply Kd.R_drew)); exact HO318.out) hb); have n3_ := Aside0.mk (Kd.R_below (by (with_reducible repeat (first | apply Kd.R_alloc | apply Kd.R_drewN | apply Kd.R_drew)); exact HO322.out) hb); have n4_ := Aside0.mk (blk_below (g := gb304) (o := .cells #[.int .i64 a1_0, .int .i64 a1_1, .int .i64 a1_2, .bool a1_3] 24 (0, 0)) (by (with_reducible repeat (first | refine blk_drewN ?_ _ | refine blk_drew ?_ | refine blk_alloc ?_ _)); exact BK304.out) hb); have n5_ := Aside0.mk (below_step (by repeat (first | (with_reducible first | exact HB.out | apply below_alloc | apply pw_below_drewN | apply below_drew1 | refine below_set ?_ GE304.out) | exact HB.out)) hb); clear HO310; clear HO316; clear HO318; clear HO322; clear BK304; clear HB; have HO310 := n0_; have HO316 := n1_; have HO318 := n2_; have HO322 := n3_; have BK304 := n4_; have HB := n5_; clear n0_ n1_ n2_ n3_ n4_ n5_; (try clear hb); (try clear hb2); (try clear hk); (try clear hi)))
        go_meet
        case rel => exact ⟨_, (true), (by first | rfl | (simp; done) | (simp [*]; done)), H', ⟨by first | omega | exact Nat.le_refl _⟩, ⟨by (with_reducible repeat (first | apply Kd.R_alloc | apply Kd.R_drewN | apply Kd.R_drew)); exact Kd.R_mono HO310.out (fun _ hk => ⟨hk.1.2, ⟨hk.2, hk.1.1.2⟩⟩)⟩, ⟨by (with_reducible repeat (first | apply Kd.R_alloc | apply Kd.R_drewN | apply Kd.R_drew)); exact Kd.R_mono HO316.out (fun _ hk => ⟨hk.1.1.2, ⟨hk.2, hk.1.2⟩⟩)⟩, ⟨by (with_reducible repeat (first | apply Kd.R_alloc | apply Kd.R_drewN | apply Kd.R_drew)); exact Kd.R_mono HO322.out (fun _ hk => ⟨hk.1.1.2, ⟨hk.1.2, hk.2⟩⟩)⟩, ⟨by (with_reducible repeat (first | refine blk_drewN ?_ _ | refine blk_drew ?_ | refine blk_alloc ?_ _)); exact BK304.out⟩, ⟨by repeat (first | (with_reducible first | exact HB.out | apply below_alloc | apply pw_below_drewN | apply below_drew1 | refine below_set ?_ GE304.out) | exact HB.out)⟩⟩
      ·rw [if_neg c24] at H
       have c24b0 : (t314 == 0) = false := beq_eq_false_iff_ne.mpr c24
       have c24b1 : (t314 != 0) = true := bne_iff_ne.mpr c24
       by_cases c43 : t320 = 0
       ·rw [if_pos c43] at H
        have c43b0 : (t320 == 0) = true := beq_iff_eq.mpr c43
        have c43b1 : (t320 != 0) = false := bne_eq_false_iff_eq.mpr c43
        clear c43
        replace H := Option.bind_eq_some_iff.mp H
        obtain ⟨t326, A440, H⟩ := H
        replace H : (undercroftlaw10_ExtentBlocks.j0 k l0 a2 t308 t311 t312 t314 t319 t320 (t326 != 0) a1_0 a1_1 a1_2 a1_3) = some r := H
        have A44 := Aside0.mk A440
        clear A440
        have H' := Aside0.mk H
        clear H
        obtain ⟨Ao45, co45, eo45⟩ := Kd.R_slice HO310.out
        subst eo45
        go_wp2_with (first | (go_at_call 12; (with_reducible refine (extent_Check.calls k _ _ t308 t323 _ ?side1 ?side2 A22.out).mono ?_); (case side1 => repeat (first | exact (Kd.R_reads' HO310.out).2.2 | (with_reducible refine Kd.C_alloc ?_ _) | (with_reducible refine Kd.C_drewN ?_ _) | (with_reducible refine Kd.C_drew ?_))); (case side2 => exact (Kd.R_reads' HO310.out).2.1); rintro e w46 ⟨rfl, hb⟩; have n0_ := Aside0.mk (Kd.R_below (by (with_reducible repeat (first | apply Kd.R_alloc | apply Kd.R_drewN | apply Kd.R_drew)); exact HO310.out) hb); have n1_ := Aside0.mk (Kd.R_below (by (with_reducible repeat (first | apply Kd.R_alloc | apply Kd.R_drewN | apply Kd.R_drew)); exact HO316.out) hb); have n2_ := Aside0.mk (Kd.R_below (by (with_reducible repeat (first | apply Kd.R_alloc | apply Kd.R_drewN | apply Kd.R_drew)); exact HO318.out) hb); have n3_ := Aside0.mk (Kd.R_below (by (with_reducible repeat (first | apply Kd.R_alloc | apply Kd.R_drewN | apply Kd.R_drew)); exact HO322.out) hb); have n4_ := Aside0.mk (blk_below (g := gb304) (o := .cells #[.int .i64 a1_0, .int .i64 a1_1, .int .i64 a1_2, .bool a1_3] 24 (0, 0)) (by (with_reducible repeat (first | refine blk_drewN ?_ _ | refine blk_drew ?_ | refine blk_alloc ?_ _)); exact BK304.out) hb); have n5_ := Aside0.mk (below_step (by repeat (first | (with_reducible first | exact HB.out | apply below_alloc | apply pw_below_drewN | apply below_drew1 | refine below_set ?_ GE304.out) | exact HB.out)) hb); clear HO310; clear HO316; clear HO318; clear HO322; clear BK304; clear HB; have HO310 := n0_; have HO316 := n1_; have HO318 := n2_; have HO322 := n3_; have BK304 := n4_; have HB := n5_; clear n0_ n1_ n2_ n3_ n4_ n5_; (try clear hb); (try clear hb2); (try clear hk); (try clear hi); obtain ⟨Ao47, co47, eo47⟩ := Kd.R_slice HO322.out; subst eo47) | (go_at_call 12; (with_reducible refine (extent_Check.calls k _ _ t319 t326 _ ?side1 ?side2 A44.out).mono ?_); (case side1 => repeat (first | exact (Kd.R_reads' HO322.out).2.2 | (with_reducible refine Kd.C_alloc ?_ _) | (with_reducible refine Kd.C_drewN ?_ _) | (with_reducible refine Kd.C_drew ?_))); (case side2 => exact (Kd.R_reads' HO322.out).2.1); rintro e w48 ⟨rfl, hb⟩; have n0_ := Aside0.mk (Kd.R_below (by (with_reducible repeat (first | apply Kd.R_alloc | apply Kd.R_drewN | apply Kd.R_drew)); exact HO310.out) hb); have n1_ := Aside0.mk (Kd.R_below (by (with_reducible repeat (first | apply Kd.R_alloc | apply Kd.R_drewN | apply Kd.R_drew)); exact HO316.out) hb); have n2_ := Aside0.mk (Kd.R_below (by (with_reducible repeat (first | apply Kd.R_alloc | apply Kd.R_drewN | apply Kd.R_drew)); exact HO318.out) hb); have n3_ := Aside0.mk (Kd.R_below (by (with_reducible repeat (first | apply Kd.R_alloc | apply Kd.R_drewN | apply Kd.R_drew)); exact HO322.out) hb); have n4_ := Aside0.mk (blk_below (g := gb304) (o := .cells #[.int .i64 a1_0, .int .i64 a1_1, .int .i64 a1_2, .bool a1_3] 24 (0, 0)) (by (with_reducible repeat (first | refine blk_drewN ?_ _ | refine blk_drew ?_ | refine blk_alloc ?_ _)); exact BK304.out) hb); have n5_ := Aside0.mk (below_step (by repeat (first | (with_reducible first | exact HB.out | apply below_alloc | apply pw_below_drewN | apply below_drew1 | refine below_set ?_ GE304.out) | exact HB.out)) hb); clear HO310; clear HO316; clear HO318; clear HO322; clear BK304; clear HB; have HO310 := n0_; have HO316 := n1_; have HO318 := n2_; have HO322 := n3_; have BK304 := n4_; have HB := n5_; clear n0_ n1_ n2_ n3_ n4_ n5_; (try clear hb); (try clear hb2); (try clear hk); (try clear hi)))
        go_meet
        case rel => exact ⟨_, ((t326 != 0)), (by first | rfl | (simp; done) | (simp [*]; done)), H', ⟨by first | omega | exact Nat.le_refl _⟩, ⟨by (with_reducible repeat (first | apply Kd.R_alloc | apply Kd.R_drewN | apply Kd.R_drew)); exact Kd.R_mono HO310.out (fun _ hk => ⟨hk.1.2, ⟨hk.2, hk.1.1.2⟩⟩)⟩, ⟨by (with_reducible repeat (first | apply Kd.R_alloc | apply Kd.R_drewN | apply Kd.R_drew)); exact Kd.R_mono HO316.out (fun _ hk => ⟨hk.1.1.2, ⟨hk.2, hk.1.2⟩⟩)⟩, ⟨by (with_reducible repeat (first | apply Kd.R_alloc | apply Kd.R_drewN | apply Kd.R_drew)); exact Kd.R_mono HO322.out (fun _ hk => ⟨hk.1.1.2, ⟨hk.1.2, hk.2⟩⟩)⟩, ⟨by (with_reducible repeat (first | refine blk_drewN ?_ _ | refine blk_drew ?_ | refine blk_alloc ?_ _)); exact BK304.out⟩, ⟨by repeat (first | (with_reducible first | exact HB.out | apply below_alloc | apply pw_below_drewN | apply below_drew1 | refine below_set ?_ GE304.out) | exact HB.out)⟩⟩
       ·rw [if_neg c43] at H
        have c43b0 : (t320 == 0) = false := beq_eq_false_iff_ne.mpr c43
        have c43b1 : (t320 != 0) = true := bne_iff_ne.mpr c43
        have H' := Aside0.mk H
        clear H
        obtain ⟨Ao49, co49, eo49⟩ := Kd.R_slice HO310.out
        subst eo49
        go_wp2_with (first | (go_at_call 12; (with_reducible refine (extent_Check.calls k _ _ t308 t323 _ ?side1 ?side2 A22.out).mono ?_); (case side1 => repeat (first | exact (Kd.R_reads' HO310.out).2.2 | (with_reducible refine Kd.C_alloc ?_ _) | (with_reducible refine Kd.C_drewN ?_ _) | (with_reducible refine Kd.C_drew ?_))); (case side2 => exact (Kd.R_reads' HO310.out).2.1); rintro e w50 ⟨rfl, hb⟩; have n0_ := Aside0.mk (Kd.R_below (by (with_reducible repeat (first | apply Kd.R_alloc | apply Kd.R_drewN | apply Kd.R_drew)); exact HO310.out) hb); have n1_ := Aside0.mk (Kd.R_below (by (with_reducible repeat (first | apply Kd.R_alloc | apply Kd.R_drewN | apply Kd.R_drew)); exact HO316.out) hb); have n2_ := Aside0.mk (Kd.R_below (by (with_reducible repeat (first | apply Kd.R_alloc | apply Kd.R_drewN | apply Kd.R_drew)); exact HO318.out) hb); have n3_ := Aside0.mk (Kd.R_below (by (with_reducible repeat (first | apply Kd.R_alloc | apply Kd.R_drewN | apply Kd.R_drew)); exact HO322.out) hb); have n4_ := Aside0.mk (blk_below (g := gb304) (o := .cells #[.int .i64 a1_0, .int .i64 a1_1, .int .i64 a1_2, .bool a1_3] 24 (0, 0)) (by (with_reducible repeat (first | refine blk_drewN ?_ _ | refine blk_drew ?_ | refine blk_alloc ?_ _)); exact BK304.out) hb); have n5_ := Aside0.mk (below_step (by repeat (first | (with_reducible first | exact HB.out | apply below_alloc | apply pw_below_drewN | apply below_drew1 | refine below_set ?_ GE304.out) | exact HB.out)) hb); clear HO310; clear HO316; clear HO318; clear HO322; clear BK304; clear HB; have HO310 := n0_; have HO316 := n1_; have HO318 := n2_; have HO322 := n3_; have BK304 := n4_; have HB := n5_; clear n0_ n1_ n2_ n3_ n4_ n5_; (try clear hb); (try clear hb2); (try clear hk); (try clear hi)))
        go_meet
        case rel => exact ⟨_, (false), (by first | rfl | (simp; done) | (simp [*]; done)), H', ⟨by first | omega | exact Nat.le_refl _⟩, ⟨by (with_reducible repeat (first | apply Kd.R_alloc | apply Kd.R_drewN | apply Kd.R_drew)); exact Kd.R_mono HO310.out (fun _ hk => ⟨hk.1.2, ⟨hk.2, hk.1.1.2⟩⟩)⟩, ⟨by (with_reducible repeat (first | apply Kd.R_alloc | apply Kd.R_drewN | apply Kd.R_drew)); exact Kd.R_mono HO316.out (fun _ hk => ⟨hk.1.1.2, ⟨hk.2, hk.1.2⟩⟩)⟩, ⟨by (with_reducible repeat (first | apply Kd.R_alloc | apply Kd.R_drewN | apply Kd.R_drew)); exact Kd.R_mono HO322.out (fun _ hk => ⟨hk.1.1.2, ⟨hk.1.2, hk.2⟩⟩)⟩, ⟨by (with_reducible repeat (first | refine blk_drewN ?_ _ | refine blk_drew ?_ | refine blk_alloc ?_ _)); exact BK304.out⟩, ⟨by repeat (first | (with_reducible first | exact HB.out | apply below_alloc | apply pw_below_drewN | apply below_drew1 | refine below_set ?_ GE304.out) | exact HB.out)⟩⟩
     ·rw [if_neg c23] at H
      have c23b0 : (t323 == 0) = false := beq_eq_false_iff_ne.mpr c23
      have c23b1 : (t323 != 0) = true := bne_iff_ne.mpr c23
      have H' := Aside0.mk H
      clear H
      obtain ⟨Ao51, co51, eo51⟩ := Kd.R_slice HO310.out
      subst eo51
      go_wp2_with (first | (go_at_call 12; (with_reducible refine (extent_Check.calls k _ _ t308 t323 _ ?side1 ?side2 A22.out).mono ?_); (case side1 => repeat (first | exact (Kd.R_reads' HO310.out).2.2 | (with_reducible refine Kd.C_alloc ?_ _) | (with_reducible refine Kd.C_drewN ?_ _) | (with_reducible refine Kd.C_drew ?_))); (case side2 => exact (Kd.R_reads' HO310.out).2.1); rintro e w52 ⟨rfl, hb⟩; have n0_ := Aside0.mk (Kd.R_below (by (with_reducible repeat (first | apply Kd.R_alloc | apply Kd.R_drewN | apply Kd.R_drew)); exact HO310.out) hb); have n1_ := Aside0.mk (Kd.R_below (by (with_reducible repeat (first | apply Kd.R_alloc | apply Kd.R_drewN | apply Kd.R_drew)); exact HO316.out) hb); have n2_ := Aside0.mk (Kd.R_below (by (with_reducible repeat (first | apply Kd.R_alloc | apply Kd.R_drewN | apply Kd.R_drew)); exact HO318.out) hb); have n3_ := Aside0.mk (Kd.R_below (by (with_reducible repeat (first | apply Kd.R_alloc | apply Kd.R_drewN | apply Kd.R_drew)); exact HO322.out) hb); have n4_ := Aside0.mk (blk_below (g := gb304) (o := .cells #[.int .i64 a1_0, .int .i64 a1_1, .int .i64 a1_2, .bool a1_3] 24 (0, 0)) (by (with_reducible repeat (first | refine blk_drewN ?_ _ | refine blk_drew ?_ | refine blk_alloc ?_ _)); exact BK304.out) hb); have n5_ := Aside0.mk (below_step (by repeat (first | (with_reducible first | exact HB.out | apply below_alloc | apply pw_below_drewN | apply below_drew1 | refine below_set ?_ GE304.out) | exact HB.out)) hb); clear HO310; clear HO316; clear HO318; clear HO322; clear BK304; clear HB; have HO310 := n0_; have HO316 := n1_; have HO318 := n2_; have HO322 := n3_; have BK304 := n4_; have HB := n5_; clear n0_ n1_ n2_ n3_ n4_ n5_; (try clear hb); (try clear hb2); (try clear hk); (try clear hi)))
      go_meet
      case rel => exact ⟨_, (true), (by first | rfl | (simp; done) | (simp [*]; done)), H', ⟨by first | omega | exact Nat.le_refl _⟩, ⟨by (with_reducible repeat (first | apply Kd.R_alloc | apply Kd.R_drewN | apply Kd.R_drew)); exact Kd.R_mono HO310.out (fun _ hk => ⟨hk.1.2, ⟨hk.2, hk.1.1.2⟩⟩)⟩, ⟨by (with_reducible repeat (first | apply Kd.R_alloc | apply Kd.R_drewN | apply Kd.R_drew)); exact Kd.R_mono HO316.out (fun _ hk => ⟨hk.1.1.2, ⟨hk.2, hk.1.2⟩⟩)⟩, ⟨by (with_reducible repeat (first | apply Kd.R_alloc | apply Kd.R_drewN | apply Kd.R_drew)); exact Kd.R_mono HO322.out (fun _ hk => ⟨hk.1.1.2, ⟨hk.1.2, hk.2⟩⟩)⟩, ⟨by (with_reducible repeat (first | refine blk_drewN ?_ _ | refine blk_drew ?_ | refine blk_alloc ?_ _)); exact BK304.out⟩, ⟨by repeat (first | (with_reducible first | exact HB.out | apply below_alloc | apply pw_below_drewN | apply below_drew1 | refine below_set ?_ GE304.out) | exact HB.out)⟩⟩
    ·as_aux_lemma =>
     rw [if_neg c21] at H
     have c21b0 : (t311 == 0) = false := beq_eq_false_iff_ne.mpr c21
     have c21b1 : (t311 != 0) = true := bne_iff_ne.mpr c21
     (first | rw [c21b0] | (simp only [i64_w, i32_w]; rw [c21b0]) | skip)
     by_cases c53 : t314 = 0
     ·rw [if_pos c53] at H
      have c53b0 : (t314 == 0) = true := beq_iff_eq.mpr c53
      have c53b1 : (t314 != 0) = false := bne_eq_false_iff_eq.mpr c53
      clear c53
      replace H := Option.bind_eq_some_iff.mp H
      obtain ⟨t327, A540, H⟩ := H
      replace H : (if t327 = 0 then (if t320 = 0 then ((extent_Check.f k t319).bind fun t328 => (undercroftlaw10_ExtentBlocks.j0 k l0 a2 t308 t311 t312 t314 t319 t320 (t328 != 0) a1_0 a1_1 a1_2 a1_3)) else (undercroftlaw10_ExtentBlocks.j0 k l0 a2 t308 t311 t312 t314 t319 t320 false a1_0 a1_1 a1_2 a1_3)) else (undercroftlaw10_ExtentBlocks.j0 k l0 a2 t308 t311 t312 t314 t319 t320 true a1_0 a1_1 a1_2 a1_3)) = some r := H
      have A54 := Aside0.mk A540
      clear A540
      by_cases c55 : t327 = 0
      ·rw [if_pos c55] at H
       have c55b0 : (t327 == 0) = true := beq_iff_eq.mpr c55
       have c55b1 : (t327 != 0) = false := bne_eq_false_iff_eq.mpr c55
       clear c55
       by_cases c56 : t320 = 0
       ·rw [if_pos c56] at H
        have c56b0 : (t320 == 0) = true := beq_iff_eq.mpr c56
        have c56b1 : (t320 != 0) = false := bne_eq_false_iff_eq.mpr c56
        clear c56
        replace H := Option.bind_eq_some_iff.mp H
        obtain ⟨t328, A570, H⟩ := H
        replace H : (undercroftlaw10_ExtentBlocks.j0 k l0 a2 t308 t311 t312 t314 t319 t320 (t328 != 0) a1_0 a1_1 a1_2 a1_3) = some r := H
        have A57 := Aside0.mk A570
        clear A570
        have H' := Aside0.mk H
        clear H
        obtain ⟨Ao58, co58, eo58⟩ := Kd.R_slice HO316.out
        subst eo58
        go_wp2_with (first | (go_at_call 12; (with_reducible refine (extent_Check.calls k _ _ t312 t327 _ ?side1 ?side2 A54.out).mono ?_); (case side1 => repeat (first | exact (Kd.R_reads' HO316.out).2.2 | (with_reducible refine Kd.C_alloc ?_ _) | (with_reducible refine Kd.C_drewN ?_ _) | (with_reducible refine Kd.C_drew ?_))); (case side2 => exact (Kd.R_reads' HO316.out).2.1); rintro e w59 ⟨rfl, hb⟩; have n0_ := Aside0.mk (Kd.R_below (by (with_reducible repeat (first | apply Kd.R_alloc | apply Kd.R_drewN | apply Kd.R_drew)); exact HO310.out) hb); have n1_ := Aside0.mk (Kd.R_below (by (with_reducible repeat (first | apply Kd.R_alloc | apply Kd.R_drewN | apply Kd.R_drew)); exact HO316.out) hb); have n2_ := Aside0.mk (Kd.R_below (by (with_reducible repeat (first | apply Kd.R_alloc | apply Kd.R_drewN | apply Kd.R_drew)); exact HO318.out) hb); have n3_ := Aside0.mk (Kd.R_below (by (with_reducible repeat (first | apply Kd.R_alloc | apply Kd.R_drewN | apply Kd.R_drew)); exact HO322.out) hb); have n4_ := Aside0.mk (blk_below (g := gb304) (o := .cells #[.int .i64 a1_0, .int .i64 a1_1, .int .i64 a1_2, .bool a1_3] 24 (0, 0)) (by (with_reducible repeat (first | refine blk_drewN ?_ _ | refine blk_drew ?_ | refine blk_alloc ?_ _)); exact BK304.out) hb); have n5_ := Aside0.mk (below_step (by repeat (first | (with_reducible first | exact HB.out | apply below_alloc | apply pw_below_drewN | apply below_drew1 | refine below_set ?_ GE304.out) | exact HB.out)) hb); clear HO310; clear HO316; clear HO318; clear HO322; clear BK304; clear HB; have HO310 := n0_; have HO316 := n1_; have HO318 := n2_; have HO322 := n3_; have BK304 := n4_; have HB := n5_; clear n0_ n1_ n2_ n3_ n4_ n5_; (try clear hb); (try clear hb2); (try clear hk); (try clear hi); obtain ⟨Ao60, co60, eo60⟩ := Kd.R_slice HO322.out; subst eo60) | (go_at_call 12; (with_reducible refine (extent_Check.calls k _ _ t319 t328 _ ?side1 ?side2 A57.out).mono ?_); (case side1 => repeat (first | exact (Kd.R_reads' HO322.out).2.2 | (with_reducible refine Kd.C_alloc ?_ _) | (with_reducible refine Kd.C_drewN ?_ _) | (with_reducible refine Kd.C_drew ?_))); (case side2 => exact (Kd.R_reads' HO322.out).2.1); rintro e w61 ⟨rfl, hb⟩; have n0_ := Aside0.mk (Kd.R_below (by (with_reducible repeat (first | apply Kd.R_alloc | apply Kd.R_drewN | apply Kd.R_drew)); exact HO310.out) hb); have n1_ := Aside0.mk (Kd.R_below (by (with_reducible repeat (first | apply Kd.R_alloc | apply Kd.R_drewN | apply Kd.R_drew)); exact HO316.out) hb); have n2_ := Aside0.mk (Kd.R_below (by (with_reducible repeat (first | apply Kd.R_alloc | apply Kd.R_drewN | apply Kd.R_drew)); exact HO318.out) hb); have n3_ := Aside0.mk (Kd.R_below (by (with_reducible repeat (first | apply Kd.R_alloc | apply Kd.R_drewN | apply Kd.R_drew)); exact HO322.out) hb); have n4_ := Aside0.mk (blk_below (g := gb304) (o := .cells #[.int .i64 a1_0, .int .i64 a1_1, .int .i64 a1_2, .bool a1_3] 24 (0, 0)) (by (with_reducible repeat (first | refine blk_drewN ?_ _ | refine blk_drew ?_ | refine blk_alloc ?_ _)); exact BK304.out) hb); have n5_ := Aside0.mk (below_step (by repeat (first | (with_reducible first | exact HB.out | apply below_alloc | apply pw_below_drewN | apply below_drew1 | refine below_set ?_ GE304.out) | exact HB.out)) hb); clear HO310; clear HO316; clear HO318; clear HO322; clear BK304; clear HB; have HO310 := n0_; have HO316 := n1_; have HO318 := n2_; have HO322 := n3_; have BK304 := n4_; have HB := n5_; clear n0_ n1_ n2_ n3_ n4_ n5_; (try clear hb); (try clear hb2); (try clear hk); (try clear hi)))
        go_meet
        case rel => exact ⟨_, ((t328 != 0)), (by first | rfl | (simp; done) | (simp [*]; done)), H', ⟨by first | omega | exact Nat.le_refl _⟩, ⟨by (with_reducible repeat (first | apply Kd.R_alloc | apply Kd.R_drewN | apply Kd.R_drew)); exact Kd.R_mono HO310.out (fun _ hk => ⟨hk.1.2, ⟨hk.2, hk.1.1.2⟩⟩)⟩, ⟨by (with_reducible repeat (first | apply Kd.R_alloc | apply Kd.R_drewN | apply Kd.R_drew)); exact Kd.R_mono HO316.out (fun _ hk => ⟨hk.1.1.2, ⟨hk.2, hk.1.2⟩⟩)⟩, ⟨by (with_reducible repeat (first | apply Kd.R_alloc | apply Kd.R_drewN | apply Kd.R_drew)); exact Kd.R_mono HO322.out (fun _ hk => ⟨hk.1.1.2, ⟨hk.1.2, hk.2⟩⟩)⟩, ⟨by (with_reducible repeat (first | refine blk_drewN ?_ _ | refine blk_drew ?_ | refine blk_alloc ?_ _)); exact BK304.out⟩, ⟨by repeat (first | (with_reducible first | exact HB.out | apply below_alloc | apply pw_below_drewN | apply below_drew1 | refine below_set ?_ GE304.out) | exact HB.out)⟩⟩
       ·rw [if_neg c56] at H
        have c56b0 : (t320 == 0) = false := beq_eq_false_iff_ne.mpr c56
        have c56b1 : (t320 != 0) = true := bne_iff_ne.mpr c56
        have H' := Aside0.mk H
        clear H
        obtain ⟨Ao62, co62, eo62⟩ := Kd.R_slice HO316.out
        subst eo62
        go_wp2_with (first | (go_at_call 12; (with_reducible refine (extent_Check.calls k _ _ t312 t327 _ ?side1 ?side2 A54.out).mono ?_); (case side1 => repeat (first | exact (Kd.R_reads' HO316.out).2.2 | (with_reducible refine Kd.C_alloc ?_ _) | (with_reducible refine Kd.C_drewN ?_ _) | (with_reducible refine Kd.C_drew ?_))); (case side2 => exact (Kd.R_reads' HO316.out).2.1); rintro e w63 ⟨rfl, hb⟩; have n0_ := Aside0.mk (Kd.R_below (by (with_reducible repeat (first | apply Kd.R_alloc | apply Kd.R_drewN | apply Kd.R_drew)); exact HO310.out) hb); have n1_ := Aside0.mk (Kd.R_below (by (with_reducible repeat (first | apply Kd.R_alloc | apply Kd.R_drewN | apply Kd.R_drew)); exact HO316.out) hb); have n2_ := Aside0.mk (Kd.R_below (by (with_reducible repeat (first | apply Kd.R_alloc | apply Kd.R_drewN | apply Kd.R_drew)); exact HO318.out) hb); have n3_ := Aside0.mk (Kd.R_below (by (with_reducible repeat (first | apply Kd.R_alloc | apply Kd.R_drewN | apply Kd.R_drew)); exact HO322.out) hb); have n4_ := Aside0.mk (blk_below (g := gb304) (o := .cells #[.int .i64 a1_0, .int .i64 a1_1, .int .i64 a1_2, .bool a1_3] 24 (0, 0)) (by (with_reducible repeat (first | refine blk_drewN ?_ _ | refine blk_drew ?_ | refine blk_alloc ?_ _)); exact BK304.out) hb); have n5_ := Aside0.mk (below_step (by repeat (first | (with_reducible first | exact HB.out | apply below_alloc | apply pw_below_drewN | apply below_drew1 | refine below_set ?_ GE304.out) | exact HB.out)) hb); clear HO310; clear HO316; clear HO318; clear HO322; clear BK304; clear HB; have HO310 := n0_; have HO316 := n1_; have HO318 := n2_; have HO322 := n3_; have BK304 := n4_; have HB := n5_; clear n0_ n1_ n2_ n3_ n4_ n5_; (try clear hb); (try clear hb2); (try clear hk); (try clear hi)))
        go_meet
        case rel => exact ⟨_, (false), (by first | rfl | (simp; done) | (simp [*]; done)), H', ⟨by first | omega | exact Nat.le_refl _⟩, ⟨by (with_reducible repeat (first | apply Kd.R_alloc | apply Kd.R_drewN | apply Kd.R_drew)); exact Kd.R_mono HO310.out (fun _ hk => ⟨hk.1.2, ⟨hk.2, hk.1.1.2⟩⟩)⟩, ⟨by (with_reducible repeat (first | apply Kd.R_alloc | apply Kd.R_drewN | apply Kd.R_drew)); exact Kd.R_mono HO316.out (fun _ hk => ⟨hk.1.1.2, ⟨hk.2, hk.1.2⟩⟩)⟩, ⟨by (with_reducible repeat (first | apply Kd.R_alloc | apply Kd.R_drewN | apply Kd.R_drew)); exact Kd.R_mono HO322.out (fun _ hk => ⟨hk.1.1.2, ⟨hk.1.2, hk.2⟩⟩)⟩, ⟨by (with_reducible repeat (first | refine blk_drewN ?_ _ | refine blk_drew ?_ | refine blk_alloc ?_ _)); exact BK304.out⟩, ⟨by repeat (first | (with_reducible first | exact HB.out | apply below_alloc | apply pw_below_drewN | apply below_drew1 | refine below_set ?_ GE304.out) | exact HB.out)⟩⟩
      ·rw [if_neg c55] at H
       have c55b0 : (t327 == 0) = false := beq_eq_false_iff_ne.mpr c55
       have c55b1 : (t327 != 0) = true := bne_iff_ne.mpr c55
       have H' := Aside0.mk H
       clear H
       obtain ⟨Ao64, co64, eo64⟩ := Kd.R_slice HO316.out
       subst eo64
       go_wp2_with (first | (go_at_call 12; (with_reducible refine (extent_Check.calls k _ _ t312 t327 _ ?side1 ?side2 A54.out).mono ?_); (case side1 => repeat (first | exact (Kd.R_reads' HO316.out).2.2 | (with_reducible refine Kd.C_alloc ?_ _) | (with_reducible refine Kd.C_drewN ?_ _) | (with_reducible refine Kd.C_drew ?_))); (case side2 => exact (Kd.R_reads' HO316.out).2.1); rintro e w65 ⟨rfl, hb⟩; have n0_ := Aside0.mk (Kd.R_below (by (with_reducible repeat (first | apply Kd.R_alloc | apply Kd.R_drewN | apply Kd.R_drew)); exact HO310.out) hb); have n1_ := Aside0.mk (Kd.R_below (by (with_reducible repeat (first | apply Kd.R_alloc | apply Kd.R_drewN | apply Kd.R_drew)); exact HO316.out) hb); have n2_ := Aside0.mk (Kd.R_below (by (with_reducible repeat (first | apply Kd.R_alloc | apply Kd.R_drewN | apply Kd.R_drew)); exact HO318.out) hb); have n3_ := Aside0.mk (Kd.R_below (by (with_reducible repeat (first | apply Kd.R_alloc | apply Kd.R_drewN | apply Kd.R_drew)); exact HO322.out) hb); have n4_ := Aside0.mk (blk_below (g := gb304) (o := .cells #[.int .i64 a1_0, .int .i64 a1_1, .int .i64 a1_2, .bool a1_3] 24 (0, 0)) (by (with_reducible repeat (first | refine blk_drewN ?_ _ | refine blk_drew ?_ | refine blk_alloc ?_ _)); exact BK304.out) hb); have n5_ := Aside0.mk (below_step (by repeat (first | (with_reducible first | exact HB.out | apply below_alloc | apply pw_below_drewN | apply below_drew1 | refine below_set ?_ GE304.out) | exact HB.out)) hb); clear HO310; clear HO316; clear HO318; clear HO322; clear BK304; clear HB; have HO310 := n0_; have HO316 := n1_; have HO318 := n2_; have HO322 := n3_; have BK304 := n4_; have HB := n5_; clear n0_ n1_ n2_ n3_ n4_ n5_; (try clear hb); (try clear hb2); (try clear hk); (try clear hi)))
       go_meet
       case rel => exact ⟨_, (true), (by first | rfl | (simp; done) | (simp [*]; done)), H', ⟨by first | omega | exact Nat.le_refl _⟩, ⟨by (with_reducible repeat (first | apply Kd.R_alloc | apply Kd.R_drewN | apply Kd.R_drew)); exact Kd.R_mono HO310.out (fun _ hk => ⟨hk.1.2, ⟨hk.2, hk.1.1.2⟩⟩)⟩, ⟨by (with_reducible repeat (first | apply Kd.R_alloc | apply Kd.R_drewN | apply Kd.R_drew)); exact Kd.R_mono HO316.out (fun _ hk => ⟨hk.1.1.2, ⟨hk.2, hk.1.2⟩⟩)⟩, ⟨by (with_reducible repeat (first | apply Kd.R_alloc | apply Kd.R_drewN | apply Kd.R_drew)); exact Kd.R_mono HO322.out (fun _ hk => ⟨hk.1.1.2, ⟨hk.1.2, hk.2⟩⟩)⟩, ⟨by (with_reducible repeat (first | refine blk_drewN ?_ _ | refine blk_drew ?_ | refine blk_alloc ?_ _)); exact BK304.out⟩, ⟨by repeat (first | (with_reducible first | exact HB.out | apply below_alloc | apply pw_below_drewN | apply below_drew1 | refine below_set ?_ GE304.out) | exact HB.out)⟩⟩
     ·rw [if_neg c53] at H
      have c53b0 : (t314 == 0) = false := beq_eq_false_iff_ne.mpr c53
      have c53b1 : (t314 != 0) = true := bne_iff_ne.mpr c53
      by_cases c66 : t320 = 0
      ·rw [if_pos c66] at H
       have c66b0 : (t320 == 0) = true := beq_iff_eq.mpr c66
       have c66b1 : (t320 != 0) = false := bne_eq_false_iff_eq.mpr c66
       clear c66
       replace H := Option.bind_eq_some_iff.mp H
       obtain ⟨t329, A670, H⟩ := H
       replace H : (undercroftlaw10_ExtentBlocks.j0 k l0 a2 t308 t311 t312 t314 t319 t320 (t329 != 0) a1_0 a1_1 a1_2 a1_3) = some r := H
       have A67 := Aside0.mk A670
       clear A670
       have H' := Aside0.mk H
       clear H
       obtain ⟨Ao68, co68, eo68⟩ := Kd.R_slice HO322.out
       subst eo68
       go_wp2_with (first | (go_at_call 12; (with_reducible refine (extent_Check.calls k _ _ t319 t329 _ ?side1 ?side2 A67.out).mono ?_); (case side1 => repeat (first | exact (Kd.R_reads' HO322.out).2.2 | (with_reducible refine Kd.C_alloc ?_ _) | (with_reducible refine Kd.C_drewN ?_ _) | (with_reducible refine Kd.C_drew ?_))); (case side2 => exact (Kd.R_reads' HO322.out).2.1); rintro e w69 ⟨rfl, hb⟩; have n0_ := Aside0.mk (Kd.R_below (by (with_reducible repeat (first | apply Kd.R_alloc | apply Kd.R_drewN | apply Kd.R_drew)); exact HO310.out) hb); have n1_ := Aside0.mk (Kd.R_below (by (with_reducible repeat (first | apply Kd.R_alloc | apply Kd.R_drewN | apply Kd.R_drew)); exact HO316.out) hb); have n2_ := Aside0.mk (Kd.R_below (by (with_reducible repeat (first | apply Kd.R_alloc | apply Kd.R_drewN | apply Kd.R_drew)); exact HO318.out) hb); have n3_ := Aside0.mk (Kd.R_below (by (with_reducible repeat (first | apply Kd.R_alloc | apply Kd.R_drewN | apply Kd.R_drew)); exact HO322.out) hb); have n4_ := Aside0.mk (blk_below (g := gb304) (o := .cells #[.int .i64 a1_0, .int .i64 a1_1, .int .i64 a1_2, .bool a1_3] 24 (0, 0)) (by (with_reducible repeat (first | refine blk_drewN ?_ _ | refine blk_drew ?_ | refine blk_alloc ?_ _)); exact BK304.out) hb); have n5_ := Aside0.mk (below_step (by repeat (first | (with_reducible first | exact HB.out | apply below_alloc | apply pw_below_drewN | apply below_drew1 | refine below_set ?_ GE304.out) | exact HB.out)) hb); clear HO310; clear HO316; clear HO318; clear HO322; clear BK304; clear HB; have HO310 := n0_; have HO316 := n1_; have HO318 := n2_; have HO322 := n3_; have BK304 := n4_; have HB := n5_; clear n0_ n1_ n2_ n3_ n4_ n5_; (try clear hb); (try clear hb2); (try clear hk); (try clear hi)))
       go_meet
       case rel => exact ⟨_, ((t329 != 0)), (by first | rfl | (simp; done) | (simp [*]; done)), H', ⟨by first | omega | exact Nat.le_refl _⟩, ⟨by (with_reducible repeat (first | apply Kd.R_alloc | apply Kd.R_drewN | apply Kd.R_drew)); exact Kd.R_mono HO310.out (fun _ hk => ⟨hk.1.2, ⟨hk.2, hk.1.1.2⟩⟩)⟩, ⟨by (with_reducible repeat (first | apply Kd.R_alloc | apply Kd.R_drewN | apply Kd.R_drew)); exact Kd.R_mono HO316.out (fun _ hk => ⟨hk.1.1.2, ⟨hk.2, hk.1.2⟩⟩)⟩, ⟨by (with_reducible repeat (first | apply Kd.R_alloc | apply Kd.R_drewN | apply Kd.R_drew)); exact Kd.R_mono HO322.out (fun _ hk => ⟨hk.1.1.2, ⟨hk.1.2, hk.2⟩⟩)⟩, ⟨by (with_reducible repeat (first | refine blk_drewN ?_ _ | refine blk_drew ?_ | refine blk_alloc ?_ _)); exact BK304.out⟩, ⟨by repeat (first | (with_reducible first | exact HB.out | apply below_alloc | apply pw_below_drewN | apply below_drew1 | refine below_set ?_ GE304.out) | exact HB.out)⟩⟩
      ·rw [if_neg c66] at H
       have c66b0 : (t320 == 0) = false := beq_eq_false_iff_ne.mpr c66
       have c66b1 : (t320 != 0) = true := bne_iff_ne.mpr c66
       have H' := Aside0.mk H
       clear H;go_wp2
       go_meet
       case rel => exact ⟨_, (false), (by first | rfl | (simp; done) | (simp [*]; done)), H', ⟨by first | omega | exact Nat.le_refl _⟩, ⟨by (with_reducible repeat (first | apply Kd.R_alloc | apply Kd.R_drewN | apply Kd.R_drew)); exact Kd.R_mono HO310.out (fun _ hk => ⟨hk.1.2, ⟨hk.2, hk.1.1.2⟩⟩)⟩, ⟨by (with_reducible repeat (first | apply Kd.R_alloc | apply Kd.R_drewN | apply Kd.R_drew)); exact Kd.R_mono HO316.out (fun _ hk => ⟨hk.1.1.2, ⟨hk.2, hk.1.2⟩⟩)⟩, ⟨by (with_reducible repeat (first | apply Kd.R_alloc | apply Kd.R_drewN | apply Kd.R_drew)); exact Kd.R_mono HO322.out (fun _ hk => ⟨hk.1.1.2, ⟨hk.1.2, hk.2⟩⟩)⟩, ⟨by (with_reducible repeat (first | refine blk_drewN ?_ _ | refine blk_drew ?_ | refine blk_alloc ?_ _)); exact BK304.out⟩, ⟨by repeat (first | (with_reducible first | exact HB.out | apply below_alloc | apply pw_below_drewN | apply below_drew1 | refine below_set ?_ GE304.out) | exact HB.out)⟩⟩
   case rest =>
    clear HC11
    try clear c1
    try clear c2
    try clear p2
    try clear c4
    try clear c5
    try clear c6
    try clear c7
    try clear c7b0
    try clear c7b1
    try clear c8
    try clear c11
    try clear c12
    try clear c13
    try clear c14
    try clear c21
    try clear c21b0
    try clear c21b1
    try clear c22
    try clear c23
    try clear c23b0
    try clear c23b1
    try clear c24
    try clear c24b0
    try clear c24b1
    try clear c26
    try clear c26b0
    try clear c26b1
    try clear c27
    try clear c27b0
    try clear c27b1
    try clear c43
    try clear c43b0
    try clear c43b1
    try clear c53
    try clear c53b0
    try clear c53b1
    try clear c55
    try clear c55b0
    try clear c55b1
    try clear c56
    try clear c56b0
    try clear c56b1
    try clear c66
    try clear c66b0
    try clear c66b1
    try clear hcz15_0
    try clear hcz15_1
    try clear hcz15_2
    try clear hcz15_3
    try clear hcz17_0
    try clear hcz17_1
    try clear hcz17_2
    try clear hcz17_3
    try clear hcz19_0
    try clear hcz19_1
    try clear hcz19_2
    try clear hcz19_3
    try clear hfz15_0
    try clear hfz15_1
    try clear hfz15_2
    try clear hfz15_3
    try clear hfz17_0
    try clear hfz17_1
    try clear hfz17_2
    try clear hfz17_3
    try clear hfz19_0
    try clear hfz19_1
    try clear hfz19_2
    try clear hfz19_3
    obtain ⟨kq, x84_10, rfl, HA, HJ10, HO_7, HO_9, HO_12, BK304, HB⟩ := hcut
    cases kq with
    | zero => exact absurd HA.out (by intro h_; cases h_)
    | succ kj10 =>
     have H := HA.out
     clear HA
     simp only [undercroftlaw10_ExtentBlocks.j0] at H
     by_cases c70 : x84_10 = true
     ·subst c70
      have H1 : (some false) = some r := by rw [if_pos rfl] at H; exact H
      clear H;have H := H1;clear H1;obtain rfl := Option.some.inj H;go_wp2;go_ret
      exact ⟨by first | rfl | (simp [errW_none, errW_some] <;> rfl) | (simp [*, errW_none, errW_some] <;> rfl), by repeat (first | (with_reducible first | exact HB.out | apply below_alloc | apply pw_below_drewN | apply below_drew1 | refine below_set ?_ GE304.out) | exact HB.out)⟩
     ·replace c70 := Bool.eq_false_iff.mpr c70
      subst c70
      have H1 : (undercroftlaw10_ExtentBlocks.l0 kj10 l0 a2 t308 t311 t312 t314 t319 t320 (-1) a1_0 a1_1 a1_2 a1_3) = some r := by rw [if_neg (show ¬ (false = true) by decide)] at H; exact H
      clear H;have H := H1;clear H1
      have H' := Aside0.mk H
      clear H;go_wp2
      go_loopg [14] kj10 (fun kq v14 w' => ∃ (x14_2 : Int), v14 = .int .i64 x14_2 ∧ Aside0 (undercroftlaw10_ExtentBlocks.l0 kq l0 a2 t308 t311 t312 t314 t319 t320 x14_2 a1_0 a1_1 a1_2 a1_3 = some r) ∧ Aside0 (kq ≤ kj10) ∧ Aside0 (Kd.R k24 24 w' w.heap.size (fun k_ => some k_ ≠ (v315 : Value).ownBlock ∧ some k_ ≠ (v321 : Value).ownBlock ∧ k_ ≠ gb304) v309 t308) ∧ Aside0 (Kd.R k24 24 w' w.heap.size (fun k_ => some k_ ≠ (v309 : Value).ownBlock ∧ some k_ ≠ (v321 : Value).ownBlock ∧ k_ ≠ gb304) v315 t312) ∧ Aside0 (Kd.R k24 24 w' w.heap.size (fun k_ => some k_ ≠ (v309 : Value).ownBlock ∧ some k_ ≠ (v315 : Value).ownBlock ∧ k_ ≠ gb304) v321 t319) ∧ Aside0 (w'.heap[gb304]? = some (.cells #[.int .i64 a1_0, .int .i64 a1_1, .int .i64 a1_2, .bool a1_3] 24 (0, 0))) ∧ Aside0 (Below w.heap.size w w'))
      case atStart => exact ⟨((-1)), (by first | rfl | (simp; done) | (simp [*]; done)), H', ⟨Nat.le_refl _⟩, ⟨by (with_reducible repeat (first | apply Kd.R_alloc | apply Kd.R_drewN | apply Kd.R_drew)); exact HO_7.out⟩, ⟨by (with_reducible repeat (first | apply Kd.R_alloc | apply Kd.R_drewN | apply Kd.R_drew)); exact HO_9.out⟩, ⟨by (with_reducible repeat (first | apply Kd.R_alloc | apply Kd.R_drewN | apply Kd.R_drew)); exact HO_12.out⟩, ⟨by (with_reducible repeat (first | refine blk_drewN ?_ _ | refine blk_drew ?_ | refine blk_alloc ?_ _)); exact BK304.out⟩, ⟨by repeat (first | (with_reducible first | exact HB.out | apply below_alloc | apply pw_below_drewN | apply below_drew1 | refine below_set ?_ GE304.out) | exact HB.out)⟩⟩
      case round =>
       clear H'
       try clear c1
       try clear c2
       try clear p2
       try clear c4
       try clear c5
       try clear c6
       try clear c7
       try clear c7b0
       try clear c7b1
       try clear c8
       try clear c11
       try clear c12
       try clear c13
       try clear c14
       try clear c21
       try clear c21b0
       try clear c21b1
       try clear c22
       try clear c23
       try clear c23b0
       try clear c23b1
       try clear c24
       try clear c24b0
       try clear c24b1
       try clear c26
       try clear c26b0
       try clear c26b1
       try clear c27
       try clear c27b0
       try clear c27b1
       try clear c43
       try clear c43b0
       try clear c43b1
       try clear c53
       try clear c53b0
       try clear c53b1
       try clear c55
       try clear c55b0
       try clear c55b1
       try clear c56
       try clear c56b0
       try clear c56b1
       try clear c66
       try clear c66b0
       try clear c66b1
       try clear c70
       try clear hcz15_0
       try clear hcz15_1
       try clear hcz15_2
       try clear hcz15_3
       try clear hcz17_0
       try clear hcz17_1
       try clear hcz17_2
       try clear hcz17_3
       try clear hcz19_0
       try clear hcz19_1
       try clear hcz19_2
       try clear hcz19_3
       try clear hfz15_0
       try clear hfz15_1
       try clear hfz15_2
       try clear hfz15_3
       try clear hfz17_0
       try clear hfz17_1
       try clear hfz17_2
       try clear hfz17_3
       try clear hfz19_0
       try clear hfz19_1
       try clear hfz19_2
       try clear hfz19_3
       try clear p2
       obtain ⟨x14_2, rfl, HA, HK2, HO_7, HO_9, HO_12, BK304, HB⟩ := hrel
       cases gk with
       | zero => exact absurd HA.out (by intro h_; cases h_)
       | succ k2 =>
        have H := HA.out
        clear HA
        simp only [undercroftlaw10_ExtentBlocks.l0] at H
        by_cases c71 : x14_2 ≤ 256
        ·rw [if_pos c71] at H
         have c71b0 : decide (x14_2 ≤ 256) = true := decide_eq_true c71
         clear c71
         replace H := Option.bind_eq_some_iff.mp H
         obtain ⟨⟨t330, t331, t332⟩, A720, H⟩ := H
         replace H : (if x14_2 ≥ a1_0 then (undercroftlaw10_ExtentBlocks.j2 k2 l0 a2 t308 t311 t312 t314 t319 t320 x14_2 t330 t331 t332 (decide (x14_2 < a2)) a1_0 a1_1 a1_2 a1_3) else (undercroftlaw10_ExtentBlocks.j2 k2 l0 a2 t308 t311 t312 t314 t319 t320 x14_2 t330 t331 t332 false a1_0 a1_1 a1_2 a1_3)) = some r := H
         have A72 := Aside0.mk A720
         clear A720
         have HC73 := Aside0.mk H
         clear H
         go_upto_region 14 with (first | ((with_reducible refine gate_callee (f := 21) rfl ?_); refine goesL_ (some 92) rfl rfl Try.func21 (by kernel_rfl) rfl #[.slice A0 l0.length c0, .int .i64 x14_2] rfl (by (try simp only [List.map_toArray, List.map_cons, List.map_nil]); first | done | rfl | (simp only [List.length_drop, List.length_take]; rfl)) ?_; (with_reducible refine (extent_Find.calls k2 _ _ l0 x14_2 t330 t331 t332 _ ?side1 ?side2 A72.out).mono ?_); (case side1 => repeat (first | exact (Kd.C_below HR0.out HB.out) | (with_reducible refine Kd.C_alloc ?_ _) | (with_reducible refine Kd.C_drewN ?_ _) | (with_reducible refine Kd.C_drew ?_))); (case side2 => exact HC0.out); rintro e w74 ⟨rfl, hb⟩; refine ⟨_, rfl, ?_⟩; have n0_ := Aside0.mk (Kd.R_below (by (with_reducible repeat (first | apply Kd.R_alloc | apply Kd.R_drewN | apply Kd.R_drew)); exact HO_7.out) hb); have n1_ := Aside0.mk (Kd.R_below (by (with_reducible repeat (first | apply Kd.R_alloc | apply Kd.R_drewN | apply Kd.R_drew)); exact HO_9.out) hb); have n2_ := Aside0.mk (Kd.R_below (by (with_reducible repeat (first | apply Kd.R_alloc | apply Kd.R_drewN | apply Kd.R_drew)); exact HO_12.out) hb); have n3_ := Aside0.mk (blk_below (g := gb304) (o := .cells #[.int .i64 a1_0, .int .i64 a1_1, .int .i64 a1_2, .bool a1_3] 24 (0, 0)) (by (with_reducible repeat (first | refine blk_drewN ?_ _ | refine blk_drew ?_ | refine blk_alloc ?_ _)); exact BK304.out) hb); have n4_ := Aside0.mk (below_step (by repeat (first | (with_reducible first | exact HB.out | apply below_alloc | apply pw_below_drewN | apply below_drew1 | refine below_set ?_ GE304.out) | exact HB.out)) hb); clear HO_7; clear HO_9; clear HO_12; clear BK304; clear HB; have HO_7 := n0_; have HO_9 := n1_; have HO_12 := n2_; have BK304 := n3_; have HB := n4_; clear n0_ n1_ n2_ n3_ n4_; (try clear hb); (try clear hb2); (try clear hk); (try clear hi)))
         (try simp only [Act.put, List.setIfInBounds_toArray, List.set_cons_zero, List.set_cons_succ])
         go_cut [18] (fun v18 wc => ∃ (kq : Nat) (x18_72 : Bool), v18 = .bool x18_72 ∧ Aside0 (undercroftlaw10_ExtentBlocks.j2 kq l0 a2 t308 t311 t312 t314 t319 t320 x14_2 t330 t331 t332 x18_72 a1_0 a1_1 a1_2 a1_3 = some r) ∧ Aside0 (kq ≤ k2) ∧ Aside0 (Kd.R k24 24 wc w.heap.size (fun k_ => some k_ ≠ (v315 : Value).ownBlock ∧ some k_ ≠ (v321 : Value).ownBlock ∧ k_ ≠ gb304) v309 t308) ∧ Aside0 (Kd.R k24 24 wc w.heap.size (fun k_ => some k_ ≠ (v309 : Value).ownBlock ∧ some k_ ≠ (v321 : Value).ownBlock ∧ k_ ≠ gb304) v315 t312) ∧ Aside0 (Kd.R k24 24 wc w.heap.size (fun k_ => some k_ ≠ (v309 : Value).ownBlock ∧ some k_ ≠ (v315 : Value).ownBlock ∧ k_ ≠ gb304) v321 t319) ∧ Aside0 (wc.heap[gb304]? = some (.cells #[.int .i64 a1_0, .int .i64 a1_1, .int .i64 a1_2, .bool a1_3] 24 (0, 0))) ∧ Aside0 (Below w.heap.size w wc))
         case first =>
          have H := HC73.out
          clear HC73
          by_cases c75 : x14_2 ≥ a1_0
          ·as_aux_lemma =>
           rw [if_pos c75] at H
           have c75b0 : decide (a1_0 ≤ x14_2) = true := decide_eq_true c75
           clear c75
           (first | rw [c75b0] | (simp only [i64_w, i32_w]; rw [c75b0]) | skip)
           have H' := Aside0.mk H
           clear H
           have hcz76_0 : w74.cell? ⟨gb304, 0, none⟩ = some (.int .i64 a1_0) := (blk_cell BK304.out 0).trans rfl
           have hcz76_1 : w74.cell? ⟨gb304, 1, none⟩ = some (.int .i64 a1_1) := (blk_cell BK304.out 1).trans rfl
           have hcz76_2 : w74.cell? ⟨gb304, 2, none⟩ = some (.int .i64 a1_2) := (blk_cell BK304.out 2).trans rfl
           have hcz76_3 : w74.cell? ⟨gb304, 3, none⟩ = some (.bool a1_3) := (blk_cell BK304.out 3).trans rfl
           have hfz76_0 := blk_frozen BK304.out 0
           have hfz76_1 := blk_frozen BK304.out 1
           have hfz76_2 := blk_frozen BK304.out 2
           have hfz76_3 := blk_frozen BK304.out 3
           go_wp2
           go_meet
           case rel => exact ⟨_, (decide (x14_2 < a2)), (by first | rfl | (simp; done) | (simp [*]; done)), H', ⟨by have := HJ10.out; have := HK2.out; first | omega | exact Nat.le_refl _⟩, ⟨by (with_reducible repeat (first | apply Kd.R_alloc | apply Kd.R_drewN | apply Kd.R_drew)); exact HO_7.out⟩, ⟨by (with_reducible repeat (first | apply Kd.R_alloc | apply Kd.R_drewN | apply Kd.R_drew)); exact HO_9.out⟩, ⟨by (with_reducible repeat (first | apply Kd.R_alloc | apply Kd.R_drewN | apply Kd.R_drew)); exact HO_12.out⟩, ⟨by (with_reducible repeat (first | refine blk_drewN ?_ _ | refine blk_drew ?_ | refine blk_alloc ?_ _)); exact BK304.out⟩, ⟨by repeat (first | (with_reducible first | exact HB.out | apply below_alloc | apply pw_below_drewN | apply below_drew1 | refine below_set ?_ GE304.out) | exact HB.out)⟩⟩
          ·as_aux_lemma =>
           rw [if_neg c75] at H
           have c75b0 : decide (a1_0 ≤ x14_2) = false := decide_eq_false c75
           clear c75
           (first | rw [c75b0] | (simp only [i64_w, i32_w]; rw [c75b0]) | skip)
           have H' := Aside0.mk H
           clear H
           have hcz77_0 : w74.cell? ⟨gb304, 0, none⟩ = some (.int .i64 a1_0) := (blk_cell BK304.out 0).trans rfl
           have hcz77_1 : w74.cell? ⟨gb304, 1, none⟩ = some (.int .i64 a1_1) := (blk_cell BK304.out 1).trans rfl
           have hcz77_2 : w74.cell? ⟨gb304, 2, none⟩ = some (.int .i64 a1_2) := (blk_cell BK304.out 2).trans rfl
           have hcz77_3 : w74.cell? ⟨gb304, 3, none⟩ = some (.bool a1_3) := (blk_cell BK304.out 3).trans rfl
           have hfz77_0 := blk_frozen BK304.out 0
           have hfz77_1 := blk_frozen BK304.out 1
           have hfz77_2 := blk_frozen BK304.out 2
           have hfz77_3 := blk_frozen BK304.out 3
           go_wp2
           go_meet
           case rel => exact ⟨_, (false), (by first | rfl | (simp; done) | (simp [*]; done)), H', ⟨by have := HJ10.out; have := HK2.out; first | omega | exact Nat.le_refl _⟩, ⟨by (with_reducible repeat (first | apply Kd.R_alloc | apply Kd.R_drewN | apply Kd.R_drew)); exact HO_7.out⟩, ⟨by (with_reducible repeat (first | apply Kd.R_alloc | apply Kd.R_drewN | apply Kd.R_drew)); exact HO_9.out⟩, ⟨by (with_reducible repeat (first | apply Kd.R_alloc | apply Kd.R_drewN | apply Kd.R_drew)); exact HO_12.out⟩, ⟨by (with_reducible repeat (first | refine blk_drewN ?_ _ | refine blk_drew ?_ | refine blk_alloc ?_ _)); exact BK304.out⟩, ⟨by repeat (first | (with_reducible first | exact HB.out | apply below_alloc | apply pw_below_drewN | apply below_drew1 | refine below_set ?_ GE304.out) | exact HB.out)⟩⟩
         case rest =>
          clear HC73
          try clear c1
          try clear c2
          try clear p2
          try clear c4
          try clear c5
          try clear c6
          try clear c7
          try clear c7b0
          try clear c7b1
          try clear c8
          try clear c11
          try clear c12
          try clear c13
          try clear c14
          try clear c21
          try clear c21b0
          try clear c21b1
          try clear c22
          try clear c23
          try clear c23b0
          try clear c23b1
          try clear c24
          try clear c24b0
          try clear c24b1
          try clear c26
          try clear c26b0
          try clear c26b1
          try clear c27
          try clear c27b0
          try clear c27b1
          try clear c43
          try clear c43b0
          try clear c43b1
          try clear c53
          try clear c53b0
          try clear c53b1
          try clear c55
          try clear c55b0
          try clear c55b1
          try clear c56
          try clear c56b0
          try clear c56b1
          try clear c66
          try clear c66b0
          try clear c66b1
          try clear c70
          try clear c71
          try clear c71b0
          try clear c75
          try clear c75b0
          try clear hcz15_0
          try clear hcz15_1
          try clear hcz15_2
          try clear hcz15_3
          try clear hcz17_0
          try clear hcz17_1
          try clear hcz17_2
          try clear hcz17_3
          try clear hcz19_0
          try clear hcz19_1
          try clear hcz19_2
          try clear hcz19_3
          try clear hcz76_0
          try clear hcz76_1
          try clear hcz76_2
          try clear hcz76_3
          try clear hcz77_0
          try clear hcz77_1
          try clear hcz77_2
          try clear hcz77_3
          try clear hfz15_0
          try clear hfz15_1
          try clear hfz15_2
          try clear hfz15_3
          try clear hfz17_0
          try clear hfz17_1
          try clear hfz17_2
          try clear hfz17_3
          try clear hfz19_0
          try clear hfz19_1
          try clear hfz19_2
          try clear hfz19_3
          try clear hfz76_0
          try clear hfz76_1
          try clear hfz76_2
          try clear hfz76_3
          try clear hfz77_0
          try clear hfz77_1
          try clear hfz77_2
          try clear hfz77_3
          try clear p2
          obtain ⟨kq, x18_72, rfl, HA, HJ72, HO_7, HO_9, HO_12, BK304, HB⟩ := hcut
          cases kq with
          | zero => exact absurd HA.out (by intro h_; cases h_)
          | succ kj72 =>
           have H := HA.out
           clear HA
           simp only [undercroftlaw10_ExtentBlocks.j2] at H
           have HC78 := Aside0.mk H
           clear H
           go_upto_if 106 with (fail)
           go_cut [] (fun wc => ∃ (kq : Nat), Aside0 (undercroftlaw10_ExtentBlocks.j3 kq l0 a2 t308 t311 t312 t314 t319 t320 x14_2 t330 t331 t332 x18_72 a1_0 a1_1 a1_2 a1_3 = some r) ∧ Aside0 (kq ≤ kj72) ∧ Aside0 (Kd.R k24 24 wc w.heap.size (fun k_ => some k_ ≠ (v315 : Value).ownBlock ∧ some k_ ≠ (v321 : Value).ownBlock ∧ k_ ≠ gb304) v309 t308) ∧ Aside0 (Kd.R k24 24 wc w.heap.size (fun k_ => some k_ ≠ (v309 : Value).ownBlock ∧ some k_ ≠ (v321 : Value).ownBlock ∧ k_ ≠ gb304) v315 t312) ∧ Aside0 (Kd.R k24 24 wc w.heap.size (fun k_ => some k_ ≠ (v309 : Value).ownBlock ∧ some k_ ≠ (v315 : Value).ownBlock ∧ k_ ≠ gb304) v321 t319) ∧ Aside0 (wc.heap[gb304]? = some (.cells #[.int .i64 a1_0, .int .i64 a1_1, .int .i64 a1_2, .bool a1_3] 24 (0, 0))) ∧ Aside0 (Below w.heap.size w wc))
           case first =>
            have H := HC78.out
            clear HC78
            by_cases c79 : t311 = 0
            ·rw [if_pos c79] at H
             have c79b0 : (t311 == 0) = true := beq_iff_eq.mpr c79
             have c79b1 : (t311 != 0) = false := bne_eq_false_iff_eq.mpr c79
             clear c79
             (first | rw [c79b0] | (simp only [i64_w, i32_w]; rw [c79b0]) | skip)
             replace H := Option.bind_eq_some_iff.mp H
             obtain ⟨⟨t333, t334, t335⟩, A800, H⟩ := H
             replace H : (if x14_2 ≥ a1_0 then (if x14_2 < (wrap64 (a1_0 + a1_2)) then (if t332 = true then (some false) else (if t335 = true then (if t333 = (wrap64 ((wrap64 (a1_1 + x14_2)) - a1_0)) then (if (t334 == a1_3) = true then (some false) else (undercroftlaw10_ExtentBlocks.j3 kj72 l0 a2 t308 t311 t312 t314 t319 t320 x14_2 t330 t331 t332 x18_72 a1_0 a1_1 a1_2 a1_3)) else (some false)) else (some false))) else (if t333 = t330 then (if (t334 != t331) = true then (some false) else (if (t335 != t332) = true then (some false) else (undercroftlaw10_ExtentBlocks.j3 kj72 l0 a2 t308 t311 t312 t314 t319 t320 x14_2 t330 t331 t332 x18_72 a1_0 a1_1 a1_2 a1_3))) else (some false))) else (if t333 = t330 then (if (t334 != t331) = true then (some false) else (if (t335 != t332) = true then (some false) else (undercroftlaw10_ExtentBlocks.j3 kj72 l0 a2 t308 t311 t312 t314 t319 t320 x14_2 t330 t331 t332 x18_72 a1_0 a1_1 a1_2 a1_3))) else (some false))) = some r := H
             have A80 := Aside0.mk A800
             clear A800
             by_cases c81 : x14_2 ≥ a1_0
             ·as_aux_lemma =>
              rw [if_pos c81] at H
              have c81b0 : decide (a1_0 ≤ x14_2) = true := decide_eq_true c81
              clear c81
              by_cases c82 : x14_2 < (wrap64 (a1_0 + a1_2))
              ·rw [if_pos c82] at H
               have c82b0 : decide (x14_2 < (wrap64 (a1_0 + a1_2))) = true := decide_eq_true c82
               clear c82
               by_cases c83 : t332 = true
               ·subst c83
                have H1 : (some false) = some r := by rw [if_pos rfl] at H; exact H
                clear H;have H := H1;clear H1;obtain rfl := Option.some.inj H
                obtain ⟨Ao84, co84, eo84⟩ := Kd.R_slice HO_7.out
                subst eo84
                go_wp2_with (first | ((with_reducible refine gate_callee (f := 21) rfl ?_); refine goesL_ (some 110) rfl rfl Try.func21 (by kernel_rfl) rfl #[.slice Ao84 t308.length co84, .int .i64 x14_2] rfl (by (try simp only [List.map_toArray, List.map_cons, List.map_nil]); first | done | rfl | (simp only [List.length_drop, List.length_take]; rfl)) ?_; (with_reducible refine (extent_Find.calls kj72 _ _ t308 x14_2 t333 t334 t335 _ ?side1 ?side2 A80.out).mono ?_); (case side1 => repeat (first | exact (Kd.R_reads' HO_7.out).2.2 | (with_reducible refine Kd.C_alloc ?_ _) | (with_reducible refine Kd.C_drewN ?_ _) | (with_reducible refine Kd.C_drew ?_))); (case side2 => exact (Kd.R_reads' HO_7.out).2.1); rintro e w85 ⟨rfl, hb⟩; refine ⟨_, rfl, ?_⟩; have n0_ := Aside0.mk (Kd.R_below (by (with_reducible repeat (first | apply Kd.R_alloc | apply Kd.R_drewN | apply Kd.R_drew)); exact HO_7.out) hb); have n1_ := Aside0.mk (Kd.R_below (by (with_reducible repeat (first | apply Kd.R_alloc | apply Kd.R_drewN | apply Kd.R_drew)); exact HO_9.out) hb); have n2_ := Aside0.mk (Kd.R_below (by (with_reducible repeat (first | apply Kd.R_alloc | apply Kd.R_drewN | apply Kd.R_drew)); exact HO_12.out) hb); have n3_ := Aside0.mk (blk_below (g := gb304) (o := .cells #[.int .i64 a1_0, .int .i64 a1_1, .int .i64 a1_2, .bool a1_3] 24 (0, 0)) (by (with_reducible repeat (first | refine blk_drewN ?_ _ | refine blk_drew ?_ | refine blk_alloc ?_ _)); exact BK304.out) hb); have n4_ := Aside0.mk (below_step (by repeat (first | (with_reducible first | exact HB.out | apply below_alloc | apply pw_below_drewN | apply below_drew1 | refine below_set ?_ GE304.out) | exact HB.out)) hb); clear HO_7; clear HO_9; clear HO_12; clear BK304; clear HB; have HO_7 := n0_; have HO_9 := n1_; have HO_12 := n2_; have BK304 := n3_; have HB := n4_; clear n0_ n1_ n2_ n3_ n4_; (try clear hb); (try clear hb2); (try clear hk); (try clear hi); have hcz86_0 : w85.cell? ⟨gb304, 0, none⟩ = some (.int .i64 a1_0) := (blk_cell BK304.out 0).trans rfl; have hcz86_1 : w85.cell? ⟨gb304, 1, none⟩ = some (.int .i64 a1_1) := (blk_cell BK304.out 1).trans rfl; have hcz86_2 : w85.cell? ⟨gb304, 2, none⟩ = some (.int .i64 a1_2) := (blk_cell BK304.out 2).trans rfl; have hcz86_3 : w85.cell? ⟨gb304, 3, none⟩ = some (.bool a1_3) := (blk_cell BK304.out 3).trans rfl; have hfz86_0 := blk_frozen BK304.out 0; have hfz86_1 := blk_frozen BK304.out 1; have hfz86_2 := blk_frozen BK304.out 2; have hfz86_3 := blk_frozen BK304.out 3))
                go_ret
                exact ⟨by first | rfl | (simp [errW_none, errW_some] <;> rfl) | (simp [*, errW_none, errW_some] <;> rfl), by repeat (first | (with_reducible first | exact HB.out | apply below_alloc | apply pw_below_drewN | apply below_drew1 | refine below_set ?_ GE304.out) | exact HB.out)⟩
               ·replace c83 := Bool.eq_false_iff.mpr c83
                subst c83
                have H1 : (if t335 = true then (if t333 = (wrap64 ((wrap64 (a1_1 + x14_2)) - a1_0)) then (if (t334 == a1_3) = true then (some false) else (undercroftlaw10_ExtentBlocks.j3 kj72 l0 a2 t308 t311 t312 t314 t319 t320 x14_2 t330 t331 false x18_72 a1_0 a1_1 a1_2 a1_3)) else (some false)) else (some false)) = some r := by rw [if_neg (show ¬ (false = true) by decide)] at H; exact H
                clear H;have H := H1;clear H1
                by_cases c87 : t335 = true
                ·subst c87
                 have H1 : (if t333 = (wrap64 ((wrap64 (a1_1 + x14_2)) - a1_0)) then (if (t334 == a1_3) = true then (some false) else (undercroftlaw10_ExtentBlocks.j3 kj72 l0 a2 t308 t311 t312 t314 t319 t320 x14_2 t330 t331 false x18_72 a1_0 a1_1 a1_2 a1_3)) else (some false)) = some r := by rw [if_pos rfl] at H; exact H
                 clear H;have H := H1;clear H1
                 by_cases c88 : t333 = (wrap64 ((wrap64 (a1_1 + x14_2)) - a1_0))
                 ·rw [if_pos c88] at H
                  have c88b0 : (t333 == (wrap64 ((wrap64 (a1_1 + x14_2)) - a1_0))) = true := beq_iff_eq.mpr c88
                  have c88b1 : (t333 != (wrap64 ((wrap64 (a1_1 + x14_2)) - a1_0))) = false := bne_eq_false_iff_eq.mpr c88
                  clear c88
                  by_cases c89 : (t334 == a1_3) = true
                  ·rw [if_pos c89] at H
                   have c89b0 : (t334 == a1_3) = true := c89
                   (try (have c89b1 : decide (t334 = a1_3) = true := by simpa using c89))
                   (try (have c89b2 : (t334 == a1_3) = true := by simpa using c89))
                   clear c89;obtain rfl := Option.some.inj H
                   obtain ⟨Ao90, co90, eo90⟩ := Kd.R_slice HO_7.out
                   subst eo90
                   go_wp2_with (first | ((with_reducible refine gate_callee (f := 21) rfl ?_); refine goesL_ (some 110) rfl rfl Try.func21 (by kernel_rfl) rfl #[.slice Ao90 t308.length co90, .int .i64 x14_2] rfl (by (try simp only [List.map_toArray, List.map_cons, List.map_nil]); first | done | rfl | (simp only [List.length_drop, List.length_take]; rfl)) ?_; (with_reducible refine (extent_Find.calls kj72 _ _ t308 x14_2 t333 t334 true _ ?side1 ?side2 A80.out).mono ?_); (case side1 => repeat (first | exact (Kd.R_reads' HO_7.out).2.2 | (with_reducible refine Kd.C_alloc ?_ _) | (with_reducible refine Kd.C_drewN ?_ _) | (with_reducible refine Kd.C_drew ?_))); (case side2 => exact (Kd.R_reads' HO_7.out).2.1); rintro e w91 ⟨rfl, hb⟩; refine ⟨_, rfl, ?_⟩; have n0_ := Aside0.mk (Kd.R_below (by (with_reducible repeat (first | apply Kd.R_alloc | apply Kd.R_drewN | apply Kd.R_drew)); exact HO_7.out) hb); have n1_ := Aside0.mk (Kd.R_below (by (with_reducible repeat (first | apply Kd.R_alloc | apply Kd.R_drewN | apply Kd.R_drew)); exact HO_9.out) hb); have n2_ := Aside0.mk (Kd.R_below (by (with_reducible repeat (first | apply Kd.R_alloc | apply Kd.R_drewN | apply Kd.R_drew)); exact HO_12.out) hb); have n3_ := Aside0.mk (blk_below (g := gb304) (o := .cells #[.int .i64 a1_0, .int .i64 a1_1, .int .i64 a1_2, .bool a1_3] 24 (0, 0)) (by (with_reducible repeat (first | refine blk_drewN ?_ _ | refine blk_drew ?_ | refine blk_alloc ?_ _)); exact BK304.out) hb); have n4_ := Aside0.mk (below_step (by repeat (first | (with_reducible first | exact HB.out | apply below_alloc | apply pw_below_drewN | apply below_drew1 | refine below_set ?_ GE304.out) | exact HB.out)) hb); clear HO_7; clear HO_9; clear HO_12; clear BK304; clear HB; have HO_7 := n0_; have HO_9 := n1_; have HO_12 := n2_; have BK304 := n3_; have HB := n4_; clear n0_ n1_ n2_ n3_ n4_; (try clear hb); (try clear hb2); (try clear hk); (try clear hi); have hcz92_0 : w91.cell? ⟨gb304, 0, none⟩ = some (.int .i64 a1_0) := (blk_cell BK304.out 0).trans rfl; have hcz92_1 : w91.cell? ⟨gb304, 1, none⟩ = some (.int .i64 a1_1) := (blk_cell BK304.out 1).trans rfl; have hcz92_2 : w91.cell? ⟨gb304, 2, none⟩ = some (.int .i64 a1_2) := (blk_cell BK304.out 2).trans rfl; have hcz92_3 : w91.cell? ⟨gb304, 3, none⟩ = some (.bool a1_3) := (blk_cell BK304.out 3).trans rfl; have hfz92_0 := blk_frozen BK304.out 0; have hfz92_1 := blk_frozen BK304.out 1; have hfz92_2 := blk_frozen BK304.out 2; have hfz92_3 := blk_frozen BK304.out 3))
                   go_ret
                   exact ⟨by first | rfl | (simp [errW_none, errW_some] <;> rfl) | (simp [*, errW_none, errW_some] <;> rfl), by repeat (first | (with_reducible first | exact HB.out | apply below_alloc | apply pw_below_drewN | apply below_drew1 | refine below_set ?_ GE304.out) | exact HB.out)⟩
                  ·rw [if_neg c89] at H
                   have c89b0 : (t334 == a1_3) = false := by simpa using c89
                   (try (have c89b1 : decide (t334 = a1_3) = false := by simpa using c89))
                   (try (have c89b2 : (t334 == a1_3) = false := by simpa using c89))
                   (try (have c89b3 : ¬ (t334 = a1_3) := by simpa using c89))
                   clear c89
                   have H' := Aside0.mk H
                   clear H
                   obtain ⟨Ao93, co93, eo93⟩ := Kd.R_slice HO_7.out
                   subst eo93
                   go_wp2_with (first | ((with_reducible refine gate_callee (f := 21) rfl ?_); refine goesL_ (some 110) rfl rfl Try.func21 (by kernel_rfl) rfl #[.slice Ao93 t308.length co93, .int .i64 x14_2] rfl (by (try simp only [List.map_toArray, List.map_cons, List.map_nil]); first | done | rfl | (simp only [List.length_drop, List.length_take]; rfl)) ?_; (with_reducible refine (extent_Find.calls kj72 _ _ t308 x14_2 t333 t334 true _ ?side1 ?side2 A80.out).mono ?_); (case side1 => repeat (first | exact (Kd.R_reads' HO_7.out).2.2 | (with_reducible refine Kd.C_alloc ?_ _) | (with_reducible refine Kd.C_drewN ?_ _) | (with_reducible refine Kd.C_drew ?_))); (case side2 => exact (Kd.R_reads' HO_7.out).2.1); rintro e w94 ⟨rfl, hb⟩; refine ⟨_, rfl, ?_⟩; have n0_ := Aside0.mk (Kd.R_below (by (with_reducible repeat (first | apply Kd.R_alloc | apply Kd.R_drewN | apply Kd.R_drew)); exact HO_7.out) hb); have n1_ := Aside0.mk (Kd.R_below (by (with_reducible repeat (first | apply Kd.R_alloc | apply Kd.R_drewN | apply Kd.R_drew)); exact HO_9.out) hb); have n2_ := Aside0.mk (Kd.R_below (by (with_reducible repeat (first | apply Kd.R_alloc | apply Kd.R_drewN | apply Kd.R_drew)); exact HO_12.out) hb); have n3_ := Aside0.mk (blk_below (g := gb304) (o := .cells #[.int .i64 a1_0, .int .i64 a1_1, .int .i64 a1_2, .bool a1_3] 24 (0, 0)) (by (with_reducible repeat (first | refine blk_drewN ?_ _ | refine blk_drew ?_ | refine blk_alloc ?_ _)); exact BK304.out) hb); have n4_ := Aside0.mk (below_step (by repeat (first | (with_reducible first | exact HB.out | apply below_alloc | apply pw_below_drewN | apply below_drew1 | refine below_set ?_ GE304.out) | exact HB.out)) hb); clear HO_7; clear HO_9; clear HO_12; clear BK304; clear HB; have HO_7 := n0_; have HO_9 := n1_; have HO_12 := n2_; have BK304 := n3_; have HB := n4_; clear n0_ n1_ n2_ n3_ n4_; (try clear hb); (try clear hb2); (try clear hk); (try clear hi); have hcz95_0 : w94.cell? ⟨gb304, 0, none⟩ = some (.int .i64 a1_0) := (blk_cell BK304.out 0).trans rfl; have hcz95_1 : w94.cell? ⟨gb304, 1, none⟩ = some (.int .i64 a1_1) := (blk_cell BK304.out 1).trans rfl; have hcz95_2 : w94.cell? ⟨gb304, 2, none⟩ = some (.int .i64 a1_2) := (blk_cell BK304.out 2).trans rfl; have hcz95_3 : w94.cell? ⟨gb304, 3, none⟩ = some (.bool a1_3) := (blk_cell BK304.out 3).trans rfl; have hfz95_0 := blk_frozen BK304.out 0; have hfz95_1 := blk_frozen BK304.out 1; have hfz95_2 := blk_frozen BK304.out 2; have hfz95_3 := blk_frozen BK304.out 3))
                   go_meet
                   case rel => exact ⟨_, H', ⟨by have := HJ10.out; have := HK2.out; have := HJ72.out; first | omega | exact Nat.le_refl _⟩, ⟨by (with_reducible repeat (first | apply Kd.R_alloc | apply Kd.R_drewN | apply Kd.R_drew)); exact HO_7.out⟩, ⟨by (with_reducible repeat (first | apply Kd.R_alloc | apply Kd.R_drewN | apply Kd.R_drew)); exact HO_9.out⟩, ⟨by (with_reducible repeat (first | apply Kd.R_alloc | apply Kd.R_drewN | apply Kd.R_drew)); exact HO_12.out⟩, ⟨by (with_reducible repeat (first | refine blk_drewN ?_ _ | refine blk_drew ?_ | refine blk_alloc ?_ _)); exact BK304.out⟩, ⟨by repeat (first | (with_reducible first | exact HB.out | apply below_alloc | apply pw_below_drewN | apply below_drew1 | refine below_set ?_ GE304.out) | exact HB.out)⟩⟩
                 ·rw [if_neg c88] at H
                  have c88b0 : (t333 == (wrap64 ((wrap64 (a1_1 + x14_2)) - a1_0))) = false := beq_eq_false_iff_ne.mpr c88
                  have c88b1 : (t333 != (wrap64 ((wrap64 (a1_1 + x14_2)) - a1_0))) = true := bne_iff_ne.mpr c88
                  obtain rfl := Option.some.inj H
                  obtain ⟨Ao96, co96, eo96⟩ := Kd.R_slice HO_7.out
                  subst eo96
                  go_wp2_with (first | ((with_reducible refine gate_callee (f := 21) rfl ?_); refine goesL_ (some 110) rfl rfl Try.func21 (by kernel_rfl) rfl #[.slice Ao96 t308.length co96, .int .i64 x14_2] rfl (by (try simp only [List.map_toArray, List.map_cons, List.map_nil]); first | done | rfl | (simp only [List.length_drop, List.length_take]; rfl)) ?_; (with_reducible refine (extent_Find.calls kj72 _ _ t308 x14_2 t333 t334 true _ ?side1 ?side2 A80.out).mono ?_); (case side1 => repeat (first | exact (Kd.R_reads' HO_7.out).2.2 | (with_reducible refine Kd.C_alloc ?_ _) | (with_reducible refine Kd.C_drewN ?_ _) | (with_reducible refine Kd.C_drew ?_))); (case side2 => exact (Kd.R_reads' HO_7.out).2.1); rintro e w97 ⟨rfl, hb⟩; refine ⟨_, rfl, ?_⟩; have n0_ := Aside0.mk (Kd.R_below (by (with_reducible repeat (first | apply Kd.R_alloc | apply Kd.R_drewN | apply Kd.R_drew)); exact HO_7.out) hb); have n1_ := Aside0.mk (Kd.R_below (by (with_reducible repeat (first | apply Kd.R_alloc | apply Kd.R_drewN | apply Kd.R_drew)); exact HO_9.out) hb); have n2_ := Aside0.mk (Kd.R_below (by (with_reducible repeat (first | apply Kd.R_alloc | apply Kd.R_drewN | apply Kd.R_drew)); exact HO_12.out) hb); have n3_ := Aside0.mk (blk_below (g := gb304) (o := .cells #[.int .i64 a1_0, .int .i64 a1_1, .int .i64 a1_2, .bool a1_3] 24 (0, 0)) (by (with_reducible repeat (first | refine blk_drewN ?_ _ | refine blk_drew ?_ | refine blk_alloc ?_ _)); exact BK304.out) hb); have n4_ := Aside0.mk (below_step (by repeat (first | (with_reducible first | exact HB.out | apply below_alloc | apply pw_below_drewN | apply below_drew1 | refine below_set ?_ GE304.out) | exact HB.out)) hb); clear HO_7; clear HO_9; clear HO_12; clear BK304; clear HB; have HO_7 := n0_; have HO_9 := n1_; have HO_12 := n2_; have BK304 := n3_; have HB := n4_; clear n0_ n1_ n2_ n3_ n4_; (try clear hb); (try clear hb2); (try clear hk); (try clear hi); have hcz98_0 : w97.cell? ⟨gb304, 0, none⟩ = some (.int .i64 a1_0) := (blk_cell BK304.out 0).trans rfl; have hcz98_1 : w97.cell? ⟨gb304, 1, none⟩ = some (.int .i64 a1_1) := (blk_cell BK304.out 1).trans rfl; have hcz98_2 : w97.cell? ⟨gb304, 2, none⟩ = some (.int .i64 a1_2) := (blk_cell BK304.out 2).trans rfl; have hcz98_3 : w97.cell? ⟨gb304, 3, none⟩ = some (.bool a1_3) := (blk_cell BK304.out 3).trans rfl; have hfz98_0 := blk_frozen BK304.out 0; have hfz98_1 := blk_frozen BK304.out 1; have hfz98_2 := blk_frozen BK304.out 2; have hfz98_3 := blk_frozen BK304.out 3))
                  go_ret
                  exact ⟨by first | rfl | (simp [errW_none, errW_some] <;> rfl) | (simp [*, errW_none, errW_some] <;> rfl), by repeat (first | (with_reducible first | exact HB.out | apply below_alloc | apply pw_below_drewN | apply below_drew1 | refine below_set ?_ GE304.out) | exact HB.out)⟩
                ·replace c87 := Bool.eq_false_iff.mpr c87
                 subst c87
                 have H1 : (some false) = some r := by rw [if_neg (show ¬ (false = true) by decide)] at H; exact H
                 clear H;have H := H1;clear H1;obtain rfl := Option.some.inj H
                 obtain ⟨Ao99, co99, eo99⟩ := Kd.R_slice HO_7.out
                 subst eo99
                 go_wp2_with (first | ((with_reducible refine gate_callee (f := 21) rfl ?_); refine goesL_ (some 110) rfl rfl Try.func21 (by kernel_rfl) rfl #[.slice Ao99 t308.length co99, .int .i64 x14_2] rfl (by (try simp only [List.map_toArray, List.map_cons, List.map_nil]); first | done | rfl | (simp only [List.length_drop, List.length_take]; rfl)) ?_; (with_reducible refine (extent_Find.calls kj72 _ _ t308 x14_2 t333 t334 false _ ?side1 ?side2 A80.out).mono ?_); (case side1 => repeat (first | exact (Kd.R_reads' HO_7.out).2.2 | (with_reducible refine Kd.C_alloc ?_ _) | (with_reducible refine Kd.C_drewN ?_ _) | (with_reducible refine Kd.C_drew ?_))); (case side2 => exact (Kd.R_reads' HO_7.out).2.1); rintro e w100 ⟨rfl, hb⟩; refine ⟨_, rfl, ?_⟩; have n0_ := Aside0.mk (Kd.R_below (by (with_reducible repeat (first | apply Kd.R_alloc | apply Kd.R_drewN | apply Kd.R_drew)); exact HO_7.out) hb); have n1_ := Aside0.mk (Kd.R_below (by (with_reducible repeat (first | apply Kd.R_alloc | apply Kd.R_drewN | apply Kd.R_drew)); exact HO_9.out) hb); have n2_ := Aside0.mk (Kd.R_below (by (with_reducible repeat (first | apply Kd.R_alloc | apply Kd.R_drewN | apply Kd.R_drew)); exact HO_12.out) hb); have n3_ := Aside0.mk (blk_below (g := gb304) (o := .cells #[.int .i64 a1_0, .int .i64 a1_1, .int .i64 a1_2, .bool a1_3] 24 (0, 0)) (by (with_reducible repeat (first | refine blk_drewN ?_ _ | refine blk_drew ?_ | refine blk_alloc ?_ _)); exact BK304.out) hb); have n4_ := Aside0.mk (below_step (by repeat (first | (with_reducible first | exact HB.out | apply below_alloc | apply pw_below_drewN | apply below_drew1 | refine below_set ?_ GE304.out) | exact HB.out)) hb); clear HO_7; clear HO_9; clear HO_12; clear BK304; clear HB; have HO_7 := n0_; have HO_9 := n1_; have HO_12 := n2_; have BK304 := n3_; have HB := n4_; clear n0_ n1_ n2_ n3_ n4_; (try clear hb); (try clear hb2); (try clear hk); (try clear hi); have hcz101_0 : w100.cell? ⟨gb304, 0, none⟩ = some (.int .i64 a1_0) := (blk_cell BK304.out 0).trans rfl; have hcz101_1 : w100.cell? ⟨gb304, 1, none⟩ = some (.int .i64 a1_1) := (blk_cell BK304.out 1).trans rfl; have hcz101_2 : w100.cell? ⟨gb304, 2, none⟩ = some (.int .i64 a1_2) := (blk_cell BK304.out 2).trans rfl; have hcz101_3 : w100.cell? ⟨gb304, 3, none⟩ = some (.bool a1_3) := (blk_cell BK304.out 3).trans rfl; have hfz101_0 := blk_frozen BK304.out 0; have hfz101_1 := blk_frozen BK304.out 1; have hfz101_2 := blk_frozen BK304.out 2; have hfz101_3 := blk_frozen BK304.out 3))
                 go_ret
                 exact ⟨by first | rfl | (simp [errW_none, errW_some] <;> rfl) | (simp [*, errW_none, errW_some] <;> rfl), by repeat (first | (with_reducible first | exact HB.out | apply below_alloc | apply pw_below_drewN | apply below_drew1 | refine below_set ?_ GE304.out) | exact HB.out)⟩
              ·rw [if_neg c82] at H
               have c82b0 : decide (x14_2 < (wrap64 (a1_0 + a1_2))) = false := decide_eq_false c82
               clear c82
               by_cases c102 : t333 = t330
               ·rw [if_pos c102] at H
                have c102b0 : (t333 == t330) = true := beq_iff_eq.mpr c102
                have c102b1 : (t333 != t330) = false := bne_eq_false_iff_eq.mpr c102
                clear c102
                by_cases c103 : (t334 != t331) = true
                ·rw [if_pos c103] at H
                 have c103b0 : (t334 != t331) = true := c103
                 (try (have c103b1 : decide (t334 = t331) = false := by simpa using c103))
                 (try (have c103b2 : (t334 == t331) = false := by simpa using c103))
                 (try (have c103b3 : ¬ (t334 = t331) := by simpa using c103))
                 clear c103;obtain rfl := Option.some.inj H
                 obtain ⟨Ao104, co104, eo104⟩ := Kd.R_slice HO_7.out
                 subst eo104
                 go_wp2_with (first | ((with_reducible refine gate_callee (f := 21) rfl ?_); refine goesL_ (some 110) rfl rfl Try.func21 (by kernel_rfl) rfl #[.slice Ao104 t308.length co104, .int .i64 x14_2] rfl (by (try simp only [List.map_toArray, List.map_cons, List.map_nil]); first | done | rfl | (simp only [List.length_drop, List.length_take]; rfl)) ?_; (with_reducible refine (extent_Find.calls kj72 _ _ t308 x14_2 t333 t334 t335 _ ?side1 ?side2 A80.out).mono ?_); (case side1 => repeat (first | exact (Kd.R_reads' HO_7.out).2.2 | (with_reducible refine Kd.C_alloc ?_ _) | (with_reducible refine Kd.C_drewN ?_ _) | (with_reducible refine Kd.C_drew ?_))); (case side2 => exact (Kd.R_reads' HO_7.out).2.1); rintro e w105 ⟨rfl, hb⟩; refine ⟨_, rfl, ?_⟩; have n0_ := Aside0.mk (Kd.R_below (by (with_reducible repeat (first | apply Kd.R_alloc | apply Kd.R_drewN | apply Kd.R_drew)); exact HO_7.out) hb); have n1_ := Aside0.mk (Kd.R_below (by (with_reducible repeat (first | apply Kd.R_alloc | apply Kd.R_drewN | apply Kd.R_drew)); exact HO_9.out) hb); have n2_ := Aside0.mk (Kd.R_below (by (with_reducible repeat (first | apply Kd.R_alloc | apply Kd.R_drewN | apply Kd.R_drew)); exact HO_12.out) hb); have n3_ := Aside0.mk (blk_below (g := gb304) (o := .cells #[.int .i64 a1_0, .int .i64 a1_1, .int .i64 a1_2, .bool a1_3] 24 (0, 0)) (by (with_reducible repeat (first | refine blk_drewN ?_ _ | refine blk_drew ?_ | refine blk_alloc ?_ _)); exact BK304.out) hb); have n4_ := Aside0.mk (below_step (by repeat (first | (with_reducible first | exact HB.out | apply below_alloc | apply pw_below_drewN | apply below_drew1 | refine below_set ?_ GE304.out) | exact HB.out)) hb); clear HO_7; clear HO_9; clear HO_12; clear BK304; clear HB; have HO_7 := n0_; have HO_9 := n1_; have HO_12 := n2_; have BK304 := n3_; have HB := n4_; clear n0_ n1_ n2_ n3_ n4_; (try clear hb); (try clear hb2); (try clear hk); (try clear hi); have hcz106_0 : w105.cell? ⟨gb304, 0, none⟩ = some (.int .i64 a1_0) := (blk_cell BK304.out 0).trans rfl; have hcz106_1 : w105.cell? ⟨gb304, 1, none⟩ = some (.int .i64 a1_1) := (blk_cell BK304.out 1).trans rfl; have hcz106_2 : w105.cell? ⟨gb304, 2, none⟩ = some (.int .i64 a1_2) := (blk_cell BK304.out 2).trans rfl; have hcz106_3 : w105.cell? ⟨gb304, 3, none⟩ = some (.bool a1_3) := (blk_cell BK304.out 3).trans rfl; have hfz106_0 := blk_frozen BK304.out 0; have hfz106_1 := blk_frozen BK304.out 1; have hfz106_2 := blk_frozen BK304.out 2; have hfz106_3 := blk_frozen BK304.out 3))
                 go_ret
                 exact ⟨by first | rfl | (simp [errW_none, errW_some] <;> rfl) | (simp [*, errW_none, errW_some] <;> rfl), by repeat (first | (with_reducible first | exact HB.out | apply below_alloc | apply pw_below_drewN | apply below_drew1 | refine below_set ?_ GE304.out) | exact HB.out)⟩
                ·rw [if_neg c103] at H
                 have c103b0 : (t334 != t331) = false := by simpa using c103
                 (try (have c103b1 : decide (t334 = t331) = true := by simpa using c103))
                 (try (have c103b2 : (t334 == t331) = true := by simpa using c103))
                 clear c103
                 by_cases c107 : (t335 != t332) = true
                 ·rw [if_pos c107] at H
                  have c107b0 : (t335 != t332) = true := c107
                  (try (have c107b1 : decide (t335 = t332) = false := by simpa using c107))
                  (try (have c107b2 : (t335 == t332) = false := by simpa using c107))
                  (try (have c107b3 : ¬ (t335 = t332) := by simpa using c107))
                  clear c107;obtain rfl := Option.some.inj H
                  obtain ⟨Ao108, co108, eo108⟩ := Kd.R_slice HO_7.out
                  subst eo108
                  go_wp2_with (first | ((with_reducible refine gate_callee (f := 21) rfl ?_); refine goesL_ (some 110) rfl rfl Try.func21 (by kernel_rfl) rfl #[.slice Ao108 t308.length co108, .int .i64 x14_2] rfl (by (try simp only [List.map_toArray, List.map_cons, List.map_nil]); first | done | rfl | (simp only [List.length_drop, List.length_take]; rfl)) ?_; (with_reducible refine (extent_Find.calls kj72 _ _ t308 x14_2 t333 t334 t335 _ ?side1 ?side2 A80.out).mono ?_); (case side1 => repeat (first | exact (Kd.R_reads' HO_7.out).2.2 | (with_reducible refine Kd.C_alloc ?_ _) | (with_reducible refine Kd.C_drewN ?_ _) | (with_reducible refine Kd.C_drew ?_))); (case side2 => exact (Kd.R_reads' HO_7.out).2.1); rintro e w109 ⟨rfl, hb⟩; refine ⟨_, rfl, ?_⟩; have n0_ := Aside0.mk (Kd.R_below (by (with_reducible repeat (first | apply Kd.R_alloc | apply Kd.R_drewN | apply Kd.R_drew)); exact HO_7.out) hb); have n1_ := Aside0.mk (Kd.R_below (by (with_reducible repeat (first | apply Kd.R_alloc | apply Kd.R_drewN | apply Kd.R_drew)); exact HO_9.out) hb); have n2_ := Aside0.mk (Kd.R_below (by (with_reducible repeat (first | apply Kd.R_alloc | apply Kd.R_drewN | apply Kd.R_drew)); exact HO_12.out) hb); have n3_ := Aside0.mk (blk_below (g := gb304) (o := .cells #[.int .i64 a1_0, .int .i64 a1_1, .int .i64 a1_2, .bool a1_3] 24 (0, 0)) (by (with_reducible repeat (first | refine blk_drewN ?_ _ | refine blk_drew ?_ | refine blk_alloc ?_ _)); exact BK304.out) hb); have n4_ := Aside0.mk (below_step (by repeat (first | (with_reducible first | exact HB.out | apply below_alloc | apply pw_below_drewN | apply below_drew1 | refine below_set ?_ GE304.out) | exact HB.out)) hb); clear HO_7; clear HO_9; clear HO_12; clear BK304; clear HB; have HO_7 := n0_; have HO_9 := n1_; have HO_12 := n2_; have BK304 := n3_; have HB := n4_; clear n0_ n1_ n2_ n3_ n4_; (try clear hb); (try clear hb2); (try clear hk); (try clear hi); have hcz110_0 : w109.cell? ⟨gb304, 0, none⟩ = some (.int .i64 a1_0) := (blk_cell BK304.out 0).trans rfl; have hcz110_1 : w109.cell? ⟨gb304, 1, none⟩ = some (.int .i64 a1_1) := (blk_cell BK304.out 1).trans rfl; have hcz110_2 : w109.cell? ⟨gb304, 2, none⟩ = some (.int .i64 a1_2) := (blk_cell BK304.out 2).trans rfl; have hcz110_3 : w109.cell? ⟨gb304, 3, none⟩ = some (.bool a1_3) := (blk_cell BK304.out 3).trans rfl; have hfz110_0 := blk_frozen BK304.out 0; have hfz110_1 := blk_frozen BK304.out 1; have hfz110_2 := blk_frozen BK304.out 2; have hfz110_3 := blk_frozen BK304.out 3))
                  go_ret
                  exact ⟨by first | rfl | (simp [errW_none, errW_some] <;> rfl) | (simp [*, errW_none, errW_some] <;> rfl), by repeat (first | (with_reducible first | exact HB.out | apply below_alloc | apply pw_below_drewN | apply below_drew1 | refine below_set ?_ GE304.out) | exact HB.out)⟩
                 ·rw [if_neg c107] at H
                  have c107b0 : (t335 != t332) = false := by simpa using c107
                  (try (have c107b1 : decide (t335 = t332) = true := by simpa using c107))
                  (try (have c107b2 : (t335 == t332) = true := by simpa using c107))
                  clear c107
                  have H' := Aside0.mk H
                  clear H
                  obtain ⟨Ao111, co111, eo111⟩ := Kd.R_slice HO_7.out
                  subst eo111
                  go_wp2_with (first | ((with_reducible refine gate_callee (f := 21) rfl ?_); refine goesL_ (some 110) rfl rfl Try.func21 (by kernel_rfl) rfl #[.slice Ao111 t308.length co111, .int .i64 x14_2] rfl (by (try simp only [List.map_toArray, List.map_cons, List.map_nil]); first | done | rfl | (simp only [List.length_drop, List.length_take]; rfl)) ?_; (with_reducible refine (extent_Find.calls kj72 _ _ t308 x14_2 t333 t334 t335 _ ?side1 ?side2 A80.out).mono ?_); (case side1 => repeat (first | exact (Kd.R_reads' HO_7.out).2.2 | (with_reducible refine Kd.C_alloc ?_ _) | (with_reducible refine Kd.C_drewN ?_ _) | (with_reducible refine Kd.C_drew ?_))); (case side2 => exact (Kd.R_reads' HO_7.out).2.1); rintro e w112 ⟨rfl, hb⟩; refine ⟨_, rfl, ?_⟩; have n0_ := Aside0.mk (Kd.R_below (by (with_reducible repeat (first | apply Kd.R_alloc | apply Kd.R_drewN | apply Kd.R_drew)); exact HO_7.out) hb); have n1_ := Aside0.mk (Kd.R_below (by (with_reducible repeat (first | apply Kd.R_alloc | apply Kd.R_drewN | apply Kd.R_drew)); exact HO_9.out) hb); have n2_ := Aside0.mk (Kd.R_below (by (with_reducible repeat (first | apply Kd.R_alloc | apply Kd.R_drewN | apply Kd.R_drew)); exact HO_12.out) hb); have n3_ := Aside0.mk (blk_below (g := gb304) (o := .cells #[.int .i64 a1_0, .int .i64 a1_1, .int .i64 a1_2, .bool a1_3] 24 (0, 0)) (by (with_reducible repeat (first | refine blk_drewN ?_ _ | refine blk_drew ?_ | refine blk_alloc ?_ _)); exact BK304.out) hb); have n4_ := Aside0.mk (below_step (by repeat (first | (with_reducible first | exact HB.out | apply below_alloc | apply pw_below_drewN | apply below_drew1 | refine below_set ?_ GE304.out) | exact HB.out)) hb); clear HO_7; clear HO_9; clear HO_12; clear BK304; clear HB; have HO_7 := n0_; have HO_9 := n1_; have HO_12 := n2_; have BK304 := n3_; have HB := n4_; clear n0_ n1_ n2_ n3_ n4_; (try clear hb); (try clear hb2); (try clear hk); (try clear hi); have hcz113_0 : w112.cell? ⟨gb304, 0, none⟩ = some (.int .i64 a1_0) := (blk_cell BK304.out 0).trans rfl; have hcz113_1 : w112.cell? ⟨gb304, 1, none⟩ = some (.int .i64 a1_1) := (blk_cell BK304.out 1).trans rfl; have hcz113_2 : w112.cell? ⟨gb304, 2, none⟩ = some (.int .i64 a1_2) := (blk_cell BK304.out 2).trans rfl; have hcz113_3 : w112.cell? ⟨gb304, 3, none⟩ = some (.bool a1_3) := (blk_cell BK304.out 3).trans rfl; have hfz113_0 := blk_frozen BK304.out 0; have hfz113_1 := blk_frozen BK304.out 1; have hfz113_2 := blk_frozen BK304.out 2; have hfz113_3 := blk_frozen BK304.out 3))
                  go_meet
                  case rel => exact ⟨_, H', ⟨by have := HJ10.out; have := HK2.out; have := HJ72.out; first | omega | exact Nat.le_refl _⟩, ⟨by (with_reducible repeat (first | apply Kd.R_alloc | apply Kd.R_drewN | apply Kd.R_drew)); exact HO_7.out⟩, ⟨by (with_reducible repeat (first | apply Kd.R_alloc | apply Kd.R_drewN | apply Kd.R_drew)); exact HO_9.out⟩, ⟨by (with_reducible repeat (first | apply Kd.R_alloc | apply Kd.R_drewN | apply Kd.R_drew)); exact HO_12.out⟩, ⟨by (with_reducible repeat (first | refine blk_drewN ?_ _ | refine blk_drew ?_ | refine blk_alloc ?_ _)); exact BK304.out⟩, ⟨by repeat (first | (with_reducible first | exact HB.out | apply below_alloc | apply pw_below_drewN | apply below_drew1 | refine below_set ?_ GE304.out) | exact HB.out)⟩⟩
               ·rw [if_neg c102] at H
                have c102b0 : (t333 == t330) = false := beq_eq_false_iff_ne.mpr c102
                have c102b1 : (t333 != t330) = true := bne_iff_ne.mpr c102
                obtain rfl := Option.some.inj H
                obtain ⟨Ao114, co114, eo114⟩ := Kd.R_slice HO_7.out
                subst eo114
                go_wp2_with (first | ((with_reducible refine gate_callee (f := 21) rfl ?_); refine goesL_ (some 110) rfl rfl Try.func21 (by kernel_rfl) rfl #[.slice Ao114 t308.length co114, .int .i64 x14_2] rfl (by (try simp only [List.map_toArray, List.map_cons, List.map_nil]); first | done | rfl | (simp only [List.length_drop, List.length_take]; rfl)) ?_; (with_reducible refine (extent_Find.calls kj72 _ _ t308 x14_2 t333 t334 t335 _ ?side1 ?side2 A80.out).mono ?_); (case side1 => repeat (first | exact (Kd.R_reads' HO_7.out).2.2 | (with_reducible refine Kd.C_alloc ?_ _) | (with_reducible refine Kd.C_drewN ?_ _) | (with_reducible refine Kd.C_drew ?_))); (case side2 => exact (Kd.R_reads' HO_7.out).2.1); rintro e w115 ⟨rfl, hb⟩; refine ⟨_, rfl, ?_⟩; have n0_ := Aside0.mk (Kd.R_below (by (with_reducible repeat (first | apply Kd.R_alloc | apply Kd.R_drewN | apply Kd.R_drew)); exact HO_7.out) hb); have n1_ := Aside0.mk (Kd.R_below (by (with_reducible repeat (first | apply Kd.R_alloc | apply Kd.R_drewN | apply Kd.R_drew)); exact HO_9.out) hb); have n2_ := Aside0.mk (Kd.R_below (by (with_reducible repeat (first | apply Kd.R_alloc | apply Kd.R_drewN | apply Kd.R_drew)); exact HO_12.out) hb); have n3_ := Aside0.mk (blk_below (g := gb304) (o := .cells #[.int .i64 a1_0, .int .i64 a1_1, .int .i64 a1_2, .bool a1_3] 24 (0, 0)) (by (with_reducible repeat (first | refine blk_drewN ?_ _ | refine blk_drew ?_ | refine blk_alloc ?_ _)); exact BK304.out) hb); have n4_ := Aside0.mk (below_step (by repeat (first | (with_reducible first | exact HB.out | apply below_alloc | apply pw_below_drewN | apply below_drew1 | refine below_set ?_ GE304.out) | exact HB.out)) hb); clear HO_7; clear HO_9; clear HO_12; clear BK304; clear HB; have HO_7 := n0_; have HO_9 := n1_; have HO_12 := n2_; have BK304 := n3_; have HB := n4_; clear n0_ n1_ n2_ n3_ n4_; (try clear hb); (try clear hb2); (try clear hk); (try clear hi); have hcz116_0 : w115.cell? ⟨gb304, 0, none⟩ = some (.int .i64 a1_0) := (blk_cell BK304.out 0).trans rfl; have hcz116_1 : w115.cell? ⟨gb304, 1, none⟩ = some (.int .i64 a1_1) := (blk_cell BK304.out 1).trans rfl; have hcz116_2 : w115.cell? ⟨gb304, 2, none⟩ = some (.int .i64 a1_2) := (blk_cell BK304.out 2).trans rfl; have hcz116_3 : w115.cell? ⟨gb304, 3, none⟩ = some (.bool a1_3) := (blk_cell BK304.out 3).trans rfl; have hfz116_0 := blk_frozen BK304.out 0; have hfz116_1 := blk_frozen BK304.out 1; have hfz116_2 := blk_frozen BK304.out 2; have hfz116_3 := blk_frozen BK304.out 3))
                go_ret
                exact ⟨by first | rfl | (simp [errW_none, errW_some] <;> rfl) | (simp [*, errW_none, errW_some] <;> rfl), by repeat (first | (with_reducible first | exact HB.out | apply below_alloc | apply pw_below_drewN | apply below_drew1 | refine below_set ?_ GE304.out) | exact HB.out)⟩
             ·as_aux_lemma =>
              rw [if_neg c81] at H
              have c81b0 : decide (a1_0 ≤ x14_2) = false := decide_eq_false c81
              clear c81
              by_cases c117 : t333 = t330
              ·rw [if_pos c117] at H
               have c117b0 : (t333 == t330) = true := beq_iff_eq.mpr c117
               have c117b1 : (t333 != t330) = false := bne_eq_false_iff_eq.mpr c117
               clear c117
               by_cases c118 : (t334 != t331) = true
               ·rw [if_pos c118] at H
                have c118b0 : (t334 != t331) = true := c118
                (try (have c118b1 : decide (t334 = t331) = false := by simpa using c118))
                (try (have c118b2 : (t334 == t331) = false := by simpa using c118))
                (try (have c118b3 : ¬ (t334 = t331) := by simpa using c118))
                clear c118;obtain rfl := Option.some.inj H
                obtain ⟨Ao119, co119, eo119⟩ := Kd.R_slice HO_7.out
                subst eo119
                go_wp2_with (first | ((with_reducible refine gate_callee (f := 21) rfl ?_); refine goesL_ (some 110) rfl rfl Try.func21 (by kernel_rfl) rfl #[.slice Ao119 t308.length co119, .int .i64 x14_2] rfl (by (try simp only [List.map_toArray, List.map_cons, List.map_nil]); first | done | rfl | (simp only [List.length_drop, List.length_take]; rfl)) ?_; (with_reducible refine (extent_Find.calls kj72 _ _ t308 x14_2 t333 t334 t335 _ ?side1 ?side2 A80.out).mono ?_); (case side1 => repeat (first | exact (Kd.R_reads' HO_7.out).2.2 | (with_reducible refine Kd.C_alloc ?_ _) | (with_reducible refine Kd.C_drewN ?_ _) | (with_reducible refine Kd.C_drew ?_))); (case side2 => exact (Kd.R_reads' HO_7.out).2.1); rintro e w120 ⟨rfl, hb⟩; refine ⟨_, rfl, ?_⟩; have n0_ := Aside0.mk (Kd.R_below (by (with_reducible repeat (first | apply Kd.R_alloc | apply Kd.R_drewN | apply Kd.R_drew)); exact HO_7.out) hb); have n1_ := Aside0.mk (Kd.R_below (by (with_reducible repeat (first | apply Kd.R_alloc | apply Kd.R_drewN | apply Kd.R_drew)); exact HO_9.out) hb); have n2_ := Aside0.mk (Kd.R_below (by (with_reducible repeat (first | apply Kd.R_alloc | apply Kd.R_drewN | apply Kd.R_drew)); exact HO_12.out) hb); have n3_ := Aside0.mk (blk_below (g := gb304) (o := .cells #[.int .i64 a1_0, .int .i64 a1_1, .int .i64 a1_2, .bool a1_3] 24 (0, 0)) (by (with_reducible repeat (first | refine blk_drewN ?_ _ | refine blk_drew ?_ | refine blk_alloc ?_ _)); exact BK304.out) hb); have n4_ := Aside0.mk (below_step (by repeat (first | (with_reducible first | exact HB.out | apply below_alloc | apply pw_below_drewN | apply below_drew1 | refine below_set ?_ GE304.out) | exact HB.out)) hb); clear HO_7; clear HO_9; clear HO_12; clear BK304; clear HB; have HO_7 := n0_; have HO_9 := n1_; have HO_12 := n2_; have BK304 := n3_; have HB := n4_; clear n0_ n1_ n2_ n3_ n4_; (try clear hb); (try clear hb2); (try clear hk); (try clear hi); have hcz121_0 : w120.cell? ⟨gb304, 0, none⟩ = some (.int .i64 a1_0) := (blk_cell BK304.out 0).trans rfl; have hcz121_1 : w120.cell? ⟨gb304, 1, none⟩ = some (.int .i64 a1_1) := (blk_cell BK304.out 1).trans rfl; have hcz121_2 : w120.cell? ⟨gb304, 2, none⟩ = some (.int .i64 a1_2) := (blk_cell BK304.out 2).trans rfl; have hcz121_3 : w120.cell? ⟨gb304, 3, none⟩ = some (.bool a1_3) := (blk_cell BK304.out 3).trans rfl; have hfz121_0 := blk_frozen BK304.out 0; have hfz121_1 := blk_frozen BK304.out 1; have hfz121_2 := blk_frozen BK304.out 2; have hfz121_3 := blk_frozen BK304.out 3))
                go_ret
                exact ⟨by first | rfl | (simp [errW_none, errW_some] <;> rfl) | (simp [*, errW_none, errW_some] <;> rfl), by repeat (first | (with_reducible first | exact HB.out | apply below_alloc | apply pw_below_drewN | apply below_drew1 | refine below_set ?_ GE304.out) | exact HB.out)⟩
               ·rw [if_neg c118] at H
                have c118b0 : (t334 != t331) = false := by simpa using c118
                (try (have c118b1 : decide (t334 = t331) = true := by simpa using c118))
                (try (have c118b2 : (t334 == t331) = true := by simpa using c118))
                clear c118
                by_cases c122 : (t335 != t332) = true
                ·rw [if_pos c122] at H
                 have c122b0 : (t335 != t332) = true := c122
                 (try (have c122b1 : decide (t335 = t332) = false := by simpa using c122))
                 (try (have c122b2 : (t335 == t332) = false := by simpa using c122))
                 (try (have c122b3 : ¬ (t335 = t332) := by simpa using c122))
                 clear c122;obtain rfl := Option.some.inj H
                 obtain ⟨Ao123, co123, eo123⟩ := Kd.R_slice HO_7.out
                 subst eo123
                 go_wp2_with (first | ((with_reducible refine gate_callee (f := 21) rfl ?_); refine goesL_ (some 110) rfl rfl Try.func21 (by kernel_rfl) rfl #[.slice Ao123 t308.length co123, .int .i64 x14_2] rfl (by (try simp only [List.map_toArray, List.map_cons, List.map_nil]); first | done | rfl | (simp only [List.length_drop, List.length_take]; rfl)) ?_; (with_reducible refine (extent_Find.calls kj72 _ _ t308 x14_2 t333 t334 t335 _ ?side1 ?side2 A80.out).mono ?_); (case side1 => repeat (first | exact (Kd.R_reads' HO_7.out).2.2 | (with_reducible refine Kd.C_alloc ?_ _) | (with_reducible refine Kd.C_drewN ?_ _) | (with_reducible refine Kd.C_drew ?_))); (case side2 => exact (Kd.R_reads' HO_7.out).2.1); rintro e w124 ⟨rfl, hb⟩; refine ⟨_, rfl, ?_⟩; have n0_ := Aside0.mk (Kd.R_below (by (with_reducible repeat (first | apply Kd.R_alloc | apply Kd.R_drewN | apply Kd.R_drew)); exact HO_7.out) hb); have n1_ := Aside0.mk (Kd.R_below (by (with_reducible repeat (first | apply Kd.R_alloc | apply Kd.R_drewN | apply Kd.R_drew)); exact HO_9.out) hb); have n2_ := Aside0.mk (Kd.R_below (by (with_reducible repeat (first | apply Kd.R_alloc | apply Kd.R_drewN | apply Kd.R_drew)); exact HO_12.out) hb); have n3_ := Aside0.mk (blk_below (g := gb304) (o := .cells #[.int .i64 a1_0, .int .i64 a1_1, .int .i64 a1_2, .bool a1_3] 24 (0, 0)) (by (with_reducible repeat (first | refine blk_drewN ?_ _ | refine blk_drew ?_ | refine blk_alloc ?_ _)); exact BK304.out) hb); have n4_ := Aside0.mk (below_step (by repeat (first | (with_reducible first | exact HB.out | apply below_alloc | apply pw_below_drewN | apply below_drew1 | refine below_set ?_ GE304.out) | exact HB.out)) hb); clear HO_7; clear HO_9; clear HO_12; clear BK304; clear HB; have HO_7 := n0_; have HO_9 := n1_; have HO_12 := n2_; have BK304 := n3_; have HB := n4_; clear n0_ n1_ n2_ n3_ n4_; (try clear hb); (try clear hb2); (try clear hk); (try clear hi); have hcz125_0 : w124.cell? ⟨gb304, 0, none⟩ = some (.int .i64 a1_0) := (blk_cell BK304.out 0).trans rfl; have hcz125_1 : w124.cell? ⟨gb304, 1, none⟩ = some (.int .i64 a1_1) := (blk_cell BK304.out 1).trans rfl; have hcz125_2 : w124.cell? ⟨gb304, 2, none⟩ = some (.int .i64 a1_2) := (blk_cell BK304.out 2).trans rfl; have hcz125_3 : w124.cell? ⟨gb304, 3, none⟩ = some (.bool a1_3) := (blk_cell BK304.out 3).trans rfl; have hfz125_0 := blk_frozen BK304.out 0; have hfz125_1 := blk_frozen BK304.out 1; have hfz125_2 := blk_frozen BK304.out 2; have hfz125_3 := blk_frozen BK304.out 3))
                 go_ret
                 exact ⟨by first | rfl | (simp [errW_none, errW_some] <;> rfl) | (simp [*, errW_none, errW_some] <;> rfl), by repeat (first | (with_reducible first | exact HB.out | apply below_alloc | apply pw_below_drewN | apply below_drew1 | refine below_set ?_ GE304.out) | exact HB.out)⟩
                ·rw [if_neg c122] at H
                 have c122b0 : (t335 != t332) = false := by simpa using c122
                 (try (have c122b1 : decide (t335 = t332) = true := by simpa using c122))
                 (try (have c122b2 : (t335 == t332) = true := by simpa using c122))
                 clear c122
                 have H' := Aside0.mk H
                 clear H
                 obtain ⟨Ao126, co126, eo126⟩ := Kd.R_slice HO_7.out
                 subst eo126
                 go_wp2_with (first | ((with_reducible refine gate_callee (f := 21) rfl ?_); refine goesL_ (some 110) rfl rfl Try.func21 (by kernel_rfl) rfl #[.slice Ao126 t308.length co126, .int .i64 x14_2] rfl (by (try simp only [List.map_toArray, List.map_cons, List.map_nil]); first | done | rfl | (simp only [List.length_drop, List.length_take]; rfl)) ?_; (with_reducible refine (extent_Find.calls kj72 _ _ t308 x14_2 t333 t334 t335 _ ?side1 ?side2 A80.out).mono ?_); (case side1 => repeat (first | exact (Kd.R_reads' HO_7.out).2.2 | (with_reducible refine Kd.C_alloc ?_ _) | (with_reducible refine Kd.C_drewN ?_ _) | (with_reducible refine Kd.C_drew ?_))); (case side2 => exact (Kd.R_reads' HO_7.out).2.1); rintro e w127 ⟨rfl, hb⟩; refine ⟨_, rfl, ?_⟩; have n0_ := Aside0.mk (Kd.R_below (by (with_reducible repeat (first | apply Kd.R_alloc | apply Kd.R_drewN | apply Kd.R_drew)); exact HO_7.out) hb); have n1_ := Aside0.mk (Kd.R_below (by (with_reducible repeat (first | apply Kd.R_alloc | apply Kd.R_drewN | apply Kd.R_drew)); exact HO_9.out) hb); have n2_ := Aside0.mk (Kd.R_below (by (with_reducible repeat (first | apply Kd.R_alloc | apply Kd.R_drewN | apply Kd.R_drew)); exact HO_12.out) hb); have n3_ := Aside0.mk (blk_below (g := gb304) (o := .cells #[.int .i64 a1_0, .int .i64 a1_1, .int .i64 a1_2, .bool a1_3] 24 (0, 0)) (by (with_reducible repeat (first | refine blk_drewN ?_ _ | refine blk_drew ?_ | refine blk_alloc ?_ _)); exact BK304.out) hb); have n4_ := Aside0.mk (below_step (by repeat (first | (with_reducible first | exact HB.out | apply below_alloc | apply pw_below_drewN | apply below_drew1 | refine below_set ?_ GE304.out) | exact HB.out)) hb); clear HO_7; clear HO_9; clear HO_12; clear BK304; clear HB; have HO_7 := n0_; have HO_9 := n1_; have HO_12 := n2_; have BK304 := n3_; have HB := n4_; clear n0_ n1_ n2_ n3_ n4_; (try clear hb); (try clear hb2); (try clear hk); (try clear hi); have hcz128_0 : w127.cell? ⟨gb304, 0, none⟩ = some (.int .i64 a1_0) := (blk_cell BK304.out 0).trans rfl; have hcz128_1 : w127.cell? ⟨gb304, 1, none⟩ = some (.int .i64 a1_1) := (blk_cell BK304.out 1).trans rfl; have hcz128_2 : w127.cell? ⟨gb304, 2, none⟩ = some (.int .i64 a1_2) := (blk_cell BK304.out 2).trans rfl; have hcz128_3 : w127.cell? ⟨gb304, 3, none⟩ = some (.bool a1_3) := (blk_cell BK304.out 3).trans rfl; have hfz128_0 := blk_frozen BK304.out 0; have hfz128_1 := blk_frozen BK304.out 1; have hfz128_2 := blk_frozen BK304.out 2; have hfz128_3 := blk_frozen BK304.out 3))
                 go_meet
                 case rel => exact ⟨_, H', ⟨by have := HJ10.out; have := HK2.out; have := HJ72.out; first | omega | exact Nat.le_refl _⟩, ⟨by (with_reducible repeat (first | apply Kd.R_alloc | apply Kd.R_drewN | apply Kd.R_drew)); exact HO_7.out⟩, ⟨by (with_reducible repeat (first | apply Kd.R_alloc | apply Kd.R_drewN | apply Kd.R_drew)); exact HO_9.out⟩, ⟨by (with_reducible repeat (first | apply Kd.R_alloc | apply Kd.R_drewN | apply Kd.R_drew)); exact HO_12.out⟩, ⟨by (with_reducible repeat (first | refine blk_drewN ?_ _ | refine blk_drew ?_ | refine blk_alloc ?_ _)); exact BK304.out⟩, ⟨by repeat (first | (with_reducible first | exact HB.out | apply below_alloc | apply pw_below_drewN | apply below_drew1 | refine below_set ?_ GE304.out) | exact HB.out)⟩⟩
              ·rw [if_neg c117] at H
               have c117b0 : (t333 == t330) = false := beq_eq_false_iff_ne.mpr c117
               have c117b1 : (t333 != t330) = true := bne_iff_ne.mpr c117
               obtain rfl := Option.some.inj H
               obtain ⟨Ao129, co129, eo129⟩ := Kd.R_slice HO_7.out
               subst eo129
               go_wp2_with (first | ((with_reducible refine gate_callee (f := 21) rfl ?_); refine goesL_ (some 110) rfl rfl Try.func21 (by kernel_rfl) rfl #[.slice Ao129 t308.length co129, .int .i64 x14_2] rfl (by (try simp only [List.map_toArray, List.map_cons, List.map_nil]); first | done | rfl | (simp only [List.length_drop, List.length_take]; rfl)) ?_; (with_reducible refine (extent_Find.calls kj72 _ _ t308 x14_2 t333 t334 t335 _ ?side1 ?side2 A80.out).mono ?_); (case side1 => repeat (first | exact (Kd.R_reads' HO_7.out).2.2 | (with_reducible refine Kd.C_alloc ?_ _) | (with_reducible refine Kd.C_drewN ?_ _) | (with_reducible refine Kd.C_drew ?_))); (case side2 => exact (Kd.R_reads' HO_7.out).2.1); rintro e w130 ⟨rfl, hb⟩; refine ⟨_, rfl, ?_⟩; have n0_ := Aside0.mk (Kd.R_below (by (with_reducible repeat (first | apply Kd.R_alloc | apply Kd.R_drewN | apply Kd.R_drew)); exact HO_7.out) hb); have n1_ := Aside0.mk (Kd.R_below (by (with_reducible repeat (first | apply Kd.R_alloc | apply Kd.R_drewN | apply Kd.R_drew)); exact HO_9.out) hb); have n2_ := Aside0.mk (Kd.R_below (by (with_reducible repeat (first | apply Kd.R_alloc | apply Kd.R_drewN | apply Kd.R_drew)); exact HO_12.out) hb); have n3_ := Aside0.mk (blk_below (g := gb304) (o := .cells #[.int .i64 a1_0, .int .i64 a1_1, .int .i64 a1_2, .bool a1_3] 24 (0, 0)) (by (with_reducible repeat (first | refine blk_drewN ?_ _ | refine blk_drew ?_ | refine blk_alloc ?_ _)); exact BK304.out) hb); have n4_ := Aside0.mk (below_step (by repeat (first | (with_reducible first | exact HB.out | apply below_alloc | apply pw_below_drewN | apply below_drew1 | refine below_set ?_ GE304.out) | exact HB.out)) hb); clear HO_7; clear HO_9; clear HO_12; clear BK304; clear HB; have HO_7 := n0_; have HO_9 := n1_; have HO_12 := n2_; have BK304 := n3_; have HB := n4_; clear n0_ n1_ n2_ n3_ n4_; (try clear hb); (try clear hb2); (try clear hk); (try clear hi); have hcz131_0 : w130.cell? ⟨gb304, 0, none⟩ = some (.int .i64 a1_0) := (blk_cell BK304.out 0).trans rfl; have hcz131_1 : w130.cell? ⟨gb304, 1, none⟩ = some (.int .i64 a1_1) := (blk_cell BK304.out 1).trans rfl; have hcz131_2 : w130.cell? ⟨gb304, 2, none⟩ = some (.int .i64 a1_2) := (blk_cell BK304.out 2).trans rfl; have hcz131_3 : w130.cell? ⟨gb304, 3, none⟩ = some (.bool a1_3) := (blk_cell BK304.out 3).trans rfl; have hfz131_0 := blk_frozen BK304.out 0; have hfz131_1 := blk_frozen BK304.out 1; have hfz131_2 := blk_frozen BK304.out 2; have hfz131_3 := blk_frozen BK304.out 3))
               go_ret
               exact ⟨by first | rfl | (simp [errW_none, errW_some] <;> rfl) | (simp [*, errW_none, errW_some] <;> rfl), by repeat (first | (with_reducible first | exact HB.out | apply below_alloc | apply pw_below_drewN | apply below_drew1 | refine below_set ?_ GE304.out) | exact HB.out)⟩
            ·as_aux_lemma =>
             rw [if_neg c79] at H
             have c79b0 : (t311 == 0) = false := beq_eq_false_iff_ne.mpr c79
             have c79b1 : (t311 != 0) = true := bne_iff_ne.mpr c79
             (first | rw [c79b0] | (simp only [i64_w, i32_w]; rw [c79b0]) | skip)
             have H' := Aside0.mk H
             clear H;go_wp2
             go_meet
             case rel => exact ⟨_, H', ⟨by have := HJ10.out; have := HK2.out; have := HJ72.out; first | omega | exact Nat.le_refl _⟩, ⟨by (with_reducible repeat (first | apply Kd.R_alloc | apply Kd.R_drewN | apply Kd.R_drew)); exact HO_7.out⟩, ⟨by (with_reducible repeat (first | apply Kd.R_alloc | apply Kd.R_drewN | apply Kd.R_drew)); exact HO_9.out⟩, ⟨by (with_reducible repeat (first | apply Kd.R_alloc | apply Kd.R_drewN | apply Kd.R_drew)); exact HO_12.out⟩, ⟨by (with_reducible repeat (first | refine blk_drewN ?_ _ | refine blk_drew ?_ | refine blk_alloc ?_ _)); exact BK304.out⟩, ⟨by repeat (first | (with_reducible first | exact HB.out | apply below_alloc | apply pw_below_drewN | apply below_drew1 | refine below_set ?_ GE304.out) | exact HB.out)⟩⟩
           case rest =>
            clear HC78
            try clear c1
            try clear c2
            try clear p2
            try clear c4
            try clear c5
            try clear c6
            try clear p6
            try clear c7
            try clear c7b0
            try clear c7b1
            try clear c8
            try clear c10
            try clear c11
            try clear c12
            try clear c13
            try clear c14
            try clear c21
            try clear c21b0
            try clear c21b1
            try clear c22
            try clear c23
            try clear c23b0
            try clear c23b1
            try clear c24
            try clear c24b0
            try clear c24b1
            try clear c26
            try clear c26b0
            try clear c26b1
            try clear c27
            try clear c27b0
            try clear c27b1
            try clear c43
            try clear c43b0
            try clear c43b1
            try clear c53
            try clear c53b0
            try clear c53b1
            try clear c55
            try clear c55b0
            try clear c55b1
            try clear c56
            try clear c56b0
            try clear c56b1
            try clear p64
            try clear c66
            try clear c66b0
            try clear c66b1
            try clear c70
            try clear c71
            try clear c71b0
            try clear c75
            try clear c75b0
            try clear c79
            try clear c79b0
            try clear c79b1
            try clear c81
            try clear c81b0
            try clear c82
            try clear c82b0
            try clear c83
            try clear c87
            try clear c88
            try clear c88b0
            try clear c88b1
            try clear c89
            try clear c89b0
            try clear c89b1
            try clear c89b2
            try clear c102
            try clear c102b0
            try clear c102b1
            try clear c103
            try clear c103b0
            try clear c103b1
            try clear c103b2
            try clear c107
            try clear c107b0
            try clear c107b1
            try clear c107b2
            try clear c117
            try clear c117b0
            try clear c117b1
            try clear c118
            try clear c118b0
            try clear c118b1
            try clear c118b2
            try clear c122
            try clear c122b0
            try clear c122b1
            try clear c122b2
            try clear hcz101_0
            try clear hcz101_1
            try clear hcz101_2
            try clear hcz101_3
            try clear hcz106_0
            try clear hcz106_1
            try clear hcz106_2
            try clear hcz106_3
            try clear hcz110_0
            try clear hcz110_1
            try clear hcz110_2
            try clear hcz110_3
            try clear hcz113_0
            try clear hcz113_1
            try clear hcz113_2
            try clear hcz113_3
            try clear hcz116_0
            try clear hcz116_1
            try clear hcz116_2
            try clear hcz116_3
            try clear hcz121_0
            try clear hcz121_1
            try clear hcz121_2
            try clear hcz121_3
            try clear hcz125_0
            try clear hcz125_1
            try clear hcz125_2
            try clear hcz125_3
            try clear hcz128_0
            try clear hcz128_1
            try clear hcz128_2
            try clear hcz128_3
            try clear hcz131_0
            try clear hcz131_1
            try clear hcz131_2
            try clear hcz131_3
            try clear hcz15_0
            try clear hcz15_1
            try clear hcz15_2
            try clear hcz15_3
            try clear hcz17_0
            try clear hcz17_1
            try clear hcz17_2
            try clear hcz17_3
            try clear hcz19_0
            try clear hcz19_1
            try clear hcz19_2
            try clear hcz19_3
            try clear hcz76_0
            try clear hcz76_1
            try clear hcz76_2
            try clear hcz76_3
            try clear hcz77_0
            try clear hcz77_1
            try clear hcz77_2
            try clear hcz77_3
            try clear hcz86_0
            try clear hcz86_1
            try clear hcz86_2
            try clear hcz86_3
            try clear hcz92_0
            try clear hcz92_1
            try clear hcz92_2
            try clear hcz92_3
            try clear hcz95_0
            try clear hcz95_1
            try clear hcz95_2
            try clear hcz95_3
            try clear hcz98_0
            try clear hcz98_1
            try clear hcz98_2
            try clear hcz98_3
            try clear hfz101_0
            try clear hfz101_1
            try clear hfz101_2
            try clear hfz101_3
            try clear hfz106_0
            try clear hfz106_1
            try clear hfz106_2
            try clear hfz106_3
            try clear hfz110_0
            try clear hfz110_1
            try clear hfz110_2
            try clear hfz110_3
            try clear hfz113_0
            try clear hfz113_1
            try clear hfz113_2
            try clear hfz113_3
            try clear hfz116_0
            try clear hfz116_1
            try clear hfz116_2
            try clear hfz116_3
            try clear hfz121_0
            try clear hfz121_1
            try clear hfz121_2
            try clear hfz121_3
            try clear hfz125_0
            try clear hfz125_1
            try clear hfz125_2
            try clear hfz125_3
            try clear hfz128_0
            try clear hfz128_1
            try clear hfz128_2
            try clear hfz128_3
            try clear hfz131_0
            try clear hfz131_1
            try clear hfz131_2
            try clear hfz131_3
            try clear hfz15_0
            try clear hfz15_1
            try clear hfz15_2
            try clear hfz15_3
            try clear hfz17_0
            try clear hfz17_1
            try clear hfz17_2
            try clear hfz17_3
            try clear hfz19_0
            try clear hfz19_1
            try clear hfz19_2
            try clear hfz19_3
            try clear hfz76_0
            try clear hfz76_1
            try clear hfz76_2
            try clear hfz76_3
            try clear hfz77_0
            try clear hfz77_1
            try clear hfz77_2
            try clear hfz77_3
            try clear hfz86_0
            try clear hfz86_1
            try clear hfz86_2
            try clear hfz86_3
            try clear hfz92_0
            try clear hfz92_1
            try clear hfz92_2
            try clear hfz92_3
            try clear hfz95_0
            try clear hfz95_1
            try clear hfz95_2
            try clear hfz95_3
            try clear hfz98_0
            try clear hfz98_1
            try clear hfz98_2
            try clear hfz98_3
            try clear p2
            obtain ⟨kq, HA, HJ77, HO_7, HO_9, HO_12, BK304, HB⟩ := hcut
            cases kq with
            | zero => exact absurd HA.out (by intro h_; cases h_)
            | succ kj77 =>
             have H := HA.out
             clear HA
             simp only [undercroftlaw10_ExtentBlocks.j3] at H
             have HC132 := Aside0.mk H
             clear H
             go_upto_if 172 with (fail)
             go_cut [] (fun wc => ∃ (kq : Nat), Aside0 (undercroftlaw10_ExtentBlocks.j4 kq l0 a2 t308 t311 t312 t314 t319 t320 x14_2 t330 t331 t332 x18_72 a1_0 a1_1 a1_2 a1_3 = some r) ∧ Aside0 (kq ≤ kj77) ∧ Aside0 (Kd.R k24 24 wc w.heap.size (fun k_ => some k_ ≠ (v315 : Value).ownBlock ∧ some k_ ≠ (v321 : Value).ownBlock ∧ k_ ≠ gb304) v309 t308) ∧ Aside0 (Kd.R k24 24 wc w.heap.size (fun k_ => some k_ ≠ (v309 : Value).ownBlock ∧ some k_ ≠ (v321 : Value).ownBlock ∧ k_ ≠ gb304) v315 t312) ∧ Aside0 (Kd.R k24 24 wc w.heap.size (fun k_ => some k_ ≠ (v309 : Value).ownBlock ∧ some k_ ≠ (v315 : Value).ownBlock ∧ k_ ≠ gb304) v321 t319) ∧ Aside0 (wc.heap[gb304]? = some (.cells #[.int .i64 a1_0, .int .i64 a1_1, .int .i64 a1_2, .bool a1_3] 24 (0, 0))) ∧ Aside0 (Below w.heap.size w wc))
             case first =>
              have H := HC132.out
              clear HC132
              by_cases c133 : t314 = 0
              ·as_aux_lemma =>
               rw [if_pos c133] at H
               have c133b0 : (t314 == 0) = true := beq_iff_eq.mpr c133
               have c133b1 : (t314 != 0) = false := bne_eq_false_iff_eq.mpr c133
               clear c133
               (first | rw [c133b0] | (simp only [i64_w, i32_w]; rw [c133b0]) | skip)
               replace H := Option.bind_eq_some_iff.mp H
               obtain ⟨⟨t336, t337, t338⟩, A1340, H⟩ := H
               replace H : (if x18_72 = true then (if t338 = true then (some false) else (undercroftlaw10_ExtentBlocks.j4 kj77 l0 a2 t308 t311 t312 t314 t319 t320 x14_2 t330 t331 t332 x18_72 a1_0 a1_1 a1_2 a1_3)) else (if t336 = t330 then (if (t337 != t331) = true then (some false) else (if (t338 != t332) = true then (some false) else (undercroftlaw10_ExtentBlocks.j4 kj77 l0 a2 t308 t311 t312 t314 t319 t320 x14_2 t330 t331 t332 x18_72 a1_0 a1_1 a1_2 a1_3))) else (some false))) = some r := H
               have A134 := Aside0.mk A1340
               clear A1340
               by_cases c135 : x18_72 = true
               ·subst c135
                have H1 : (if t338 = true then (some false) else (undercroftlaw10_ExtentBlocks.j4 kj77 l0 a2 t308 t311 t312 t314 t319 t320 x14_2 t330 t331 t332 true a1_0 a1_1 a1_2 a1_3)) = some r := by rw [if_pos rfl] at H; exact H
                clear H;have H := H1;clear H1
                by_cases c136 : t338 = true
                ·subst c136
                 have H1 : (some false) = some r := by rw [if_pos rfl] at H; exact H
                 clear H;have H := H1;clear H1;obtain rfl := Option.some.inj H
                 obtain ⟨Ao137, co137, eo137⟩ := Kd.R_slice HO_9.out
                 subst eo137
                 go_wp2_with (first | ((with_reducible refine gate_callee (f := 21) rfl ?_); refine goesL_ (some 176) rfl rfl Try.func21 (by kernel_rfl) rfl #[.slice Ao137 t312.length co137, .int .i64 x14_2] rfl (by (try simp only [List.map_toArray, List.map_cons, List.map_nil]); first | done | rfl | (simp only [List.length_drop, List.length_take]; rfl)) ?_; (with_reducible refine (extent_Find.calls kj77 _ _ t312 x14_2 t336 t337 true _ ?side1 ?side2 A134.out).mono ?_); (case side1 => repeat (first | exact (Kd.R_reads' HO_9.out).2.2 | (with_reducible refine Kd.C_alloc ?_ _) | (with_reducible refine Kd.C_drewN ?_ _) | (with_reducible refine Kd.C_drew ?_))); (case side2 => exact (Kd.R_reads' HO_9.out).2.1); rintro e w138 ⟨rfl, hb⟩; refine ⟨_, rfl, ?_⟩; have n0_ := Aside0.mk (Kd.R_below (by (with_reducible repeat (first | apply Kd.R_alloc | apply Kd.R_drewN | apply Kd.R_drew)); exact HO_7.out) hb); have n1_ := Aside0.mk (Kd.R_below (by (with_reducible repeat (first | apply Kd.R_alloc | apply Kd.R_drewN | apply Kd.R_drew)); exact HO_9.out) hb); have n2_ := Aside0.mk (Kd.R_below (by (with_reducible repeat (first | apply Kd.R_alloc | apply Kd.R_drewN | apply Kd.R_drew)); exact HO_12.out) hb); have n3_ := Aside0.mk (blk_below (g := gb304) (o := .cells #[.int .i64 a1_0, .int .i64 a1_1, .int .i64 a1_2, .bool a1_3] 24 (0, 0)) (by (with_reducible repeat (first | refine blk_drewN ?_ _ | refine blk_drew ?_ | refine blk_alloc ?_ _)); exact BK304.out) hb); have n4_ := Aside0.mk (below_step (by repeat (first | (with_reducible first | exact HB.out | apply below_alloc | apply pw_below_drewN | apply below_drew1 | refine below_set ?_ GE304.out) | exact HB.out)) hb); clear HO_7; clear HO_9; clear HO_12; clear BK304; clear HB; have HO_7 := n0_; have HO_9 := n1_; have HO_12 := n2_; have BK304 := n3_; have HB := n4_; clear n0_ n1_ n2_ n3_ n4_; (try clear hb); (try clear hb2); (try clear hk); (try clear hi)))
                 go_ret
                 exact ⟨by first | rfl | (simp [errW_none, errW_some] <;> rfl) | (simp [*, errW_none, errW_some] <;> rfl), by repeat (first | (with_reducible first | exact HB.out | apply below_alloc | apply pw_below_drewN | apply below_drew1 | refine below_set ?_ GE304.out) | exact HB.out)⟩
                ·replace c136 := Bool.eq_false_iff.mpr c136
                 subst c136
                 have H1 : (undercroftlaw10_ExtentBlocks.j4 kj77 l0 a2 t308 t311 t312 t314 t319 t320 x14_2 t330 t331 t332 true a1_0 a1_1 a1_2 a1_3) = some r := by rw [if_neg (show ¬ (false = true) by decide)] at H; exact H
                 clear H;have H := H1;clear H1
                 have H' := Aside0.mk H
                 clear H
                 obtain ⟨Ao139, co139, eo139⟩ := Kd.R_slice HO_9.out
                 subst eo139
                 go_wp2_with (first | ((with_reducible refine gate_callee (f := 21) rfl ?_); refine goesL_ (some 176) rfl rfl Try.func21 (by kernel_rfl) rfl #[.slice Ao139 t312.length co139, .int .i64 x14_2] rfl (by (try simp only [List.map_toArray, List.map_cons, List.map_nil]); first | done | rfl | (simp only [List.length_drop, List.length_take]; rfl)) ?_; (with_reducible refine (extent_Find.calls kj77 _ _ t312 x14_2 t336 t337 false _ ?side1 ?side2 A134.out).mono ?_); (case side1 => repeat (first | exact (Kd.R_reads' HO_9.out).2.2 | (with_reducible refine Kd.C_alloc ?_ _) | (with_reducible refine Kd.C_drewN ?_ _) | (with_reducible refine Kd.C_drew ?_))); (case side2 => exact (Kd.R_reads' HO_9.out).2.1); rintro e w140 ⟨rfl, hb⟩; refine ⟨_, rfl, ?_⟩; have n0_ := Aside0.mk (Kd.R_below (by (with_reducible repeat (first | apply Kd.R_alloc | apply Kd.R_drewN | apply Kd.R_drew)); exact HO_7.out) hb); have n1_ := Aside0.mk (Kd.R_below (by (with_reducible repeat (first | apply Kd.R_alloc | apply Kd.R_drewN | apply Kd.R_drew)); exact HO_9.out) hb); have n2_ := Aside0.mk (Kd.R_below (by (with_reducible repeat (first | apply Kd.R_alloc | apply Kd.R_drewN | apply Kd.R_drew)); exact HO_12.out) hb); have n3_ := Aside0.mk (blk_below (g := gb304) (o := .cells #[.int .i64 a1_0, .int .i64 a1_1, .int .i64 a1_2, .bool a1_3] 24 (0, 0)) (by (with_reducible repeat (first | refine blk_drewN ?_ _ | refine blk_drew ?_ | refine blk_alloc ?_ _)); exact BK304.out) hb); have n4_ := Aside0.mk (below_step (by repeat (first | (with_reducible first | exact HB.out | apply below_alloc | apply pw_below_drewN | apply below_drew1 | refine below_set ?_ GE304.out) | exact HB.out)) hb); clear HO_7; clear HO_9; clear HO_12; clear BK304; clear HB; have HO_7 := n0_; have HO_9 := n1_; have HO_12 := n2_; have BK304 := n3_; have HB := n4_; clear n0_ n1_ n2_ n3_ n4_; (try clear hb); (try clear hb2); (try clear hk); (try clear hi)))
                 go_meet
                 case rel => exact ⟨_, H', ⟨by have := HJ10.out; have := HK2.out; have := HJ72.out; have := HJ77.out; first | omega | exact Nat.le_refl _⟩, ⟨by (with_reducible repeat (first | apply Kd.R_alloc | apply Kd.R_drewN | apply Kd.R_drew)); exact HO_7.out⟩, ⟨by (with_reducible repeat (first | apply Kd.R_alloc | apply Kd.R_drewN | apply Kd.R_drew)); exact HO_9.out⟩, ⟨by (with_reducible repeat (first | apply Kd.R_alloc | apply Kd.R_drewN | apply Kd.R_drew)); exact HO_12.out⟩, ⟨by (with_reducible repeat (first | refine blk_drewN ?_ _ | refine blk_drew ?_ | refine blk_alloc ?_ _)); exact BK304.out⟩, ⟨by repeat (first | (with_reducible first | exact HB.out | apply below_alloc | apply pw_below_drewN | apply below_drew1 | refine below_set ?_ GE304.out) | exact HB.out)⟩⟩
               ·replace c135 := Bool.eq_false_iff.mpr c135
                subst c135
                have H1 : (if t336 = t330 then (if (t337 != t331) = true then (some false) else (if (t338 != t332) = true then (some false) else (undercroftlaw10_ExtentBlocks.j4 kj77 l0 a2 t308 t311 t312 t314 t319 t320 x14_2 t330 t331 t332 false a1_0 a1_1 a1_2 a1_3))) else (some false)) = some r := by rw [if_neg (show ¬ (false = true) by decide)] at H; exact H
                clear H;have H := H1;clear H1
                by_cases c141 : t336 = t330
                ·rw [if_pos c141] at H
                 have c141b0 : (t336 == t330) = true := beq_iff_eq.mpr c141
                 have c141b1 : (t336 != t330) = false := bne_eq_false_iff_eq.mpr c141
                 clear c141
                 by_cases c142 : (t337 != t331) = true
                 ·rw [if_pos c142] at H
                  have c142b0 : (t337 != t331) = true := c142
                  (try (have c142b1 : decide (t337 = t331) = false := by simpa using c142))
                  (try (have c142b2 : (t337 == t331) = false := by simpa using c142))
                  (try (have c142b3 : ¬ (t337 = t331) := by simpa using c142))
                  clear c142;obtain rfl := Option.some.inj H
                  obtain ⟨Ao143, co143, eo143⟩ := Kd.R_slice HO_9.out
                  subst eo143
                  go_wp2_with (first | ((with_reducible refine gate_callee (f := 21) rfl ?_); refine goesL_ (some 176) rfl rfl Try.func21 (by kernel_rfl) rfl #[.slice Ao143 t312.length co143, .int .i64 x14_2] rfl (by (try simp only [List.map_toArray, List.map_cons, List.map_nil]); first | done | rfl | (simp only [List.length_drop, List.length_take]; rfl)) ?_; (with_reducible refine (extent_Find.calls kj77 _ _ t312 x14_2 t336 t337 t338 _ ?side1 ?side2 A134.out).mono ?_); (case side1 => repeat (first | exact (Kd.R_reads' HO_9.out).2.2 | (with_reducible refine Kd.C_alloc ?_ _) | (with_reducible refine Kd.C_drewN ?_ _) | (with_reducible refine Kd.C_drew ?_))); (case side2 => exact (Kd.R_reads' HO_9.out).2.1); rintro e w144 ⟨rfl, hb⟩; refine ⟨_, rfl, ?_⟩; have n0_ := Aside0.mk (Kd.R_below (by (with_reducible repeat (first | apply Kd.R_alloc | apply Kd.R_drewN | apply Kd.R_drew)); exact HO_7.out) hb); have n1_ := Aside0.mk (Kd.R_below (by (with_reducible repeat (first | apply Kd.R_alloc | apply Kd.R_drewN | apply Kd.R_drew)); exact HO_9.out) hb); have n2_ := Aside0.mk (Kd.R_below (by (with_reducible repeat (first | apply Kd.R_alloc | apply Kd.R_drewN | apply Kd.R_drew)); exact HO_12.out) hb); have n3_ := Aside0.mk (blk_below (g := gb304) (o := .cells #[.int .i64 a1_0, .int .i64 a1_1, .int .i64 a1_2, .bool a1_3] 24 (0, 0)) (by (with_reducible repeat (first | refine blk_drewN ?_ _ | refine blk_drew ?_ | refine blk_alloc ?_ _)); exact BK304.out) hb); have n4_ := Aside0.mk (below_step (by repeat (first | (with_reducible first | exact HB.out | apply below_alloc | apply pw_below_drewN | apply below_drew1 | refine below_set ?_ GE304.out) | exact HB.out)) hb); clear HO_7; clear HO_9; clear HO_12; clear BK304; clear HB; have HO_7 := n0_; have HO_9 := n1_; have HO_12 := n2_; have BK304 := n3_; have HB := n4_; clear n0_ n1_ n2_ n3_ n4_; (try clear hb); (try clear hb2); (try clear hk); (try clear hi)))
                  go_ret
                  exact ⟨by first | rfl | (simp [errW_none, errW_some] <;> rfl) | (simp [*, errW_none, errW_some] <;> rfl), by repeat (first | (with_reducible first | exact HB.out | apply below_alloc | apply pw_below_drewN | apply below_drew1 | refine below_set ?_ GE304.out) | exact HB.out)⟩
                 ·rw [if_neg c142] at H
                  have c142b0 : (t337 != t331) = false := by simpa using c142
                  (try (have c142b1 : decide (t337 = t331) = true := by simpa using c142))
                  (try (have c142b2 : (t337 == t331) = true := by simpa using c142))
                  clear c142
                  by_cases c145 : (t338 != t332) = true
                  ·rw [if_pos c145] at H
                   have c145b0 : (t338 != t332) = true := c145
                   (try (have c145b1 : decide (t338 = t332) = false := by simpa using c145))
                   (try (have c145b2 : (t338 == t332) = false := by simpa using c145))
                   (try (have c145b3 : ¬ (t338 = t332) := by simpa using c145))
                   clear c145;obtain rfl := Option.some.inj H
                   obtain ⟨Ao146, co146, eo146⟩ := Kd.R_slice HO_9.out
                   subst eo146
                   go_wp2_with (first | ((with_reducible refine gate_callee (f := 21) rfl ?_); refine goesL_ (some 176) rfl rfl Try.func21 (by kernel_rfl) rfl #[.slice Ao146 t312.length co146, .int .i64 x14_2] rfl (by (try simp only [List.map_toArray, List.map_cons, List.map_nil]); first | done | rfl | (simp only [List.length_drop, List.length_take]; rfl)) ?_; (with_reducible refine (extent_Find.calls kj77 _ _ t312 x14_2 t336 t337 t338 _ ?side1 ?side2 A134.out).mono ?_); (case side1 => repeat (first | exact (Kd.R_reads' HO_9.out).2.2 | (with_reducible refine Kd.C_alloc ?_ _) | (with_reducible refine Kd.C_drewN ?_ _) | (with_reducible refine Kd.C_drew ?_))); (case side2 => exact (Kd.R_reads' HO_9.out).2.1); rintro e w147 ⟨rfl, hb⟩; refine ⟨_, rfl, ?_⟩; have n0_ := Aside0.mk (Kd.R_below (by (with_reducible repeat (first | apply Kd.R_alloc | apply Kd.R_drewN | apply Kd.R_drew)); exact HO_7.out) hb); have n1_ := Aside0.mk (Kd.R_below (by (with_reducible repeat (first | apply Kd.R_alloc | apply Kd.R_drewN | apply Kd.R_drew)); exact HO_9.out) hb); have n2_ := Aside0.mk (Kd.R_below (by (with_reducible repeat (first | apply Kd.R_alloc | apply Kd.R_drewN | apply Kd.R_drew)); exact HO_12.out) hb); have n3_ := Aside0.mk (blk_below (g := gb304) (o := .cells #[.int .i64 a1_0, .int .i64 a1_1, .int .i64 a1_2, .bool a1_3] 24 (0, 0)) (by (with_reducible repeat (first | refine blk_drewN ?_ _ | refine blk_drew ?_ | refine blk_alloc ?_ _)); exact BK304.out) hb); have n4_ := Aside0.mk (below_step (by repeat (first | (with_reducible first | exact HB.out | apply below_alloc | apply pw_below_drewN | apply below_drew1 | refine below_set ?_ GE304.out) | exact HB.out)) hb); clear HO_7; clear HO_9; clear HO_12; clear BK304; clear HB; have HO_7 := n0_; have HO_9 := n1_; have HO_12 := n2_; have BK304 := n3_; have HB := n4_; clear n0_ n1_ n2_ n3_ n4_; (try clear hb); (try clear hb2); (try clear hk); (try clear hi)))
                   go_ret
                   exact ⟨by first | rfl | (simp [errW_none, errW_some] <;> rfl) | (simp [*, errW_none, errW_some] <;> rfl), by repeat (first | (with_reducible first | exact HB.out | apply below_alloc | apply pw_below_drewN | apply below_drew1 | refine below_set ?_ GE304.out) | exact HB.out)⟩
                  ·rw [if_neg c145] at H
                   have c145b0 : (t338 != t332) = false := by simpa using c145
                   (try (have c145b1 : decide (t338 = t332) = true := by simpa using c145))
                   (try (have c145b2 : (t338 == t332) = true := by simpa using c145))
                   clear c145
                   have H' := Aside0.mk H
                   clear H
                   obtain ⟨Ao148, co148, eo148⟩ := Kd.R_slice HO_9.out
                   subst eo148
                   go_wp2_with (first | ((with_reducible refine gate_callee (f := 21) rfl ?_); refine goesL_ (some 176) rfl rfl Try.func21 (by kernel_rfl) rfl #[.slice Ao148 t312.length co148, .int .i64 x14_2] rfl (by (try simp only [List.map_toArray, List.map_cons, List.map_nil]); first | done | rfl | (simp only [List.length_drop, List.length_take]; rfl)) ?_; (with_reducible refine (extent_Find.calls kj77 _ _ t312 x14_2 t336 t337 t338 _ ?side1 ?side2 A134.out).mono ?_); (case side1 => repeat (first | exact (Kd.R_reads' HO_9.out).2.2 | (with_reducible refine Kd.C_alloc ?_ _) | (with_reducible refine Kd.C_drewN ?_ _) | (with_reducible refine Kd.C_drew ?_))); (case side2 => exact (Kd.R_reads' HO_9.out).2.1); rintro e w149 ⟨rfl, hb⟩; refine ⟨_, rfl, ?_⟩; have n0_ := Aside0.mk (Kd.R_below (by (with_reducible repeat (first | apply Kd.R_alloc | apply Kd.R_drewN | apply Kd.R_drew)); exact HO_7.out) hb); have n1_ := Aside0.mk (Kd.R_below (by (with_reducible repeat (first | apply Kd.R_alloc | apply Kd.R_drewN | apply Kd.R_drew)); exact HO_9.out) hb); have n2_ := Aside0.mk (Kd.R_below (by (with_reducible repeat (first | apply Kd.R_alloc | apply Kd.R_drewN | apply Kd.R_drew)); exact HO_12.out) hb); have n3_ := Aside0.mk (blk_below (g := gb304) (o := .cells #[.int .i64 a1_0, .int .i64 a1_1, .int .i64 a1_2, .bool a1_3] 24 (0, 0)) (by (with_reducible repeat (first | refine blk_drewN ?_ _ | refine blk_drew ?_ | refine blk_alloc ?_ _)); exact BK304.out) hb); have n4_ := Aside0.mk (below_step (by repeat (first | (with_reducible first | exact HB.out | apply below_alloc | apply pw_below_drewN | apply below_drew1 | refine below_set ?_ GE304.out) | exact HB.out)) hb); clear HO_7; clear HO_9; clear HO_12; clear BK304; clear HB; have HO_7 := n0_; have HO_9 := n1_; have HO_12 := n2_; have BK304 := n3_; have HB := n4_; clear n0_ n1_ n2_ n3_ n4_; (try clear hb); (try clear hb2); (try clear hk); (try clear hi)))
                   go_meet
                   case rel => exact ⟨_, H', ⟨by have := HJ10.out; have := HK2.out; have := HJ72.out; have := HJ77.out; first | omega | exact Nat.le_refl _⟩, ⟨by (with_reducible repeat (first | apply Kd.R_alloc | apply Kd.R_drewN | apply Kd.R_drew)); exact HO_7.out⟩, ⟨by (with_reducible repeat (first | apply Kd.R_alloc | apply Kd.R_drewN | apply Kd.R_drew)); exact HO_9.out⟩, ⟨by (with_reducible repeat (first | apply Kd.R_alloc | apply Kd.R_drewN | apply Kd.R_drew)); exact HO_12.out⟩, ⟨by (with_reducible repeat (first | refine blk_drewN ?_ _ | refine blk_drew ?_ | refine blk_alloc ?_ _)); exact BK304.out⟩, ⟨by repeat (first | (with_reducible first | exact HB.out | apply below_alloc | apply pw_below_drewN | apply below_drew1 | refine below_set ?_ GE304.out) | exact HB.out)⟩⟩
                ·rw [if_neg c141] at H
                 have c141b0 : (t336 == t330) = false := beq_eq_false_iff_ne.mpr c141
                 have c141b1 : (t336 != t330) = true := bne_iff_ne.mpr c141
                 obtain rfl := Option.some.inj H
                 obtain ⟨Ao150, co150, eo150⟩ := Kd.R_slice HO_9.out
                 subst eo150
                 go_wp2_with (first | ((with_reducible refine gate_callee (f := 21) rfl ?_); refine goesL_ (some 176) rfl rfl Try.func21 (by kernel_rfl) rfl #[.slice Ao150 t312.length co150, .int .i64 x14_2] rfl (by (try simp only [List.map_toArray, List.map_cons, List.map_nil]); first | done | rfl | (simp only [List.length_drop, List.length_take]; rfl)) ?_; (with_reducible refine (extent_Find.calls kj77 _ _ t312 x14_2 t336 t337 t338 _ ?side1 ?side2 A134.out).mono ?_); (case side1 => repeat (first | exact (Kd.R_reads' HO_9.out).2.2 | (with_reducible refine Kd.C_alloc ?_ _) | (with_reducible refine Kd.C_drewN ?_ _) | (with_reducible refine Kd.C_drew ?_))); (case side2 => exact (Kd.R_reads' HO_9.out).2.1); rintro e w151 ⟨rfl, hb⟩; refine ⟨_, rfl, ?_⟩; have n0_ := Aside0.mk (Kd.R_below (by (with_reducible repeat (first | apply Kd.R_alloc | apply Kd.R_drewN | apply Kd.R_drew)); exact HO_7.out) hb); have n1_ := Aside0.mk (Kd.R_below (by (with_reducible repeat (first | apply Kd.R_alloc | apply Kd.R_drewN | apply Kd.R_drew)); exact HO_9.out) hb); have n2_ := Aside0.mk (Kd.R_below (by (with_reducible repeat (first | apply Kd.R_alloc | apply Kd.R_drewN | apply Kd.R_drew)); exact HO_12.out) hb); have n3_ := Aside0.mk (blk_below (g := gb304) (o := .cells #[.int .i64 a1_0, .int .i64 a1_1, .int .i64 a1_2, .bool a1_3] 24 (0, 0)) (by (with_reducible repeat (first | refine blk_drewN ?_ _ | refine blk_drew ?_ | refine blk_alloc ?_ _)); exact BK304.out) hb); have n4_ := Aside0.mk (below_step (by repeat (first | (with_reducible first | exact HB.out | apply below_alloc | apply pw_below_drewN | apply below_drew1 | refine below_set ?_ GE304.out) | exact HB.out)) hb); clear HO_7; clear HO_9; clear HO_12; clear BK304; clear HB; have HO_7 := n0_; have HO_9 := n1_; have HO_12 := n2_; have BK304 := n3_; have HB := n4_; clear n0_ n1_ n2_ n3_ n4_; (try clear hb); (try clear hb2); (try clear hk); (try clear hi)))
                 go_ret
                 exact ⟨by first | rfl | (simp [errW_none, errW_some] <;> rfl) | (simp [*, errW_none, errW_some] <;> rfl), by repeat (first | (with_reducible first | exact HB.out | apply below_alloc | apply pw_below_drewN | apply below_drew1 | refine below_set ?_ GE304.out) | exact HB.out)⟩
              ·as_aux_lemma =>
               rw [if_neg c133] at H
               have c133b0 : (t314 == 0) = false := beq_eq_false_iff_ne.mpr c133
               have c133b1 : (t314 != 0) = true := bne_iff_ne.mpr c133
               (first | rw [c133b0] | (simp only [i64_w, i32_w]; rw [c133b0]) | skip)
               have H' := Aside0.mk H
               clear H;go_wp2
               go_meet
               case rel => exact ⟨_, H', ⟨by have := HJ10.out; have := HK2.out; have := HJ72.out; have := HJ77.out; first | omega | exact Nat.le_refl _⟩, ⟨by (with_reducible repeat (first | apply Kd.R_alloc | apply Kd.R_drewN | apply Kd.R_drew)); exact HO_7.out⟩, ⟨by (with_reducible repeat (first | apply Kd.R_alloc | apply Kd.R_drewN | apply Kd.R_drew)); exact HO_9.out⟩, ⟨by (with_reducible repeat (first | apply Kd.R_alloc | apply Kd.R_drewN | apply Kd.R_drew)); exact HO_12.out⟩, ⟨by (with_reducible repeat (first | refine blk_drewN ?_ _ | refine blk_drew ?_ | refine blk_alloc ?_ _)); exact BK304.out⟩, ⟨by repeat (first | (with_reducible first | exact HB.out | apply below_alloc | apply pw_below_drewN | apply below_drew1 | refine below_set ?_ GE304.out) | exact HB.out)⟩⟩
             case rest =>
              clear HC132
              try clear c1
              try clear c2
              try clear p2
              try clear c4
              try clear c5
              try clear c6
              try clear p6
              try clear c7
              try clear c7b0
              try clear c7b1
              try clear c8
              try clear c10
              try clear c11
              try clear c12
              try clear c13
              try clear c14
              try clear c21
              try clear c21b0
              try clear c21b1
              try clear c22
              try clear c23
              try clear c23b0
              try clear c23b1
              try clear c24
              try clear c24b0
              try clear c24b1
              try clear c26
              try clear c26b0
              try clear c26b1
              try clear c27
              try clear c27b0
              try clear c27b1
              try clear c43
              try clear c43b0
              try clear c43b1
              try clear c53
              try clear c53b0
              try clear c53b1
              try clear c55
              try clear c55b0
              try clear c55b1
              try clear c56
              try clear c56b0
              try clear c56b1
              try clear p64
              try clear c66
              try clear c66b0
              try clear c66b1
              try clear c70
              try clear c71
              try clear c71b0
              try clear c75
              try clear c75b0
              try clear c79
              try clear c79b0
              try clear c79b1
              try clear c81
              try clear c81b0
              try clear c82
              try clear c82b0
              try clear c83
              try clear c87
              try clear c88
              try clear c88b0
              try clear c88b1
              try clear c89
              try clear c89b0
              try clear c89b1
              try clear c89b2
              try clear c102
              try clear c102b0
              try clear c102b1
              try clear c103
              try clear c103b0
              try clear c103b1
              try clear c103b2
              try clear c107
              try clear c107b0
              try clear c107b1
              try clear c107b2
              try clear c117
              try clear c117b0
              try clear c117b1
              try clear c118
              try clear c118b0
              try clear c118b1
              try clear c118b2
              try clear c122
              try clear c122b0
              try clear c122b1
              try clear c122b2
              try clear c133
              try clear c133b0
              try clear c133b1
              try clear c135
              try clear c136
              try clear c141
              try clear c141b0
              try clear c141b1
              try clear c142
              try clear c142b0
              try clear c142b1
              try clear c142b2
              try clear c145
              try clear c145b0
              try clear c145b1
              try clear c145b2
              try clear hcz101_0
              try clear hcz101_1
              try clear hcz101_2
              try clear hcz101_3
              try clear hcz106_0
              try clear hcz106_1
              try clear hcz106_2
              try clear hcz106_3
              try clear hcz110_0
              try clear hcz110_1
              try clear hcz110_2
              try clear hcz110_3
              try clear hcz113_0
              try clear hcz113_1
              try clear hcz113_2
              try clear hcz113_3
              try clear hcz116_0
              try clear hcz116_1
              try clear hcz116_2
              try clear hcz116_3
              try clear hcz121_0
              try clear hcz121_1
              try clear hcz121_2
              try clear hcz121_3
              try clear hcz125_0
              try clear hcz125_1
              try clear hcz125_2
              try clear hcz125_3
              try clear hcz128_0
              try clear hcz128_1
              try clear hcz128_2
              try clear hcz128_3
              try clear hcz131_0
              try clear hcz131_1
              try clear hcz131_2
              try clear hcz131_3
              try clear hcz15_0
              try clear hcz15_1
              try clear hcz15_2
              try clear hcz15_3
              try clear hcz17_0
              try clear hcz17_1
              try clear hcz17_2
              try clear hcz17_3
              try clear hcz19_0
              try clear hcz19_1
              try clear hcz19_2
              try clear hcz19_3
              try clear hcz76_0
              try clear hcz76_1
              try clear hcz76_2
              try clear hcz76_3
              try clear hcz77_0
              try clear hcz77_1
              try clear hcz77_2
              try clear hcz77_3
              try clear hcz86_0
              try clear hcz86_1
              try clear hcz86_2
              try clear hcz86_3
              try clear hcz92_0
              try clear hcz92_1
              try clear hcz92_2
              try clear hcz92_3
              try clear hcz95_0
              try clear hcz95_1
              try clear hcz95_2
              try clear hcz95_3
              try clear hcz98_0
              try clear hcz98_1
              try clear hcz98_2
              try clear hcz98_3
              try clear hfz101_0
              try clear hfz101_1
              try clear hfz101_2
              try clear hfz101_3
              try clear hfz106_0
              try clear hfz106_1
              try clear hfz106_2
              try clear hfz106_3
              try clear hfz110_0
              try clear hfz110_1
              try clear hfz110_2
              try clear hfz110_3
              try clear hfz113_0
              try clear hfz113_1
              try clear hfz113_2
              try clear hfz113_3
              try clear hfz116_0
              try clear hfz116_1
              try clear hfz116_2
              try clear hfz116_3
              try clear hfz121_0
              try clear hfz121_1
              try clear hfz121_2
              try clear hfz121_3
              try clear hfz125_0
              try clear hfz125_1
              try clear hfz125_2
              try clear hfz125_3
              try clear hfz128_0
              try clear hfz128_1
              try clear hfz128_2
              try clear hfz128_3
              try clear hfz131_0
              try clear hfz131_1
              try clear hfz131_2
              try clear hfz131_3
              try clear hfz15_0
              try clear hfz15_1
              try clear hfz15_2
              try clear hfz15_3
              try clear hfz17_0
              try clear hfz17_1
              try clear hfz17_2
              try clear hfz17_3
              try clear hfz19_0
              try clear hfz19_1
              try clear hfz19_2
              try clear hfz19_3
              try clear hfz76_0
              try clear hfz76_1
              try clear hfz76_2
              try clear hfz76_3
              try clear hfz77_0
              try clear hfz77_1
              try clear hfz77_2
              try clear hfz77_3
              try clear hfz86_0
              try clear hfz86_1
              try clear hfz86_2
              try clear hfz86_3
              try clear hfz92_0
              try clear hfz92_1
              try clear hfz92_2
              try clear hfz92_3
              try clear hfz95_0
              try clear hfz95_1
              try clear hfz95_2
              try clear hfz95_3
              try clear hfz98_0
              try clear hfz98_1
              try clear hfz98_2
              try clear hfz98_3
              try clear p2
              try clear p6
              try clear p64
              obtain ⟨kq, HA, HJ131, HO_7, HO_9, HO_12, BK304, HB⟩ := hcut
              cases kq with
              | zero => exact absurd HA.out (by intro h_; cases h_)
              | succ kj131 =>
               have H := HA.out
               clear HA
               simp only [undercroftlaw10_ExtentBlocks.j4] at H
               by_cases c152 : t320 = 0
               ·as_aux_lemma =>
                rw [if_pos c152] at H
                have c152b0 : (t320 == 0) = true := beq_iff_eq.mpr c152
                have c152b1 : (t320 != 0) = false := bne_eq_false_iff_eq.mpr c152
                clear c152
                replace H := Option.bind_eq_some_iff.mp H
                obtain ⟨⟨t339, t340, t341⟩, A1530, H⟩ := H
                replace H : (if t339 = t330 then (if (t341 != t332) = true then (some false) else (if t331 = true then (if (t340 != true) = true then (some false) else (undercroftlaw10_ExtentBlocks.l0 kj131 l0 a2 t308 t311 t312 t314 t319 t320 (wrap64 (x14_2 + 1)) a1_0 a1_1 a1_2 a1_3)) else (if x18_72 = true then (if (t340 != t332) = true then (some false) else (undercroftlaw10_ExtentBlocks.l0 kj131 l0 a2 t308 t311 t312 t314 t319 t320 (wrap64 (x14_2 + 1)) a1_0 a1_1 a1_2 a1_3)) else (if (t340 != false) = true then (some false) else (undercroftlaw10_ExtentBlocks.l0 kj131 l0 a2 t308 t311 t312 t314 t319 t320 (wrap64 (x14_2 + 1)) a1_0 a1_1 a1_2 a1_3))))) else (some false)) = some r := H
                have A153 := Aside0.mk A1530
                clear A1530
                by_cases c154 : t339 = t330
                ·rw [if_pos c154] at H
                 have c154b0 : (t339 == t330) = true := beq_iff_eq.mpr c154
                 have c154b1 : (t339 != t330) = false := bne_eq_false_iff_eq.mpr c154
                 clear c154
                 by_cases c155 : (t341 != t332) = true
                 ·rw [if_pos c155] at H
                  have c155b0 : (t341 != t332) = true := c155
                  (try (have c155b1 : decide (t341 = t332) = false := by simpa using c155))
                  (try (have c155b2 : (t341 == t332) = false := by simpa using c155))
                  (try (have c155b3 : ¬ (t341 = t332) := by simpa using c155))
                  clear c155;obtain rfl := Option.some.inj H
                  obtain ⟨Ao156, co156, eo156⟩ := Kd.R_slice HO_12.out
                  subst eo156
                  go_wp2_with (first | ((with_reducible refine gate_callee (f := 21) rfl ?_); refine goesL_ (some 208) rfl rfl Try.func21 (by kernel_rfl) rfl #[.slice Ao156 t319.length co156, .int .i64 x14_2] rfl (by (try simp only [List.map_toArray, List.map_cons, List.map_nil]); first | done | rfl | (simp only [List.length_drop, List.length_take]; rfl)) ?_; (with_reducible refine (extent_Find.calls kj131 _ _ t319 x14_2 t339 t340 t341 _ ?side1 ?side2 A153.out).mono ?_); (case side1 => repeat (first | exact (Kd.R_reads' HO_12.out).2.2 | (with_reducible refine Kd.C_alloc ?_ _) | (with_reducible refine Kd.C_drewN ?_ _) | (with_reducible refine Kd.C_drew ?_))); (case side2 => exact (Kd.R_reads' HO_12.out).2.1); rintro e w157 ⟨rfl, hb⟩; refine ⟨_, rfl, ?_⟩; have n0_ := Aside0.mk (Kd.R_below (by (with_reducible repeat (first | apply Kd.R_alloc | apply Kd.R_drewN | apply Kd.R_drew)); exact HO_7.out) hb); have n1_ := Aside0.mk (Kd.R_below (by (with_reducible repeat (first | apply Kd.R_alloc | apply Kd.R_drewN | apply Kd.R_drew)); exact HO_9.out) hb); have n2_ := Aside0.mk (Kd.R_below (by (with_reducible repeat (first | apply Kd.R_alloc | apply Kd.R_drewN | apply Kd.R_drew)); exact HO_12.out) hb); have n3_ := Aside0.mk (blk_below (g := gb304) (o := .cells #[.int .i64 a1_0, .int .i64 a1_1, .int .i64 a1_2, .bool a1_3] 24 (0, 0)) (by (with_reducible repeat (first | refine blk_drewN ?_ _ | refine blk_drew ?_ | refine blk_alloc ?_ _)); exact BK304.out) hb); have n4_ := Aside0.mk (below_step (by repeat (first | (with_reducible first | exact HB.out | apply below_alloc | apply pw_below_drewN | apply below_drew1 | refine below_set ?_ GE304.out) | exact HB.out)) hb); clear HO_7; clear HO_9; clear HO_12; clear BK304; clear HB; have HO_7 := n0_; have HO_9 := n1_; have HO_12 := n2_; have BK304 := n3_; have HB := n4_; clear n0_ n1_ n2_ n3_ n4_; (try clear hb); (try clear hb2); (try clear hk); (try clear hi)))
                  go_ret
                  exact ⟨by first | rfl | (simp [errW_none, errW_some] <;> rfl) | (simp [*, errW_none, errW_some] <;> rfl), by repeat (first | (with_reducible first | exact HB.out | apply below_alloc | apply pw_below_drewN | apply below_drew1 | refine below_set ?_ GE304.out) | exact HB.out)⟩
                 ·rw [if_neg c155] at H
                  have c155b0 : (t341 != t332) = false := by simpa using c155
                  (try (have c155b1 : decide (t341 = t332) = true := by simpa using c155))
                  (try (have c155b2 : (t341 == t332) = true := by simpa using c155))
                  clear c155
                  by_cases c158 : t331 = true
                  ·subst c158
                   have H1 : (if (t340 != true) = true then (some false) else (undercroftlaw10_ExtentBlocks.l0 kj131 l0 a2 t308 t311 t312 t314 t319 t320 (wrap64 (x14_2 + 1)) a1_0 a1_1 a1_2 a1_3)) = some r := by rw [if_pos rfl] at H; exact H
                   clear H;have H := H1;clear H1
                   by_cases c159 : (t340 != true) = true
                   ·rw [if_pos c159] at H
                    have c159b0 : (t340 != true) = true := c159
                    (try (have c159b1 : decide (t340 = true) = false := by simpa using c159))
                    (try (have c159b2 : (t340 == true) = false := by simpa using c159))
                    (try (have c159b3 : ¬ (t340 = true) := by simpa using c159))
                    clear c159;obtain rfl := Option.some.inj H
                    obtain ⟨Ao160, co160, eo160⟩ := Kd.R_slice HO_12.out
                    subst eo160
                    go_wp2_with (first | ((with_reducible refine gate_callee (f := 21) rfl ?_); refine goesL_ (some 208) rfl rfl Try.func21 (by kernel_rfl) rfl #[.slice Ao160 t319.length co160, .int .i64 x14_2] rfl (by (try simp only [List.map_toArray, List.map_cons, List.map_nil]); first | done | rfl | (simp only [List.length_drop, List.length_take]; rfl)) ?_; (with_reducible refine (extent_Find.calls kj131 _ _ t319 x14_2 t339 t340 t341 _ ?side1 ?side2 A153.out).mono ?_); (case side1 => repeat (first | exact (Kd.R_reads' HO_12.out).2.2 | (with_reducible refine Kd.C_alloc ?_ _) | (with_reducible refine Kd.C_drewN ?_ _) | (with_reducible refine Kd.C_drew ?_))); (case side2 => exact (Kd.R_reads' HO_12.out).2.1); rintro e w161 ⟨rfl, hb⟩; refine ⟨_, rfl, ?_⟩; have n0_ := Aside0.mk (Kd.R_below (by (with_reducible repeat (first | apply Kd.R_alloc | apply Kd.R_drewN | apply Kd.R_drew)); exact HO_7.out) hb); have n1_ := Aside0.mk (Kd.R_below (by (with_reducible repeat (first | apply Kd.R_alloc | apply Kd.R_drewN | apply Kd.R_drew)); exact HO_9.out) hb); have n2_ := Aside0.mk (Kd.R_below (by (with_reducible repeat (first | apply Kd.R_alloc | apply Kd.R_drewN | apply Kd.R_drew)); exact HO_12.out) hb); have n3_ := Aside0.mk (blk_below (g := gb304) (o := .cells #[.int .i64 a1_0, .int .i64 a1_1, .int .i64 a1_2, .bool a1_3] 24 (0, 0)) (by (with_reducible repeat (first | refine blk_drewN ?_ _ | refine blk_drew ?_ | refine blk_alloc ?_ _)); exact BK304.out) hb); have n4_ := Aside0.mk (below_step (by repeat (first | (with_reducible first | exact HB.out | apply below_alloc | apply pw_below_drewN | apply below_drew1 | refine below_set ?_ GE304.out) | exact HB.out)) hb); clear HO_7; clear HO_9; clear HO_12; clear BK304; clear HB; have HO_7 := n0_; have HO_9 := n1_; have HO_12 := n2_; have BK304 := n3_; have HB := n4_; clear n0_ n1_ n2_ n3_ n4_; (try clear hb); (try clear hb2); (try clear hk); (try clear hi)))
                    go_ret
                    exact ⟨by first | rfl | (simp [errW_none, errW_some] <;> rfl) | (simp [*, errW_none, errW_some] <;> rfl), by repeat (first | (with_reducible first | exact HB.out | apply below_alloc | apply pw_below_drewN | apply below_drew1 | refine below_set ?_ GE304.out) | exact HB.out)⟩
                   ·rw [if_neg c159] at H
                    have c159b0 : (t340 != true) = false := by simpa using c159
                    (try (have c159b1 : decide (t340 = true) = true := by simpa using c159))
                    (try (have c159b2 : (t340 == true) = true := by simpa using c159))
                    clear c159
                    have H' := Aside0.mk H
                    clear H
                    obtain ⟨Ao162, co162, eo162⟩ := Kd.R_slice HO_12.out
                    subst eo162
                    go_wp2_with (first | ((with_reducible refine gate_callee (f := 21) rfl ?_); refine goesL_ (some 208) rfl rfl Try.func21 (by kernel_rfl) rfl #[.slice Ao162 t319.length co162, .int .i64 x14_2] rfl (by (try simp only [List.map_toArray, List.map_cons, List.map_nil]); first | done | rfl | (simp only [List.length_drop, List.length_take]; rfl)) ?_; (with_reducible refine (extent_Find.calls kj131 _ _ t319 x14_2 t339 t340 t341 _ ?side1 ?side2 A153.out).mono ?_); (case side1 => repeat (first | exact (Kd.R_reads' HO_12.out).2.2 | (with_reducible refine Kd.C_alloc ?_ _) | (with_reducible refine Kd.C_drewN ?_ _) | (with_reducible refine Kd.C_drew ?_))); (case side2 => exact (Kd.R_reads' HO_12.out).2.1); rintro e w163 ⟨rfl, hb⟩; refine ⟨_, rfl, ?_⟩; have n0_ := Aside0.mk (Kd.R_below (by (with_reducible repeat (first | apply Kd.R_alloc | apply Kd.R_drewN | apply Kd.R_drew)); exact HO_7.out) hb); have n1_ := Aside0.mk (Kd.R_below (by (with_reducible repeat (first | apply Kd.R_alloc | apply Kd.R_drewN | apply Kd.R_drew)); exact HO_9.out) hb); have n2_ := Aside0.mk (Kd.R_below (by (with_reducible repeat (first | apply Kd.R_alloc | apply Kd.R_drewN | apply Kd.R_drew)); exact HO_12.out) hb); have n3_ := Aside0.mk (blk_below (g := gb304) (o := .cells #[.int .i64 a1_0, .int .i64 a1_1, .int .i64 a1_2, .bool a1_3] 24 (0, 0)) (by (with_reducible repeat (first | refine blk_drewN ?_ _ | refine blk_drew ?_ | refine blk_alloc ?_ _)); exact BK304.out) hb); have n4_ := Aside0.mk (below_step (by repeat (first | (with_reducible first | exact HB.out | apply below_alloc | apply pw_below_drewN | apply below_drew1 | refine below_set ?_ GE304.out) | exact HB.out)) hb); clear HO_7; clear HO_9; clear HO_12; clear BK304; clear HB; have HO_7 := n0_; have HO_9 := n1_; have HO_12 := n2_; have BK304 := n3_; have HB := n4_; clear n0_ n1_ n2_ n3_ n4_; (try clear hb); (try clear hb2); (try clear hk); (try clear hi)))
                    go_roundg kj131
                    case measure => have := HJ10.out; have := HK2.out; have := HJ72.out; have := HJ77.out; have := HJ131.out; omega
                    case rel => exact ⟨(wrap64 (x14_2 + 1)), (by first | rfl | (simp; done) | (simp [*]; done)), H', ⟨by have := HJ10.out; have := HK2.out; have := HJ72.out; have := HJ77.out; have := HJ131.out; omega⟩, ⟨by (with_reducible repeat (first | apply Kd.R_alloc | apply Kd.R_drewN | apply Kd.R_drew)); exact HO_7.out⟩, ⟨by (with_reducible repeat (first | apply Kd.R_alloc | apply Kd.R_drewN | apply Kd.R_drew)); exact HO_9.out⟩, ⟨by (with_reducible repeat (first | apply Kd.R_alloc | apply Kd.R_drewN | apply Kd.R_drew)); exact HO_12.out⟩, ⟨by (with_reducible repeat (first | refine blk_drewN ?_ _ | refine blk_drew ?_ | refine blk_alloc ?_ _)); exact BK304.out⟩, ⟨by repeat (first | (with_reducible first | exact HB.out | apply below_alloc | apply pw_below_drewN | apply below_drew1 | refine below_set ?_ GE304.out) | exact HB.out)⟩⟩
                  ·replace c158 := Bool.eq_false_iff.mpr c158
                   subst c158
                   have H1 : (if x18_72 = true then (if (t340 != t332) = true then (some false) else (undercroftlaw10_ExtentBlocks.l0 kj131 l0 a2 t308 t311 t312 t314 t319 t320 (wrap64 (x14_2 + 1)) a1_0 a1_1 a1_2 a1_3)) else (if (t340 != false) = true then (some false) else (undercroftlaw10_ExtentBlocks.l0 kj131 l0 a2 t308 t311 t312 t314 t319 t320 (wrap64 (x14_2 + 1)) a1_0 a1_1 a1_2 a1_3))) = some r := by rw [if_neg (show ¬ (false = true) by decide)] at H; exact H
                   clear H;have H := H1;clear H1
                   by_cases c164 : x18_72 = true
                   ·subst c164
                    have H1 : (if (t340 != t332) = true then (some false) else (undercroftlaw10_ExtentBlocks.l0 kj131 l0 a2 t308 t311 t312 t314 t319 t320 (wrap64 (x14_2 + 1)) a1_0 a1_1 a1_2 a1_3)) = some r := by rw [if_pos rfl] at H; exact H
                    clear H;have H := H1;clear H1
                    by_cases c165 : (t340 != t332) = true
                    ·rw [if_pos c165] at H
                     have c165b0 : (t340 != t332) = true := c165
                     (try (have c165b1 : decide (t340 = t332) = false := by simpa using c165))
                     (try (have c165b2 : (t340 == t332) = false := by simpa using c165))
                     (try (have c165b3 : ¬ (t340 = t332) := by simpa using c165))
                     clear c165;obtain rfl := Option.some.inj H
                     obtain ⟨Ao166, co166, eo166⟩ := Kd.R_slice HO_12.out
                     subst eo166
                     go_wp2_with (first | ((with_reducible refine gate_callee (f := 21) rfl ?_); refine goesL_ (some 208) rfl rfl Try.func21 (by kernel_rfl) rfl #[.slice Ao166 t319.length co166, .int .i64 x14_2] rfl (by (try simp only [List.map_toArray, List.map_cons, List.map_nil]); first | done | rfl | (simp only [List.length_drop, List.length_take]; rfl)) ?_; (with_reducible refine (extent_Find.calls kj131 _ _ t319 x14_2 t339 t340 t341 _ ?side1 ?side2 A153.out).mono ?_); (case side1 => repeat (first | exact (Kd.R_reads' HO_12.out).2.2 | (with_reducible refine Kd.C_alloc ?_ _) | (with_reducible refine Kd.C_drewN ?_ _) | (with_reducible refine Kd.C_drew ?_))); (case side2 => exact (Kd.R_reads' HO_12.out).2.1); rintro e w167 ⟨rfl, hb⟩; refine ⟨_, rfl, ?_⟩; have n0_ := Aside0.mk (Kd.R_below (by (with_reducible repeat (first | apply Kd.R_alloc | apply Kd.R_drewN | apply Kd.R_drew)); exact HO_7.out) hb); have n1_ := Aside0.mk (Kd.R_below (by (with_reducible repeat (first | apply Kd.R_alloc | apply Kd.R_drewN | apply Kd.R_drew)); exact HO_9.out) hb); have n2_ := Aside0.mk (Kd.R_below (by (with_reducible repeat (first | apply Kd.R_alloc | apply Kd.R_drewN | apply Kd.R_drew)); exact HO_12.out) hb); have n3_ := Aside0.mk (blk_below (g := gb304) (o := .cells #[.int .i64 a1_0, .int .i64 a1_1, .int .i64 a1_2, .bool a1_3] 24 (0, 0)) (by (with_reducible repeat (first | refine blk_drewN ?_ _ | refine blk_drew ?_ | refine blk_alloc ?_ _)); exact BK304.out) hb); have n4_ := Aside0.mk (below_step (by repeat (first | (with_reducible first | exact HB.out | apply below_alloc | apply pw_below_drewN | apply below_drew1 | refine below_set ?_ GE304.out) | exact HB.out)) hb); clear HO_7; clear HO_9; clear HO_12; clear BK304; clear HB; have HO_7 := n0_; have HO_9 := n1_; have HO_12 := n2_; have BK304 := n3_; have HB := n4_; clear n0_ n1_ n2_ n3_ n4_; (try clear hb); (try clear hb2); (try clear hk); (try clear hi)))
                     go_ret
                     exact ⟨by first | rfl | (simp [errW_none, errW_some] <;> rfl) | (simp [*, errW_none, errW_some] <;> rfl), by repeat (first | (with_reducible first | exact HB.out | apply below_alloc | apply pw_below_drewN | apply below_drew1 | refine below_set ?_ GE304.out) | exact HB.out)⟩
                    ·rw [if_neg c165] at H
                     have c165b0 : (t340 != t332) = false := by simpa using c165
                     (try (have c165b1 : decide (t340 = t332) = true := by simpa using c165))
                     (try (have c165b2 : (t340 == t332) = true := by simpa using c165))
                     clear c165
                     have H' := Aside0.mk H
                     clear H
                     obtain ⟨Ao168, co168, eo168⟩ := Kd.R_slice HO_12.out
                     subst eo168
                     go_wp2_with (first | ((with_reducible refine gate_callee (f := 21) rfl ?_); refine goesL_ (some 208) rfl rfl Try.func21 (by kernel_rfl) rfl #[.slice Ao168 t319.length co168, .int .i64 x14_2] rfl (by (try simp only [List.map_toArray, List.map_cons, List.map_nil]); first | done | rfl | (simp only [List.length_drop, List.length_take]; rfl)) ?_; (with_reducible refine (extent_Find.calls kj131 _ _ t319 x14_2 t339 t340 t341 _ ?side1 ?side2 A153.out).mono ?_); (case side1 => repeat (first | exact (Kd.R_reads' HO_12.out).2.2 | (with_reducible refine Kd.C_alloc ?_ _) | (with_reducible refine Kd.C_drewN ?_ _) | (with_reducible refine Kd.C_drew ?_))); (case side2 => exact (Kd.R_reads' HO_12.out).2.1); rintro e w169 ⟨rfl, hb⟩; refine ⟨_, rfl, ?_⟩; have n0_ := Aside0.mk (Kd.R_below (by (with_reducible repeat (first | apply Kd.R_alloc | apply Kd.R_drewN | apply Kd.R_drew)); exact HO_7.out) hb); have n1_ := Aside0.mk (Kd.R_below (by (with_reducible repeat (first | apply Kd.R_alloc | apply Kd.R_drewN | apply Kd.R_drew)); exact HO_9.out) hb); have n2_ := Aside0.mk (Kd.R_below (by (with_reducible repeat (first | apply Kd.R_alloc | apply Kd.R_drewN | apply Kd.R_drew)); exact HO_12.out) hb); have n3_ := Aside0.mk (blk_below (g := gb304) (o := .cells #[.int .i64 a1_0, .int .i64 a1_1, .int .i64 a1_2, .bool a1_3] 24 (0, 0)) (by (with_reducible repeat (first | refine blk_drewN ?_ _ | refine blk_drew ?_ | refine blk_alloc ?_ _)); exact BK304.out) hb); have n4_ := Aside0.mk (below_step (by repeat (first | (with_reducible first | exact HB.out | apply below_alloc | apply pw_below_drewN | apply below_drew1 | refine below_set ?_ GE304.out) | exact HB.out)) hb); clear HO_7; clear HO_9; clear HO_12; clear BK304; clear HB; have HO_7 := n0_; have HO_9 := n1_; have HO_12 := n2_; have BK304 := n3_; have HB := n4_; clear n0_ n1_ n2_ n3_ n4_; (try clear hb); (try clear hb2); (try clear hk); (try clear hi)))
                     go_roundg kj131
                     case measure => have := HJ10.out; have := HK2.out; have := HJ72.out; have := HJ77.out; have := HJ131.out; omega
                     case rel => exact ⟨(wrap64 (x14_2 + 1)), (by first | rfl | (simp; done) | (simp [*]; done)), H', ⟨by have := HJ10.out; have := HK2.out; have := HJ72.out; have := HJ77.out; have := HJ131.out; omega⟩, ⟨by (with_reducible repeat (first | apply Kd.R_alloc | apply Kd.R_drewN | apply Kd.R_drew)); exact HO_7.out⟩, ⟨by (with_reducible repeat (first | apply Kd.R_alloc | apply Kd.R_drewN | apply Kd.R_drew)); exact HO_9.out⟩, ⟨by (with_reducible repeat (first | apply Kd.R_alloc | apply Kd.R_drewN | apply Kd.R_drew)); exact HO_12.out⟩, ⟨by (with_reducible repeat (first | refine blk_drewN ?_ _ | refine blk_drew ?_ | refine blk_alloc ?_ _)); exact BK304.out⟩, ⟨by repeat (first | (with_reducible first | exact HB.out | apply below_alloc | apply pw_below_drewN | apply below_drew1 | refine below_set ?_ GE304.out) | exact HB.out)⟩⟩
                   ·replace c164 := Bool.eq_false_iff.mpr c164
                    subst c164
                    have H1 : (if (t340 != false) = true then (some false) else (undercroftlaw10_ExtentBlocks.l0 kj131 l0 a2 t308 t311 t312 t314 t319 t320 (wrap64 (x14_2 + 1)) a1_0 a1_1 a1_2 a1_3)) = some r := by rw [if_neg (show ¬ (false = true) by decide)] at H; exact H
                    clear H;have H := H1;clear H1
                    by_cases c170 : (t340 != false) = true
                    ·rw [if_pos c170] at H
                     have c170b0 : (t340 != false) = true := c170
                     (try (have c170b1 : decide (t340 = false) = false := by simpa using c170))
                     (try (have c170b2 : (t340 == false) = false := by simpa using c170))
                     (try (have c170b3 : ¬ (t340 = false) := by simpa using c170))
                     clear c170;obtain rfl := Option.some.inj H
                     obtain ⟨Ao171, co171, eo171⟩ := Kd.R_slice HO_12.out
                     subst eo171
                     go_wp2_with (first | ((with_reducible refine gate_callee (f := 21) rfl ?_); refine goesL_ (some 208) rfl rfl Try.func21 (by kernel_rfl) rfl #[.slice Ao171 t319.length co171, .int .i64 x14_2] rfl (by (try simp only [List.map_toArray, List.map_cons, List.map_nil]); first | done | rfl | (simp only [List.length_drop, List.length_take]; rfl)) ?_; (with_reducible refine (extent_Find.calls kj131 _ _ t319 x14_2 t339 t340 t341 _ ?side1 ?side2 A153.out).mono ?_); (case side1 => repeat (first | exact (Kd.R_reads' HO_12.out).2.2 | (with_reducible refine Kd.C_alloc ?_ _) | (with_reducible refine Kd.C_drewN ?_ _) | (with_reducible refine Kd.C_drew ?_))); (case side2 => exact (Kd.R_reads' HO_12.out).2.1); rintro e w172 ⟨rfl, hb⟩; refine ⟨_, rfl, ?_⟩; have n0_ := Aside0.mk (Kd.R_below (by (with_reducible repeat (first | apply Kd.R_alloc | apply Kd.R_drewN | apply Kd.R_drew)); exact HO_7.out) hb); have n1_ := Aside0.mk (Kd.R_below (by (with_reducible repeat (first | apply Kd.R_alloc | apply Kd.R_drewN | apply Kd.R_drew)); exact HO_9.out) hb); have n2_ := Aside0.mk (Kd.R_below (by (with_reducible repeat (first | apply Kd.R_alloc | apply Kd.R_drewN | apply Kd.R_drew)); exact HO_12.out) hb); have n3_ := Aside0.mk (blk_below (g := gb304) (o := .cells #[.int .i64 a1_0, .int .i64 a1_1, .int .i64 a1_2, .bool a1_3] 24 (0, 0)) (by (with_reducible repeat (first | refine blk_drewN ?_ _ | refine blk_drew ?_ | refine blk_alloc ?_ _)); exact BK304.out) hb); have n4_ := Aside0.mk (below_step (by repeat (first | (with_reducible first | exact HB.out | apply below_alloc | apply pw_below_drewN | apply below_drew1 | refine below_set ?_ GE304.out) | exact HB.out)) hb); clear HO_7; clear HO_9; clear HO_12; clear BK304; clear HB; have HO_7 := n0_; have HO_9 := n1_; have HO_12 := n2_; have BK304 := n3_; have HB := n4_; clear n0_ n1_ n2_ n3_ n4_; (try clear hb); (try clear hb2); (try clear hk); (try clear hi)))
                     go_ret
                     exact ⟨by first | rfl | (simp [errW_none, errW_some] <;> rfl) | (simp [*, errW_none, errW_some] <;> rfl), by repeat (first | (with_reducible first | exact HB.out | apply below_alloc | apply pw_below_drewN | apply below_drew1 | refine below_set ?_ GE304.out) | exact HB.out)⟩
                    ·rw [if_neg c170] at H
                     have c170b0 : (t340 != false) = false := by simpa using c170
                     (try (have c170b1 : decide (t340 = false) = true := by simpa using c170))
                     (try (have c170b2 : (t340 == false) = true := by simpa using c170))
                     clear c170
                     have H' := Aside0.mk H
                     clear H
                     obtain ⟨Ao173, co173, eo173⟩ := Kd.R_slice HO_12.out
                     subst eo173
                     go_wp2_with (first | ((with_reducible refine gate_callee (f := 21) rfl ?_); refine goesL_ (some 208) rfl rfl Try.func21 (by kernel_rfl) rfl #[.slice Ao173 t319.length co173, .int .i64 x14_2] rfl (by (try simp only [List.map_toArray, List.map_cons, List.map_nil]); first | done | rfl | (simp only [List.length_drop, List.length_take]; rfl)) ?_; (with_reducible refine (extent_Find.calls kj131 _ _ t319 x14_2 t339 t340 t341 _ ?side1 ?side2 A153.out).mono ?_); (case side1 => repeat (first | exact (Kd.R_reads' HO_12.out).2.2 | (with_reducible refine Kd.C_alloc ?_ _) | (with_reducible refine Kd.C_drewN ?_ _) | (with_reducible refine Kd.C_drew ?_))); (case side2 => exact (Kd.R_reads' HO_12.out).2.1); rintro e w174 ⟨rfl, hb⟩; refine ⟨_, rfl, ?_⟩; have n0_ := Aside0.mk (Kd.R_below (by (with_reducible repeat (first | apply Kd.R_alloc | apply Kd.R_drewN | apply Kd.R_drew)); exact HO_7.out) hb); have n1_ := Aside0.mk (Kd.R_below (by (with_reducible repeat (first | apply Kd.R_alloc | apply Kd.R_drewN | apply Kd.R_drew)); exact HO_9.out) hb); have n2_ := Aside0.mk (Kd.R_below (by (with_reducible repeat (first | apply Kd.R_alloc | apply Kd.R_drewN | apply Kd.R_drew)); exact HO_12.out) hb); have n3_ := Aside0.mk (blk_below (g := gb304) (o := .cells #[.int .i64 a1_0, .int .i64 a1_1, .int .i64 a1_2, .bool a1_3] 24 (0, 0)) (by (with_reducible repeat (first | refine blk_drewN ?_ _ | refine blk_drew ?_ | refine blk_alloc ?_ _)); exact BK304.out) hb); have n4_ := Aside0.mk (below_step (by repeat (first | (with_reducible first | exact HB.out | apply below_alloc | apply pw_below_drewN | apply below_drew1 | refine below_set ?_ GE304.out) | exact HB.out)) hb); clear HO_7; clear HO_9; clear HO_12; clear BK304; clear HB; have HO_7 := n0_; have HO_9 := n1_; have HO_12 := n2_; have BK304 := n3_; have HB := n4_; clear n0_ n1_ n2_ n3_ n4_; (try clear hb); (try clear hb2); (try clear hk); (try clear hi)))
                     go_roundg kj131
                     case measure => have := HJ10.out; have := HK2.out; have := HJ72.out; have := HJ77.out; have := HJ131.out; omega
                     case rel => exact ⟨(wrap64 (x14_2 + 1)), (by first | rfl | (simp; done) | (simp [*]; done)), H', ⟨by have := HJ10.out; have := HK2.out; have := HJ72.out; have := HJ77.out; have := HJ131.out; omega⟩, ⟨by (with_reducible repeat (first | apply Kd.R_alloc | apply Kd.R_drewN | apply Kd.R_drew)); exact HO_7.out⟩, ⟨by (with_reducible repeat (first | apply Kd.R_alloc | apply Kd.R_drewN | apply Kd.R_drew)); exact HO_9.out⟩, ⟨by (with_reducible repeat (first | apply Kd.R_alloc | apply Kd.R_drewN | apply Kd.R_drew)); exact HO_12.out⟩, ⟨by (with_reducible repeat (first | refine blk_drewN ?_ _ | refine blk_drew ?_ | refine blk_alloc ?_ _)); exact BK304.out⟩, ⟨by repeat (first | (with_reducible first | exact HB.out | apply below_alloc | apply pw_below_drewN | apply below_drew1 | refine below_set ?_ GE304.out) | exact HB.out)⟩⟩
                ·rw [if_neg c154] at H
                 have c154b0 : (t339 == t330) = false := beq_eq_false_iff_ne.mpr c154
                 have c154b1 : (t339 != t330) = true := bne_iff_ne.mpr c154
                 obtain rfl := Option.some.inj H
                 obtain ⟨Ao175, co175, eo175⟩ := Kd.R_slice HO_12.out
                 subst eo175
                 go_wp2_with (first | ((with_reducible refine gate_callee (f := 21) rfl ?_); refine goesL_ (some 208) rfl rfl Try.func21 (by kernel_rfl) rfl #[.slice Ao175 t319.length co175, .int .i64 x14_2] rfl (by (try simp only [List.map_toArray, List.map_cons, List.map_nil]); first | done | rfl | (simp only [List.length_drop, List.length_take]; rfl)) ?_; (with_reducible refine (extent_Find.calls kj131 _ _ t319 x14_2 t339 t340 t341 _ ?side1 ?side2 A153.out).mono ?_); (case side1 => repeat (first | exact (Kd.R_reads' HO_12.out).2.2 | (with_reducible refine Kd.C_alloc ?_ _) | (with_reducible refine Kd.C_drewN ?_ _) | (with_reducible refine Kd.C_drew ?_))); (case side2 => exact (Kd.R_reads' HO_12.out).2.1); rintro e w176 ⟨rfl, hb⟩; refine ⟨_, rfl, ?_⟩; have n0_ := Aside0.mk (Kd.R_below (by (with_reducible repeat (first | apply Kd.R_alloc | apply Kd.R_drewN | apply Kd.R_drew)); exact HO_7.out) hb); have n1_ := Aside0.mk (Kd.R_below (by (with_reducible repeat (first | apply Kd.R_alloc | apply Kd.R_drewN | apply Kd.R_drew)); exact HO_9.out) hb); have n2_ := Aside0.mk (Kd.R_below (by (with_reducible repeat (first | apply Kd.R_alloc | apply Kd.R_drewN | apply Kd.R_drew)); exact HO_12.out) hb); have n3_ := Aside0.mk (blk_below (g := gb304) (o := .cells #[.int .i64 a1_0, .int .i64 a1_1, .int .i64 a1_2, .bool a1_3] 24 (0, 0)) (by (with_reducible repeat (first | refine blk_drewN ?_ _ | refine blk_drew ?_ | refine blk_alloc ?_ _)); exact BK304.out) hb); have n4_ := Aside0.mk (below_step (by repeat (first | (with_reducible first | exact HB.out | apply below_alloc | apply pw_below_drewN | apply below_drew1 | refine below_set ?_ GE304.out) | exact HB.out)) hb); clear HO_7; clear HO_9; clear HO_12; clear BK304; clear HB; have HO_7 := n0_; have HO_9 := n1_; have HO_12 := n2_; have BK304 := n3_; have HB := n4_; clear n0_ n1_ n2_ n3_ n4_; (try clear hb); (try clear hb2); (try clear hk); (try clear hi)))
                 go_ret
                 exact ⟨by first | rfl | (simp [errW_none, errW_some] <;> rfl) | (simp [*, errW_none, errW_some] <;> rfl), by repeat (first | (with_reducible first | exact HB.out | apply below_alloc | apply pw_below_drewN | apply below_drew1 | refine below_set ?_ GE304.out) | exact HB.out)⟩
               ·as_aux_lemma =>
                rw [if_neg c152] at H
                have c152b0 : (t320 == 0) = false := beq_eq_false_iff_ne.mpr c152
                have c152b1 : (t320 != 0) = true := bne_iff_ne.mpr c152
                have H' := Aside0.mk H
                clear H;go_wp2
                go_roundg kj131
                case measure => have := HJ10.out; have := HK2.out; have := HJ72.out; have := HJ77.out; have := HJ131.out; omega
                case rel => exact ⟨(wrap64 (x14_2 + 1)), (by first | rfl | (simp; done) | (simp [*]; done)), H', ⟨by have := HJ10.out; have := HK2.out; have := HJ72.out; have := HJ77.out; have := HJ131.out; omega⟩, ⟨by (with_reducible repeat (first | apply Kd.R_alloc | apply Kd.R_drewN | apply Kd.R_drew)); exact HO_7.out⟩, ⟨by (with_reducible repeat (first | apply Kd.R_alloc | apply Kd.R_drewN | apply Kd.R_drew)); exact HO_9.out⟩, ⟨by (with_reducible repeat (first | apply Kd.R_alloc | apply Kd.R_drewN | apply Kd.R_drew)); exact HO_12.out⟩, ⟨by (with_reducible repeat (first | refine blk_drewN ?_ _ | refine blk_drew ?_ | refine blk_alloc ?_ _)); exact BK304.out⟩, ⟨by repeat (first | (with_reducible first | exact HB.out | apply below_alloc | apply pw_below_drewN | apply below_drew1 | refine below_set ?_ GE304.out) | exact HB.out)⟩⟩
        ·rw [if_neg c71] at H
         have c71b0 : decide (x14_2 ≤ 256) = false := decide_eq_false c71
         clear c71;obtain rfl := Option.some.inj H;go_wp2;go_ret
         exact ⟨by first | rfl | (simp [errW_none, errW_some] <;> rfl) | (simp [*, errW_none, errW_some] <;> rfl), by repeat (first | (with_reducible first | exact HB.out | apply below_alloc | apply pw_below_drewN | apply below_drew1 | refine below_set ?_ GE304.out) | exact HB.out)⟩
  ·as_aux_lemma =>
   rw [if_neg c7] at H
   have c7b0 : (t306 == 0) = false := beq_eq_false_iff_ne.mpr c7
   have c7b1 : (t306 != 0) = true := bne_iff_ne.mpr c7
   replace H := Option.bind_eq_some_iff.mp H
   obtain ⟨t307, A1770, H⟩ := H
   replace H : (some (t307 == (-1))) = some r := H
   have A177 := Aside0.mk A1770
   clear A1770;obtain rfl := Option.some.inj H
   go_enter Try.func8, Try.ntmps8
   go_wp2_with (first | ((with_reducible refine gate_dst (N := 4) rfl ?_); refine box_event ?hg (N := 4) ?hd (cs := #[.int .i64 a1_0, .int .i64 a1_1, .int .i64 a1_2, .bool a1_3]) (t := 24) ?hr ?_; (case hd => rfl); (case hg => rfl); (case hr => first | (go_simp; done) | (go_simp; rfl)); intro gb304 hg w178 hbox hb; have n0_ := Aside0.mk (below_step (by repeat (first | (with_reducible first | exact HB.out | apply below_alloc | apply pw_below_drewN | apply below_drew1) | exact HB.out)) hb); have n1_ := Aside0.mk (hbox); have n2_ := Aside0.mk ((by rw [hg]; exact (below_size (by repeat (first | (with_reducible first | exact HB.out | apply below_alloc | apply pw_below_drewN | apply below_drew1) | exact HB.out))) : w.heap.size ≤ gb304)); have n3_ := Aside0.mk ((by rw [hg]; exact (below_size (by repeat (first | (with_reducible first | exact HB.out | apply below_alloc | apply pw_below_drewN | apply below_drew1) | exact HB.out))) : w.heap.size ≤ gb304)); clear HB; have HB := n0_; have BK304 := n1_; have GW304 := n2_; have GE304 := n3_; clear n0_ n1_ n2_ n3_; clear hb hbox hg) | ((with_reducible refine gate_callee (f := 11) rfl ?_); refine goesL_ (some 29) rfl rfl Try.func11 (by kernel_rfl) rfl #[] rfl (by (try simp only [List.map_toArray, List.map_cons, List.map_nil]); first | done | rfl | (simp only [List.length_drop, List.length_take]; rfl)) ?_; (with_reducible refine (undercroftlaw10_alive.calls k  true _ A4.out).mono ?_); rintro e w179 ⟨rfl, hb⟩; refine ⟨_, rfl, ?_⟩; have n0_ := Aside0.mk (blk_below (g := gb304) (o := .cells #[.int .i64 a1_0, .int .i64 a1_1, .int .i64 a1_2, .bool a1_3] 24 (0, 0)) (by (with_reducible repeat (first | refine blk_drewN ?_ _ | refine blk_drew ?_ | refine blk_alloc ?_ _)); exact BK304.out) hb); have n1_ := Aside0.mk (below_step (by repeat (first | (with_reducible first | exact HB.out | apply below_alloc | apply pw_below_drewN | apply below_drew1 | refine below_set ?_ GE304.out) | exact HB.out)) hb); clear BK304; clear HB; have BK304 := n0_; have HB := n1_; clear n0_ n1_; (try clear hb); (try clear hb2); (try clear hk); (try clear hi)) | ((with_reducible refine gate_callee (f := 12) rfl ?_); refine goesL_ (some 32) rfl rfl Try.func12 (by kernel_rfl) rfl #[.slice A0 l0.length c0] rfl (by (try simp only [List.map_toArray, List.map_cons, List.map_nil]); first | done | rfl | (simp only [List.length_drop, List.length_take]; rfl)) ?_; (with_reducible refine (extent_Check.calls k _ _ l0 t306 _ ?side1 ?side2 A6.out).mono ?_); (case side1 => repeat (first | exact (Kd.C_below HR0.out HB.out) | (with_reducible refine Kd.C_alloc ?_ _) | (with_reducible refine Kd.C_drewN ?_ _) | (with_reducible refine Kd.C_drew ?_))); (case side2 => exact HC0.out); rintro e w180 ⟨rfl, hb⟩; refine ⟨_, rfl, ?_⟩; have n0_ := Aside0.mk (blk_below (g := gb304) (o := .cells #[.int .i64 a1_0, .int .i64 a1_1, .int .i64 a1_2, .bool a1_3] 24 (0, 0)) (by (with_reducible repeat (first | refine blk_drewN ?_ _ | refine blk_drew ?_ | refine blk_alloc ?_ _)); exact BK304.out) hb); have n1_ := Aside0.mk (below_step (by repeat (first | (with_reducible first | exact HB.out | apply below_alloc | apply pw_below_drewN | apply below_drew1 | refine below_set ?_ GE304.out) | exact HB.out)) hb); clear BK304; clear HB; have BK304 := n0_; have HB := n1_; clear n0_ n1_; (try clear hb); (try clear hb2); (try clear hk); (try clear hi)) | ((with_reducible refine gate_callee (f := 19) rfl ?_); refine goesL_ (some 35) rfl rfl Try.func19 (by kernel_rfl) rfl #[.slice A0 l0.length c0] rfl (by (try simp only [List.map_toArray, List.map_cons, List.map_nil]); first | done | rfl | (simp only [List.length_drop, List.length_take]; rfl)) ?_; (with_reducible refine (extent_Need.calls k _ _ l0 t307 _ ?side1 ?side2 A177.out).mono ?_); (case side1 => repeat (first | exact (Kd.C_below HR0.out HB.out) | (with_reducible refine Kd.C_alloc ?_ _) | (with_reducible refine Kd.C_drewN ?_ _) | (with_reducible refine Kd.C_drew ?_))); (case side2 => exact HC0.out); rintro e w181 ⟨rfl, hb⟩; refine ⟨_, rfl, ?_⟩; have n0_ := Aside0.mk (blk_below (g := gb304) (o := .cells #[.int .i64 a1_0, .int .i64 a1_1, .int .i64 a1_2, .bool a1_3] 24 (0, 0)) (by (with_reducible repeat (first | refine blk_drewN ?_ _ | refine blk_drew ?_ | refine blk_alloc ?_ _)); exact BK304.out) hb); have n1_ := Aside0.mk (below_step (by repeat (first | (with_reducible first | exact HB.out | apply below_alloc | apply pw_below_drewN | apply below_drew1 | refine below_set ?_ GE304.out) | exact HB.out)) hb); clear BK304; clear HB; have BK304 := n0_; have HB := n1_; clear n0_ n1_; (try clear hb); (try clear hb2); (try clear hk); (try clear hi)))
   go_ret
   exact ⟨by first | rfl | (simp [errW_none, errW_some] <;> rfl) | (simp [*, errW_none, errW_some] <;> rfl), by repeat (first | (with_reducible first | exact HB.out | apply below_alloc | apply pw_below_drewN | apply below_drew1 | refine below_set ?_ GE304.out) | exact HB.out)⟩
 ·replace c5 := Bool.eq_false_iff.mpr c5
  subst c5
  have H1 : (some false) = some r := by rw [if_neg (show ¬ (false = true) by decide)] at H; exact H
  clear H;have H := H1;clear H1;obtain rfl := Option.some.inj H
  go_enter Try.func8, Try.ntmps8
  go_wp2_with (first | ((with_reducible refine gate_dst (N := 4) rfl ?_); refine box_event ?hg (N := 4) ?hd (cs := #[.int .i64 a1_0, .int .i64 a1_1, .int .i64 a1_2, .bool a1_3]) (t := 24) ?hr ?_; (case hd => rfl); (case hg => rfl); (case hr => first | (go_simp; done) | (go_simp; rfl)); intro gb304 hg w182 hbox hb; have n0_ := Aside0.mk (below_step (by repeat (first | (with_reducible first | exact HB.out | apply below_alloc | apply pw_below_drewN | apply below_drew1) | exact HB.out)) hb); have n1_ := Aside0.mk (hbox); have n2_ := Aside0.mk ((by rw [hg]; exact (below_size (by repeat (first | (with_reducible first | exact HB.out | apply below_alloc | apply pw_below_drewN | apply below_drew1) | exact HB.out))) : w.heap.size ≤ gb304)); have n3_ := Aside0.mk ((by rw [hg]; exact (below_size (by repeat (first | (with_reducible first | exact HB.out | apply below_alloc | apply pw_below_drewN | apply below_drew1) | exact HB.out))) : w.heap.size ≤ gb304)); clear HB; have HB := n0_; have BK304 := n1_; have GW304 := n2_; have GE304 := n3_; clear n0_ n1_ n2_ n3_; clear hb hbox hg) | ((with_reducible refine gate_callee (f := 11) rfl ?_); refine goesL_ (some 29) rfl rfl Try.func11 (by kernel_rfl) rfl #[] rfl (by (try simp only [List.map_toArray, List.map_cons, List.map_nil]); first | done | rfl | (simp only [List.length_drop, List.length_take]; rfl)) ?_; (with_reducible refine (undercroftlaw10_alive.calls k  false _ A4.out).mono ?_); rintro e w183 ⟨rfl, hb⟩; refine ⟨_, rfl, ?_⟩; have n0_ := Aside0.mk (blk_below (g := gb304) (o := .cells #[.int .i64 a1_0, .int .i64 a1_1, .int .i64 a1_2, .bool a1_3] 24 (0, 0)) (by (with_reducible repeat (first | refine blk_drewN ?_ _ | refine blk_drew ?_ | refine blk_alloc ?_ _)); exact BK304.out) hb); have n1_ := Aside0.mk (below_step (by repeat (first | (with_reducible first | exact HB.out | apply below_alloc | apply pw_below_drewN | apply below_drew1 | refine below_set ?_ GE304.out) | exact HB.out)) hb); clear BK304; clear HB; have BK304 := n0_; have HB := n1_; clear n0_ n1_; (try clear hb); (try clear hb2); (try clear hk); (try clear hi)))
  go_ret
  exact ⟨by first | rfl | (simp [errW_none, errW_some] <;> rfl) | (simp [*, errW_none, errW_some] <;> rfl), by repeat (first | (with_reducible first | exact HB.out | apply below_alloc | apply pw_below_drewN | apply below_drew1 | refine below_set ?_ GE304.out) | exact HB.out)⟩
end Go.Proofs.Ytopmjjnkolfciaa.Pr
end
section
namespace Go.Proofs.Ytopmjjnkolfciaa.Pr
open Go.RowKit Go.Proofs.YtopmjjnkolfciaaW.PrintWords Go.Proofs.YtopmjjnkolfciaaW.PrintLast Go.Proofs.YtopmjjnkolfciaaW.PrintMore
set_option linter.unusedVariables false
set_option linter.unusedSimpArgs false
def inB (e : EX) (tq y : Int) : Bool := if y ≥ e.f0 then decide (y < tq) else false
structure BlkOK (l a b c : List EX) (f g h : Int) (e : EX) (tq y : Int) : Prop where
  put : f = 0 → (e.f0 ≤ y → y < wrap64 (e.f0 + e.f2) → (findX l y).2.2 = false ∧ findX a y = (wrap64 (wrap64 (e.f1 + y) - e.f0), !e.f3, true)) ∧ (¬ (e.f0 ≤ y ∧ y < wrap64 (e.f0 + e.f2)) → findX a y = findX l y)
  cut : g = 0 → (inB e tq y = true → (findX b y).2.2 = false) ∧ (inB e tq y = false → findX b y = findX l y)
  mark : h = 0 → findX c y = ((findX l y).1, (findX l y).2.1 || (inB e tq y && (findX l y).2.2), (findX l y).2.2)
theorem blocks_j4 {l a b c : List EX} {f g h : Int} {e : EX} {tq y : Int} (H : BlkOK l a b c f g h e tq y) (x : Int) (w s : Bool) (hf : findX l y = (x, w, s)) (hy : -1 ≤ y) (hy2 : y ≤ 256)
    (next : Ev (fun k => undercroftlaw10_ExtentBlocks.l0 k l tq a f b g c h (y + 1) e.f0 e.f1 e.f2 e.f3) true) :
    Ev (fun k => undercroftlaw10_ExtentBlocks.j4 k l tq a f b g c h y x w s (inB e tq y) e.f0 e.f1 e.f2 e.f3) true := by
  have hw : wrap64 (y + 1) = y + 1 := w64 (by omega) (by omega)
  refine Ev.succ ?_
  by_cases h0 : h = 0
  · simp only [undercroftlaw10_ExtentBlocks.j4, if_pos h0, hw]
    refine Ev.bind (find_ev c y) ?_
    rw [H.mark h0, hf]
    simp only [if_true, bne_self_eq_false, Bool.false_eq_true, if_false]
    cases w
    · cases hin : inB e tq y
      · simpa using next
      · simpa using next
    · simpa using next
  · simp only [undercroftlaw10_ExtentBlocks.j4, if_neg h0, hw]
    exact next
theorem blocks_j3 {l a b c : List EX} {f g h : Int} {e : EX} {tq y : Int} (H : BlkOK l a b c f g h e tq y) (x : Int) (w s : Bool) (hf : findX l y = (x, w, s)) (hy : -1 ≤ y) (hy2 : y ≤ 256)
    (next : Ev (fun k => undercroftlaw10_ExtentBlocks.l0 k l tq a f b g c h (y + 1) e.f0 e.f1 e.f2 e.f3) true) :
    Ev (fun k => undercroftlaw10_ExtentBlocks.j3 k l tq a f b g c h y x w s (inB e tq y) e.f0 e.f1 e.f2 e.f3) true := by
  have n4 := blocks_j4 H x w s hf hy hy2 next
  refine Ev.succ ?_
  by_cases h0 : g = 0
  · simp only [undercroftlaw10_ExtentBlocks.j3, if_pos h0]
    refine Ev.bind (find_ev b y) ?_
    cases hin : inB e tq y
    · rw [(H.cut h0).2 hin, hf]
      rw [hin] at n4
      simp only [if_true, bne_self_eq_false, Bool.false_eq_true, if_false]
      exact n4
    · rw [(H.cut h0).1 hin]
      rw [hin] at n4
      simp only [if_true, Bool.false_eq_true, if_false]
      exact n4
  · simp only [undercroftlaw10_ExtentBlocks.j3, if_neg h0]
    exact n4
theorem blocks_j2 {l a b c : List EX} {f g h : Int} {e : EX} {tq y : Int} (H : BlkOK l a b c f g h e tq y) (x : Int) (w s : Bool) (hf : findX l y = (x, w, s)) (hy : -1 ≤ y) (hy2 : y ≤ 256)
    (next : Ev (fun k => undercroftlaw10_ExtentBlocks.l0 k l tq a f b g c h (y + 1) e.f0 e.f1 e.f2 e.f3) true) :
    Ev (fun k => undercroftlaw10_ExtentBlocks.j2 k l tq a f b g c h y x w s (inB e tq y) e.f0 e.f1 e.f2 e.f3) true := by
  have n3 := blocks_j3 H x w s hf hy hy2 next
  refine Ev.succ ?_
  by_cases h0 : f = 0
  · simp only [undercroftlaw10_ExtentBlocks.j2, if_pos h0]
    refine Ev.bind (find_ev a y) ?_
    by_cases c1 : y ≥ e.f0
    · by_cases c2 : y < wrap64 (e.f0 + e.f2)
      · obtain ⟨e1, e2⟩ := (H.put h0).1 c1 c2
        rw [hf] at e1
        have e1' : s = false := e1
        rw [e2]
        subst e1'
        have e3 : ((!e.f3) == e.f3) = false := by cases e.f3 <;> rfl
        simp only [if_pos c1, if_pos c2, if_true, Bool.false_eq_true, if_false, e3]
        exact n3
      · rw [(H.put h0).2 fun hh => c2 hh.2, hf]
        simp only [if_pos c1, if_neg c2, if_true, bne_self_eq_false, Bool.false_eq_true, if_false]
        exact n3
    · rw [(H.put h0).2 fun hh => c1 hh.1, hf]
      simp only [if_neg c1, if_true, bne_self_eq_false, Bool.false_eq_true, if_false]
      exact n3
  · simp only [undercroftlaw10_ExtentBlocks.j2, if_neg h0]
    exact n3
theorem blocks_l0 {l a b c : List EX} {f g h : Int} {e : EX} {tq : Int} (H : ∀ y, -1 ≤ y → y ≤ 256 → BlkOK l a b c f g h e tq y) : ∀ (n : Nat) (y : Int), -1 ≤ y → y + n = 257 →
    Ev (fun k => undercroftlaw10_ExtentBlocks.l0 k l tq a f b g c h y e.f0 e.f1 e.f2 e.f3) true
  | 0, y, hy, hn => by
    have a1 : ¬ y ≤ 256 := by omega
    refine Ev.succ ?_
    simp only [undercroftlaw10_ExtentBlocks.l0, if_neg a1]
    exact Ev.now _
  | n + 1, y, hy, hn => by
    have a1 : y ≤ 256 := by omega
    have next := blocks_l0 H n (y + 1) (by omega) (by omega)
    have n2 := blocks_j2 (H y hy a1) _ _ _ (rfl : findX l y = ((findX l y).1, (findX l y).2.1, (findX l y).2.2)) hy a1 next
    refine Ev.succ ?_
    simp only [undercroftlaw10_ExtentBlocks.l0, if_pos a1]
    refine Ev.bind (find_ev l y) ?_
    unfold inB at n2
    by_cases c1 : y ≥ e.f0
    · rw [if_pos c1] at n2
      simp only [if_pos c1]; exact n2
    · rw [if_neg c1] at n2
      simp only [if_neg c1]; exact n2
theorem inB_iff (e : EX) (tq y : Int) : inB e tq y = true ↔ e.f0 ≤ y ∧ y < tq := by
  unfold inB
  by_cases c : y ≥ e.f0
  · rw [if_pos c, decide_eq_true_eq]; exact ⟨fun h => ⟨c, h⟩, fun h => h.2⟩
  · rw [if_neg c]; exact ⟨fun h => absurd h Bool.false_ne_true, fun h => absurd h.1 c⟩
theorem findX_neg (l : List EX) {y : Int} (h : y < 0) : findX l y = (0, false, false) := if_neg (by omega)
theorem findX_nat {l : List EX} (h : chkB l = true) (n : Nat) : findX l (n : Int) = findR l (n : Int) := if_pos ⟨h, by omega⟩
theorem blk_put {l a : List EX} {e : EX} (h : chkB l = true) (hp : putX l e = (a, 0)) {y : Int} (hy : -1 ≤ y) (hy2 : y ≤ 256) : chkB a = true ∧ ((e.f0 ≤ y → y < wrap64 (e.f0 + e.f2) → (findX l y).2.2 = false ∧ findX a y = (wrap64 (wrap64 (e.f1 + y) - e.f0), !e.f3, true)) ∧ (¬ (e.f0 ≤ y ∧ y < wrap64 (e.f0 + e.f2)) → findX a y = findX l y)) := by
  unfold putX at hp
  by_cases he : mayE e = true
  · rw [if_pos ⟨h, he⟩] at hp
    unfold putR at hp
    by_cases hc : clash l e = true
    · rw [if_pos hc] at hp; cases hp
    · rw [if_neg hc] at hp
      rcases fit_cases (mergeL (insE l e)) with ⟨hn, hf⟩ | ⟨hn, hf⟩
      · rw [hf] at hp
        obtain rfl : mergeL (insE l e) = a := congrArg (·.1) hp
        have hr := chk_risen h
        have hi := ins_risen hr he hc
        have M := merged _ hi
        have hk := merge_chk hi (ins_once (chk_once h) hc) hn
        have hkr := chk_risen hk
        have hm := mayE_facts he
        have hw : wrap64 (e.f0 + e.f2) = e.f0 + e.f2 := w64 (by omega) (by omega)
        rw [hw]
        refine ⟨hk, fun h1 h2 => ?_, fun hno => ?_⟩
        · obtain ⟨n, rfl⟩ : ∃ n : Nat, y = (n : Int) := ⟨y.toNat, by omega⟩
          rw [findX_nat h, findX_nat hk]
          have hw2 : wrap64 (wrap64 (e.f1 + (n : Int)) - e.f0) = e.f1 + ((n : Int) - e.f0) := by rw [w64 (n := e.f1 + (n : Int)) (by omega) (by omega), w64 (by omega) (by omega)]; omega
          rw [hw2]
          refine ⟨?_, findR_some hkr.2 hkr.1 ((M.same _ _ _).2 ((AtB_ins _ _ _).2 (Or.inr ⟨h1, h2, rfl, rfl⟩)))⟩
          rw [findR_none]
          rintro d u ⟨z, hz, h3, h4, _⟩
          have h6 := mayE_facts (hr.1 z hz)
          have h5 : z.f0 + z.f2 ≤ e.f0 ∨ e.f0 + e.f2 ≤ z.f0 := of_decide_eq_true (noclash hc z hz).2
          omega
        · by_cases c0 : y < 0
          · rw [findX_neg _ c0, findX_neg _ c0]
          · obtain ⟨n, rfl⟩ : ∃ n : Nat, y = (n : Int) := ⟨y.toNat, by omega⟩
            rw [findX_nat h, findX_nat hk]
            refine findR_same hkr hr n fun d u => ?_
            rw [M.same, AtB_ins]
            constructor
            · rintro (h1 | ⟨h1, h2, _⟩)
              · exact h1
              · exact absurd ⟨h1, h2⟩ hno
            · exact Or.inl
      · rw [hf] at hp; cases hp
  · rw [if_neg fun hh => he hh.2] at hp; cases hp
theorem blk_cut {l b : List EX} {s : List SP} {e : EX} {tq : Int} (h : chkB l = true) (hp : cutX l e.f0 tq = (b, s, 0)) {y : Int} (hy : -1 ≤ y) (hy2 : y ≤ 256) : chkB b = true ∧ ((inB e tq y = true → (findX b y).2.2 = false) ∧ (inB e tq y = false → findX b y = findX l y)) := by
  unfold cutX at hp
  by_cases h0 : chkB l = true ∧ 0 ≤ e.f0 ∧ e.f0 ≤ tq
  · rw [if_pos h0] at hp
    unfold cutR at hp
    have hr := chk_risen h
    have hlr := left_risen hr e.f0 tq
    have M := merged _ hlr
    rcases fit_cases (mergeL (leftL l e.f0 tq)) with ⟨hn, hf⟩ | ⟨hn, hf⟩
    · rw [hf] at hp
      obtain rfl : mergeL (leftL l e.f0 tq) = b := congrArg (·.1) hp
      have hk := merge_chk hlr (left_once hr (chk_once h) h0.2.2) hn
      have hkr := chk_risen hk
      refine ⟨hk, fun hin => ?_, fun hin => ?_⟩
      · have hin' := (inB_iff _ _ _).1 hin
        obtain ⟨n, rfl⟩ : ∃ n : Nat, y = (n : Int) := ⟨y.toNat, by omega⟩
        rw [findX_nat hk, findR_none]
        intro d u hh
        exact ((AtB_left hr.1 h0.2.2 _ _ _).1 ((M.same _ _ _).1 hh)).2 hin'
      · have hin' : ¬ (e.f0 ≤ y ∧ y < tq) := fun hh => by rw [(inB_iff _ _ _).2 hh] at hin; cases hin
        by_cases c0 : y < 0
        · rw [findX_neg _ c0, findX_neg _ c0]
        · obtain ⟨n, rfl⟩ : ∃ n : Nat, y = (n : Int) := ⟨y.toNat, by omega⟩
          rw [findX_nat h, findX_nat hk]
          refine findR_same hkr hr n fun d u => ?_
          rw [M.same, AtB_left hr.1 h0.2.2]
          exact ⟨fun hh => hh.1, fun hh => ⟨hh, hin'⟩⟩
    · rw [hf] at hp
      cases hp
  · rw [if_neg h0] at hp; cases hp
theorem blk_mark {l c : List EX} {e : EX} {tq : Int} (h : chkB l = true) (hp : markX l e.f0 tq = (c, 0)) {y : Int} (hy : -1 ≤ y) (hy2 : y ≤ 256) : chkB c = true ∧ findX c y = ((findX l y).1, (findX l y).2.1 || (inB e tq y && (findX l y).2.2), (findX l y).2.2) := by
  unfold markX at hp
  by_cases h0 : chkB l = true ∧ 0 ≤ e.f0 ∧ e.f0 ≤ tq
  · rw [if_pos h0] at hp
    have hr := chk_risen h
    have hlr := mark_risen hr e.f0 tq
    have M := merged _ hlr
    rcases fit_cases (mergeL (markL l e.f0 tq)) with ⟨hn, hf⟩ | ⟨hn, hf⟩
    · rw [hf] at hp
      obtain rfl : mergeL (markL l e.f0 tq) = c := congrArg (·.1) hp
      have hk := merge_chk hlr (mark_once hr (chk_once h) h0.2.2) hn
      have hkr := chk_risen hk
      refine ⟨hk, ?_⟩
      by_cases c0 : y < 0
      · rw [findX_neg _ c0, findX_neg _ c0]; simp
      · obtain ⟨n, rfl⟩ : ∃ n : Nat, y = (n : Int) := ⟨y.toNat, by omega⟩
        rw [findX_nat h, findX_nat hk]
        by_cases cx : ∃ d u, AtB l n d u
        · obtain ⟨d, u, hd⟩ := cx
          have h1 := (M.same _ _ _).2 ((AtB_mark hr.1 h0.2.2 n d _).2 ⟨u, hd, rfl⟩)
          rw [findR_some hr.2 hr.1 hd, findR_some hkr.2 hkr.1 h1]
          have hin : decide (e.f0 ≤ (n : Int) ∧ (n : Int) < tq) = inB e tq n := by
            cases hb : inB e tq n
            · exact decide_eq_false fun hh => by rw [(inB_iff _ _ _).2 hh] at hb; cases hb
            · exact decide_eq_true ((inB_iff _ _ _).1 hb)
          rw [hin]
          simp only [Bool.and_true]
          cases u <;> cases inB e tq n <;> rfl
        · rw [findR_none fun d u hh => cx ⟨d, u, hh⟩, findR_none]
          · simp
          · intro d u hh
            obtain ⟨v, h1, _⟩ := (AtB_mark hr.1 h0.2.2 _ _ _).1 ((M.same _ _ _).1 hh)
            exact cx ⟨d, v, h1⟩
    · rw [hf] at hp; cases hp
  · rw [if_neg h0] at hp; cases hp
theorem extentBlocks_e (l : List EX) (e : EX) (tq : Int) : ∃ k, undercroftlaw10_ExtentBlocks.f k l e.f0 e.f1 e.f2 e.f3 tq = some true := by
  refine Ev.rounds ?_
  unfold undercroftlaw10_ExtentBlocks.f
  refine Ev.bind alive_ev ?_
  simp only [if_true]
  refine Ev.bind (codeCheck_ev l) ?_
  by_cases h : chkB l = true
  · rw [chk_good h]
    simp only [if_true]
    refine Ev.bind (put_ev l e) ?_
    refine Ev.bind (cut_ev l e.f0 tq) ?_
    refine Ev.bind (mark_ev l e.f0 tq) ?_
    obtain ⟨a, f, ha⟩ : ∃ a f, putX l e = (a, f) := ⟨_, _, rfl⟩
    obtain ⟨b, s, g, hb⟩ : ∃ b s g, cutX l e.f0 tq = (b, s, g) := ⟨_, _, _, rfl⟩
    obtain ⟨c, h', hc⟩ : ∃ c h', markX l e.f0 tq = (c, h') := ⟨_, _, rfl⟩
    rw [ha, hb, hc]
    have H : ∀ y, -1 ≤ y → y ≤ 256 → BlkOK l a b c f g h' e tq y := fun y hy hy2 =>
      ⟨fun e0 => (blk_put h (by rw [ha, e0]) hy hy2).2, fun e0 => (blk_cut h (by rw [hb, e0]) hy hy2).2, fun e0 => (blk_mark h (by rw [hc, e0]) hy hy2).2⟩
    have J : Ev (fun k => undercroftlaw10_ExtentBlocks.j0 k l tq a f b g c h' false e.f0 e.f1 e.f2 e.f3) true := by
      refine Ev.succ ?_
      simp only [undercroftlaw10_ExtentBlocks.j0, Bool.false_eq_true, if_false]
      exact blocks_l0 H 258 (-1) (by omega) (by omega)
    have ka : f = 0 → Ev (fun k => extent_Check.f k a) 0 := fun e0 => by
      have := codeCheck_ev a
      rwa [chk_good (blk_put h (by rw [ha, e0]) (y := 0) (by omega) (by omega)).1] at this
    have kb : g = 0 → Ev (fun k => extent_Check.f k b) 0 := fun e0 => by
      have := codeCheck_ev b
      rwa [chk_good (blk_cut h (by rw [hb, e0]) (y := 0) (by omega) (by omega)).1] at this
    have kc : h' = 0 → Ev (fun k => extent_Check.f k c) 0 := fun e0 => by
      have := codeCheck_ev c
      rwa [chk_good (blk_mark h (by rw [hc, e0]) (y := 0) (by omega) (by omega)).1] at this
    have z : ((0 : Int) != 0) = false := rfl
    have last : ∀ (F : Nat → Int → Option Bool), True := fun _ => trivial
    by_cases f0 : f = 0
    · simp only [if_pos f0]
      refine Ev.bind (ka f0) ?_
      by_cases g0 : g = 0
      · simp only [if_true, if_pos g0]
        refine Ev.bind (kb g0) ?_
        by_cases h0 : h' = 0
        · simp only [if_true, if_pos h0]
          refine Ev.bind (kc h0) ?_
          simp only [z]; exact J
        · simp only [if_true, if_neg h0]; exact J
      · by_cases h0 : h' = 0
        · simp only [if_true, if_neg g0, if_pos h0]
          refine Ev.bind (kc h0) ?_
          simp only [z]; exact J
        · simp only [if_true, if_neg g0, if_neg h0]; exact J
    · by_cases g0 : g = 0
      · simp only [if_neg f0, if_pos g0]
        refine Ev.bind (kb g0) ?_
        by_cases h0 : h' = 0
        · simp only [if_true, if_pos h0]
          refine Ev.bind (kc h0) ?_
          simp only [z]; exact J
        · simp only [if_true, if_neg h0]; exact J
      · by_cases h0 : h' = 0
        · simp only [if_neg f0, if_neg g0, if_pos h0]
          refine Ev.bind (kc h0) ?_
          simp only [z]; exact J
        · simp only [if_neg f0, if_neg g0, if_neg h0]; exact J
  · rw [chk_bad h]
    simp only [if_neg (show ¬ ((1 : Int) = 0) by decide)]
    refine Ev.bind (need_ev l) ?_
    have : needX l = -1 := if_neg h
    rw [this]
    exact Ev.now _
theorem ExtentBlocks (l : List EX) (x0 x1 x2 : Int) (x3 : Bool) (tq : Int) : ∃ k, undercroftlaw10_ExtentBlocks.f k l x0 x1 x2 x3 tq = some true := extentBlocks_e l ⟨x0, x1, x2, x3⟩ tq
end Go.Proofs.Ytopmjjnkolfciaa.Pr
end
section
namespace Go.Proofs.Ytopmjjnkolfciaa.extentBlocks
open Go.ChangeShapes Go.WideShapes Go.ChangeAt Go.RowKit Go.Proofs.YtopmjjnkolfciaaW.PrintWords Go.Proofs.Ytopmjjnkolfciaa.Pr Go.Proofs.Ytopmjjnkolfciaa.Op Go.Joins
open Go.ChangeMaps (open_string shut_string)
set_option linter.unusedVariables false
theorem own : ownKnob Try.prog.godebug = none := by kernel_rfl
theorem laidOut : laidOutB Try.prog = true := by kernel_rfl
set_option maxRecDepth 100000 in
theorem contract (H : Type) (enc : TypeId × Value → H) (W : World) (base : Nat) (args : Array Value) (ds gs : List (DataW H)) (before : List MemPlace)
    (hval : ∀ (j : Nat) t v, Try.f8.params[j]? = some t → args[j]? = some v → Value.okWide Try.prog W .any base t v)
    (hW : DataW.Whole enc Try.prog Try.f8.params.toList Rows.extentBlocksSpec.vars false W args.toList ds gs before)
    (hsz : (DataW.weightsEach Try.prog (Try.f8.params.toList ++ Rows.extentBlocksSpec.plain.varTypes Try.prog) (ds ++ gs)).all (· ≤ reachBytes) = true) :
    Calls Try.prog 8 args W fun e W' => ∃ v, e = .returned v ∧ Rows.extentBlocksSpec.post enc Try.prog Try.f8 false true false false W args v W' := by
  have hW' := hW
  obtain ⟨p, q, hA0, hV, rfl, hfz, hnd⟩ := hW
  have hA : DataW.TrodAll enc Try.prog W 0 (fun _ => true) true Try.f8.params.toList args.toList ds p := hA0
  rw [Try.params8] at hA hval hsz
  obtain ⟨v0, vs0, d0, ds0, p0, q0, hargs, rfl, rfl, h0, r0⟩ := trodAll_cons hA
  obtain ⟨v1, vs1, d1, ds1, p1, q1, rfl, rfl, rfl, h1, r1⟩ := trodAll_cons r0
  obtain ⟨v2, vs2, d2, ds2, p2, q2, rfl, rfl, rfl, h2, r2⟩ := trodAll_cons r1
  obtain ⟨rfl, rfl, rfl⟩ := trodAll_nil r2
  obtain rfl : args = #[v0, v1, v2] := by cases args; simp_all
  obtain ⟨rfl, rfl⟩ := trodVars_none hV
  have lt0 : ∀ x ∈ p0, x.block < W.heap.size := by obtain ⟨m, hm⟩ := h0; exact DataW.trod_lt m _ _ _ hm
  have k0 := h0
  obtain ⟨A0, l0, c0, rfl, hc0, hr0, hs0⟩ := arg_slice Try.underlying22 Pr.o24 (hval 0 22 v0 rfl rfl) h0 hsz (j := 0) (t := 22) rfl rfl
  have lt1 : ∀ x ∈ p1, x.block < W.heap.size := by obtain ⟨m, hm⟩ := h1; exact DataW.trod_lt m _ _ _ hm
  have k1 := h1
  obtain ⟨x1_0, x1_1, x1_2, x1_3, y1_0, y1_1, y1_2, y1_3, n1, rfl, rfl, rfl, g1_0, g1_1, g1_2, g1_3⟩ := open_agg4 Try.underlying24 (by kernel_rfl) (by kernel_rfl) (hval 1 24 v1 rfl rfl) h1
  obtain ⟨a1_0, hx1_0, _, w1_0⟩ := DataW.trod_int Try.underlying3 g1_0
  obtain rfl : x1_0 = .int .i64 a1_0 := by simpa using hx1_0
  have b1_0 := bounds_i64 w1_0
  obtain ⟨a1_1, hx1_1, _, w1_1⟩ := DataW.trod_int Try.underlying3 g1_1
  obtain rfl : x1_1 = .int .i64 a1_1 := by simpa using hx1_1
  have b1_1 := bounds_i64 w1_1
  obtain ⟨a1_2, hx1_2, _, w1_2⟩ := DataW.trod_int Try.underlying3 g1_2
  obtain rfl : x1_2 = .int .i64 a1_2 := by simpa using hx1_2
  have b1_2 := bounds_i64 w1_2
  obtain ⟨a1_3, hx1_3, _⟩ := DataW.trod_bool Try.underlying4 g1_3
  obtain rfl : x1_3 = .bool a1_3 := by simpa using hx1_3
  have lt2 : ∀ x ∈ p2, x.block < W.heap.size := by obtain ⟨m, hm⟩ := h2; exact DataW.trod_lt m _ _ _ hm
  have k2 := h2
  obtain ⟨a2, rfl, rfl, rfl, w2⟩ := open_int Try.underlying3 (hval 2 3 v2 rfl rfl) h2
  have b2 := bounds_i64 w2
  clear hA0
  obtain ⟨k, hk⟩ := Pr.ExtentBlocks l0 a1_0 a1_1 a1_2 a1_3 a2
  refine (undercroftlaw10_ExtentBlocks.calls k A0 c0 l0 a1_0 a1_1 a1_2 a1_3 a2 true W hr0 hc0 hk).mono fun e W' ⟨he, bel⟩ => ?_
  subst he
  exact ⟨_, rfl, _, _, _, [], _, [], hW', trodAll_mk1 (shut_bool Try.underlying4 _), (trodAll_cons_mk (Below.trod laidOut (by kernel_rfl) (of_decide_eq_true (by kernel_rfl)) k0 bel lt0) (trodAll_cons_mk (Below.trod laidOut (by kernel_rfl) (of_decide_eq_true (by kernel_rfl)) k1 bel lt1) (trodAll_cons_mk (Below.trod laidOut (by kernel_rfl) (of_decide_eq_true (by kernel_rfl)) k2 bel lt2) trodAll_mk0))), rfl, bel.frame _, fun h => by cases h⟩
set_option maxRecDepth 100000 in
theorem lifted (os : Os) (started : os.Started) (H : Type) (enc : TypeId × Value → H) :
    ReturnsInHanded {} Try.checked os 8 .any (Rows.extentBlocksSpec.pre6 enc Try.prog Try.f8 Rows.extentBlocksRow.domain false) (Rows.extentBlocksSpec.post enc Try.prog Try.f8 false true false false) := by
  refine returnsInHanded_of_change_sized (C := Try.checked) own started (by kernel_rfl) Try.func8
    (ChangeSpec.witness6 (enc := enc) (C := Try.checked) false ⟨#[], #[.slice none 0 0, .agg #[.int .i64 0, .int .i64 0, .int .i64 0, .bool false], .int .i64 0], []⟩ 8 (by kernel_rfl) (by kernel_rfl) (by kernel_rfl) (by kernel_rfl)) ?_
  intro W base args ds gs before hval hW _ hsz _
  exact contract H enc W base args ds gs before hval hW hsz
theorem over : Rows.extentBlocksRow.holds Try.pinned (OpenSpec.ofChange Rows.extentBlocksSpec) :=
  OpenClaim.holds_of_wide 8 Try.f8 rfl rfl rfl rfl rfl rfl rfl ⟨rfl, rfl, rfl, rfl, rfl⟩ rfl rfl rfl rfl rfl (by kernel_rfl) Try.func8 (by kernel_rfl)
    (of_decide_eq_true (by kernel_rfl)) (by unfold Func.isWrapper; first | (rw [if_pos (by decide +kernel)]; kernel_rfl) | (rw [if_neg (by decide +kernel)]; exact ⟨rfl, rfl⟩))
    (fun os started H enc _ => lifted os started H enc)
theorem proved : Rows.ExtentBlocksSaid := over
end Go.Proofs.Ytopmjjnkolfciaa.extentBlocks
namespace Go.Proofs.Ytopmjjnkolfciaa
theorem extentBlocks_holds : Rows.ExtentBlocksSaid := extentBlocks.proved
end Go.Proofs.Ytopmjjnkolfciaa
end
