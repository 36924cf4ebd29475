/- Ao: this session's texts for the one law, put together (part 2 of 3): what its program computes, function by function, and that this answers true; the row stands at the end of the last part. Conditions: those that each theorem names; the last theorem has none. -/
import Derived.Shelf.Small.Utf8
import Derived.Shelf.Small.Strs
import Derived.Shelf.Strings.Search1
import Derived.Shelf.Strings.Runes
import Derived.Shelf.Strings.IndexAny
import Derived.Shelf.Strings.AsciiSet
import Derived.Shelf.Strings.IndexAnyAll
import Derived.Shelf.Bytes.SlSearch0
import Derived.Shelf.Bytes.SlEqualAll
import Derived.Shelf.Bytes.Small
import Derived.Test.YtffaggckhneakaaProg
import Derived.Below
import Derived.Deep.Draws
import Derived.Deep.AppendLies
import Derived.Maps.AppendAt
import Derived.OwnWalk
import Derived.Laws.BytesArg
import Derived.Laws.MakeOwn
import Derived.Laws.OwnMore
import Derived.Deep.OwnRows
import Derived.Tactics
import Derived.Lib.ConvBytes
import Derived.Laws.Slices
import Derived.WalkKit
import Derived.KernelRfl
import Derived.RowKit3
import Derived.Deep.LoopGhost
import Derived.Deep.QuietTactic
import Derived.BigQuiet
import Derived.WideLaws
import Derived.Deep.DeepCutAuto
import Derived.Deep.CutBlock
import Derived.Deep.RegionHeld3
import Derived.Laws.Rows
import Derived.Lib.AppendStr
import Derived.ArgAppend
import Derived.Laws.IdiomCopy
import Derived.OrdersHeld
import Derived.Laws.BitsLemmas
import Derived.RowKit
import Derived.BigRegion
import Derived.Lib.IndexLaws
import Derived.Lib.OthersKept
import Derived.Laws.RangeAny
import Derived.LoopN
import Derived.WalkMore
import Derived.Laws.Runes
import Derived.Lib.AppendZerosOnto
import Derived.Lib.Overlaps
import Derived.Laws.Externs
import Derived.Laws.CopyRow
import Derived.Deep.DeepAppendWide
import Derived.Test.YtffaggckhneakaaAoA
section
namespace Go.Proofs
open Go.Shelf
def Try.lays106_ren : Go.Shelf.Ren := ⟨fun | 106 => 50 | 213 => 65 | 265 => 72 | n => n, fun | 9 => 9 | 3 => 3 | n => n, fun | n => n⟩
theorem Try.lays106 : Go.Proofs.Lays.n106 Try.prog Try.lays106_ren := {
  mixed := by kernel_rfl
  f106 := Try.func50.trans (congrArg some (by kernel_rfl))
  f213 := Try.func65.trans (congrArg some (by kernel_rfl))
  f265 := Try.func72.trans (congrArg some (by kernel_rfl))
  t3 := Try.underlying3
  a3 := Try.isAgg3
  z3 := Try.sizeOf3
  v3 := Try.zeroValue3
  t9 := Try.underlying9
  a9 := Try.isAgg9
  z9 := Try.sizeOf9
  v9 := Try.zeroValue9 }
open Go.RowKit in
theorem Try.strings_Compare (a b : ByteArray) (w : World) :
    Calls Try.prog 50 #[.string a, .string b] w fun e w' => e = .returned (.int .i64 (Lib.compareBytes a.data.toList b.data.toList)) ∧ w' = w := Any.strings_Compare Try.lays106 a b w
end Go.Proofs
end
section
namespace Go.Proofs.Ytffaggckhneakaa.Pr
open Go.RowKit Go.Proofs.YtffaggckhneakaaW.PrintWords Go.Proofs.YtffaggckhneakaaW.PrintLast Go.Proofs.YtffaggckhneakaaW.PrintMore
attribute [local go_sem] max2_int min2_int max_two min_two max_three min_three max_four min_four
attribute [local go_sem] Go.Proofs.Ytffaggckhneakaa.Hl.str_geq Go.Proofs.Ytffaggckhneakaa.Hl.str_gtr Go.Proofs.Ytffaggckhneakaa.Hl.str_leq
set_option linter.unusedVariables false
set_option linter.unusedSimpArgs false
def errW : Option Int → Value
  | none => .nilIface
  | some c => .iface 0 (.int .i64 c)
theorem errW_none : errW none = .nilIface := rfl
theorem errW_some (c : Int) : errW (some c) = .iface 0 (.int .i64 c) := rfl
theorem info5 : (Try.prog.info? 5).map (fun i => (i.zero, i.size, i.bytes)) = some (some (.int .u8 0), 1, 1) := by kernel_rfl
theorem info26 : (Try.prog.info? 26).map (fun i => (i.zero, i.size, i.bytes)) = some (some (.agg #[(.string ⟨#[]⟩), (.string ⟨#[]⟩)]), 2, 32) := by kernel_rfl
structure S54 where
  f0 : ByteArray
  f1 : Int
structure S26 where
  f0 : ByteArray
  f1 : ByteArray
def z26 : S26 := ⟨(⟨#[]⟩ : ByteArray), (⟨#[]⟩ : ByteArray)⟩
def k26 : Kd S26 := Kd.iso (Kd.pair Kd.string Kd.string) (fun x : S26 => (x.f0, x.f1))
theorem k26_open {w : World} {x : S26} {cs : List Value} (h : k26.K w x cs) : cs = [.string x.f0, .string x.f1] := by
  obtain ⟨_, _, rfl, rfl, rfl⟩ := h
  exact rfl
theorem k26_openM {w : World} {base : Nat} {ok : Nat → Prop} {x : S26} {cs : List Value} (h : k26.M w base ok x cs) : cs = [.string x.f0, .string x.f1] := by
  obtain ⟨_, _, rfl, rfl, rfl⟩ := h
  exact rfl
theorem k26_mk (w : World) (x : S26)  : k26.K w x [.string x.f0, .string x.f1] := ⟨[.string x.f0], [.string x.f1], rfl, rfl, rfl⟩
theorem k26_mkM (w : World) (base : Nat) (ok : Nat → Prop) (x : S26)  : k26.M w base ok x [.string x.f0, .string x.f1] := ⟨[.string x.f0], [.string x.f1], rfl, rfl, rfl⟩
def rd_T26 (xs : List S26) (i : Int) : S26 := xs.getD i.toNat z26
theorem at_T26 {w : World} {A : Option Addr} {n : Nat} {xs : List S26} (h : Kd.C k26 w A n xs) (i : Int) (h0 : 0 ≤ i) (h1 : i < n) : ∃ ad , A = some ad ∧ w.cell? (ad.add (i.toNat * 2)) = some (.string (rd_T26 xs i).f0) ∧ w.cell? ⟨(ad.add (i.toNat * 2)).block, (ad.add (i.toNat * 2)).off + 1, none⟩ = some (.string (rd_T26 xs i).f1) := by
  obtain ⟨ad, c, e, _, hK, hc0⟩ := Kd.C_get h z26 i h0 h1
  have hc : ∀ j u, c[j]? = some u → w.cell? (ad.add (i.toNat * 2 + j)) = some u := hc0
  obtain rfl := k26_open hK
  exact ⟨ad, e, hc 0 _ rfl, by rw [← add_field _ _ 1 (by omega)]; exact hc 1 _ rfl⟩
end Go.Proofs.Ytffaggckhneakaa.Pr
end
section
namespace Go.Proofs.Ytffaggckhneakaa.Pr
open Go.RowKit Go.Proofs.YtffaggckhneakaaW.PrintWords Go.Proofs.YtffaggckhneakaaW.PrintLast Go.Proofs.YtffaggckhneakaaW.PrintMore
attribute [local go_sem] max2_int min2_int max_two min_two max_three min_three max_four min_four
attribute [local go_sem] Go.Proofs.Ytffaggckhneakaa.Hl.str_geq Go.Proofs.Ytffaggckhneakaa.Hl.str_gtr Go.Proofs.Ytffaggckhneakaa.Hl.str_leq
set_option linter.unusedVariables false
set_option linter.unusedSimpArgs false
def crc_nibble.l0 : Nat → Int → Int → Option (Int)
  | 0, _, _ => none
  | k + 1, x0, x3 => if x3 < 4 then (crc_nibble.l0 k (Go.bits .xor .u32 (x0 / 2) (Go.bits .and .u32 2197175160 ((-(Go.bits .and .u32 x0 1)) % 4294967296))) (wrap64 (x3 + 1))) else (some x0)
def crc_nibble.f (k : Nat) (a0 : Int) : Option (Int) := crc_nibble.l0 k a0 0
set_option maxHeartbeats 8000000 in
set_option maxRecDepth 100000 in
theorem crc_nibble.calls (k : Nat) (a0 : Int) (r : Int) (w : World) (h : crc_nibble.f k a0 = some r) :
    Calls Try.prog 69 #[.int .u32 a0] w fun e w' => e = .returned (.int .u32 r) ∧ Drawn0 w w' := by
  have H : (crc_nibble.l0 k a0 0) = some r := h
  clear h
  have H' := Aside0.mk H
  clear H
  go_enter Try.func69, Try.ntmps69
  go_wp2
  go_loopg [0, 3] k (fun kq v0 v3 w' => ∃ (x0_1 : Int) (x3_1 : Int), v0 = .int .u32 x0_1 ∧ v3 = .int .i64 x3_1 ∧ Aside0 (crc_nibble.l0 kq x0_1 x3_1 = some r) ∧ Aside0 (kq ≤ k) ∧ Drawn0 w w')
  case atStart => exact ⟨(a0), (0), (by first | rfl | (simp; done) | (simp [*]; done)), (by first | rfl | (simp; done) | (simp [*]; done)), H', ⟨Nat.le_refl _⟩, by repeat (first | exact Drawn0.refl _ | apply Drawn0.step)⟩
  case round =>
    clear H'
    obtain ⟨x0_1, x3_1, rfl, rfl, HA, HK1, ⟨m1, rfl⟩⟩ := hrel
    cases gk with
    | zero => exact absurd HA.out (by intro h_; cases h_)
    | succ k1 =>
      have H := HA.out
      clear HA
      simp only [crc_nibble.l0] at H
      by_cases c2 : x3_1 < 4
      · rw [if_pos c2] at H
        have c2b0 : decide (x3_1 < 4) = true := decide_eq_true c2
        clear c2
        have H' := Aside0.mk H
        clear H
        go_wp2
        go_roundg k1
        case measure => have := HK1.out; omega
        case rel => exact ⟨(Go.bits .xor .u32 (x0_1 / 2) (Go.bits .and .u32 2197175160 ((-(Go.bits .and .u32 x0_1 1)) % 4294967296))), (wrap64 (x3_1 + 1)), (by first | rfl | (simp; done) | (simp [*]; done)), (by first | rfl | (simp; done) | (simp [*]; done)), H', ⟨by have := HK1.out; omega⟩, by repeat (first | exact Drawn0.refl _ | apply Drawn0.step)⟩
      · rw [if_neg c2] at H
        have c2b0 : decide (x3_1 < 4) = false := decide_eq_false c2
        clear c2
        obtain rfl := Option.some.inj H
        go_wp2
        go_ret
        exact ⟨by first | rfl | (simp; done) | (simp [*]; done), by repeat (first | exact Drawn0.refl _ | apply Drawn0.step)⟩
end Go.Proofs.Ytffaggckhneakaa.Pr
end
section
namespace Go.Proofs.Ytffaggckhneakaa.Pr
open Go.RowKit Go.Proofs.YtffaggckhneakaaW.PrintWords Go.Proofs.YtffaggckhneakaaW.PrintLast Go.Proofs.YtffaggckhneakaaW.PrintMore
attribute [local go_sem] max2_int min2_int max_two min_two max_three min_three max_four min_four
attribute [local go_sem] Go.Proofs.Ytffaggckhneakaa.Hl.str_geq Go.Proofs.Ytffaggckhneakaa.Hl.str_gtr Go.Proofs.Ytffaggckhneakaa.Hl.str_leq
set_option linter.unusedVariables false
set_option linter.unusedSimpArgs false
def crc_More.l0 : Nat → Int → List Int → Int → Int → Option (Int)
  | 0, _, _, _, _ => none
  | k + 1, x5, x16, x17, x18 => if x18 < x17 then (if 0 ≤ x18 then (if x18 < (x16.length : Int) then ((crc_nibble.f k (Go.bits .and .u32 (Go.bits .xor .u32 x5 ((rd x16 x18) % 4294967296)) 15)).bind fun t108 => ((crc_nibble.f k (Go.bits .and .u32 (Go.bits .xor .u32 ((Go.bits .xor .u32 x5 ((rd x16 x18) % 4294967296)) / 16) t108) 15)).bind fun t109 => (crc_More.l0 k (Go.bits .xor .u32 ((Go.bits .xor .u32 ((Go.bits .xor .u32 x5 ((rd x16 x18) % 4294967296)) / 16) t108) / 16) t109) x16 x17 (wrap64 (x18 + 1))))) else (none)) else (none)) else (some (Go.bits .xor .u32 (4294967295) x5))
def crc_More.f (k : Nat) (a0 : Int) (l1 : List Int) : Option (Int) := if (l1.length : Int) < 512 then (crc_More.l0 k (Go.bits .xor .u32 (4294967295) a0) l1 (l1.length : Int) 0) else (none)
set_option maxHeartbeats 8000000 in
set_option maxRecDepth 100000 in
theorem crc_More.calls (k : Nat) (a0 : Int) (A1 : Option Addr) (c1 : Nat) (l1 : List Int) (r : Int) (w : World) (hr1 : Kd.C (Kd.int .u8) w A1 l1.length l1) (hc1 : l1.length ≤ c1) (h : crc_More.f k a0 l1 = some r) :
    Calls Try.prog 63 #[.int .u32 a0, .slice A1 l1.length c1] w fun e w' => e = .returned (.int .u32 r) ∧ Below w.heap.size w w' := by
  have HR1 := Aside0.mk hr1
  have HC1 := Aside0.mk hc1
  clear hr1 hc1
  have HB := Aside0.mk (Below.refl w.heap.size w)
  have H : (if (l1.length : Int) < 512 then (crc_More.l0 k (Go.bits .xor .u32 (4294967295) a0) l1 (l1.length : Int) 0) else (none)) = some r := h
  clear h
  by_cases c3 : (l1.length : Int) < 512
  · rw [if_pos c3] at H
    have c3b0 : decide ((l1.length : Int) < 512) = true := decide_eq_true c3
    have c3b1 : decide (l1.length < 512) = true := decide_eq_true (by omega)
    clear c3
    have H' := Aside0.mk H
    clear H
    go_enter Try.func63, Try.ntmps63
    go_wp2
    go_loopg [5, 18] k (fun kq v5 v18 w' => ∃ (x5_1 : Int) (x18_1 : Int), v5 = .int .u32 x5_1 ∧ v18 = .int .i64 x18_1 ∧ Aside0 (crc_More.l0 kq x5_1 l1 (l1.length : Int) x18_1 = some r) ∧ Aside0 (kq ≤ k) ∧ Aside0 (Below w.heap.size w w'))
    case atStart => exact ⟨(Go.bits .xor .u32 (4294967295) a0), (0), (by first | rfl | (simp; done) | (simp [*]; done)), (by first | rfl | (simp; done) | (simp [*]; done)), H', ⟨Nat.le_refl _⟩, ⟨by repeat (first | (with_reducible first | exact HB.out | apply below_alloc | apply pw_below_drewN | apply below_drew1) | exact HB.out)⟩⟩
    case round =>
      clear H'
      try clear c1
      try clear p2
      try clear c3
      try clear c3b0
      try clear c3b1
      obtain ⟨x5_1, x18_1, rfl, rfl, HA, HK1, HB⟩ := hrel
      cases gk with
      | zero => exact absurd HA.out (by intro h_; cases h_)
      | succ k1 =>
        have H := HA.out
        clear HA
        simp only [crc_More.l0] at H
        by_cases c4 : x18_1 < (l1.length : Int)
        · rw [if_pos c4] at H
          have c4b0 : decide (x18_1 < (l1.length : Int)) = true := decide_eq_true c4
          clear c4
          by_cases c5 : 0 ≤ x18_1
          · rw [if_pos c5] at H
            have c5b0 : decide (0 ≤ x18_1) = true := decide_eq_true c5
            clear c5
            by_cases c6 : x18_1 < (l1.length : Int)
            · rw [if_pos c6] at H
              have c6b0 : decide (x18_1 < (l1.length : Int)) = true := decide_eq_true c6
              clear c6
              replace H := Option.bind_eq_some_iff.mp H
              obtain ⟨t108, A70, H⟩ := H
              replace H : ((crc_nibble.f k1 (Go.bits .and .u32 (Go.bits .xor .u32 ((Go.bits .xor .u32 x5_1 ((rd l1 x18_1) % 4294967296)) / 16) t108) 15)).bind fun t109 => (crc_More.l0 k1 (Go.bits .xor .u32 ((Go.bits .xor .u32 ((Go.bits .xor .u32 x5_1 ((rd l1 x18_1) % 4294967296)) / 16) t108) / 16) t109) l1 (l1.length : Int) (wrap64 (x18_1 + 1)))) = some r := H
              have A7 := Aside0.mk A70
              clear A70
              replace H := Option.bind_eq_some_iff.mp H
              obtain ⟨t109, A80, H⟩ := H
              replace H : (crc_More.l0 k1 (Go.bits .xor .u32 ((Go.bits .xor .u32 ((Go.bits .xor .u32 x5_1 ((rd l1 x18_1) % 4294967296)) / 16) t108) / 16) t109) l1 (l1.length : Int) (wrap64 (x18_1 + 1))) = some r := H
              have A8 := Aside0.mk A80
              clear A80
              have H' := Aside0.mk H
              clear H
              have p107 : 0 ≤ (x18_1 : Int) := of_decide_eq_true (by first | (with_reducible assumption) | assumption)
              have q107 : x18_1 < (l1.length : Int) := of_decide_eq_true (by first | (with_reducible assumption) | assumption)
              obtain ⟨ad107, e107, hx107_0⟩ := Kd.at_int HR1.out x18_1 p107 q107
              cases e107
              replace hx107_0 := (HB.out.cell (World.block_lt_of_cell? w _ hx107_0)).trans hx107_0
              replace p107 := eq_true p107
              replace q107 := eq_true q107
              go_wp2_with (first | ((with_reducible refine gate_callee (f := 69) rfl ?_); refine goesL_ (some 30) rfl rfl Try.func69 (by kernel_rfl) rfl #[.int .u32 (Go.bits .and .u32 (Go.bits .xor .u32 x5_1 ((rd l1 x18_1) % 4294967296)) 15)] rfl (by (try simp only [List.map_toArray, List.map_cons, List.map_nil]); first | done | rfl | (simp only [List.length_drop, List.length_take]; rfl)) ?_; (with_reducible refine (crc_nibble.calls k1 (Go.bits .and .u32 (Go.bits .xor .u32 x5_1 ((rd l1 x18_1) % 4294967296)) 15) t108 _ A7.out).mono ?_); rintro e w' ⟨rfl, ⟨nd, rfl⟩⟩; refine ⟨_, rfl, ?_⟩) | ((with_reducible refine gate_callee (f := 69) rfl ?_); refine goesL_ (some 36) rfl rfl Try.func69 (by kernel_rfl) rfl #[.int .u32 (Go.bits .and .u32 (Go.bits .xor .u32 ((Go.bits .xor .u32 x5_1 ((rd l1 x18_1) % 4294967296)) / 16) t108) 15)] rfl (by (try simp only [List.map_toArray, List.map_cons, List.map_nil]); first | done | rfl | (simp only [List.length_drop, List.length_take]; rfl)) ?_; (with_reducible refine (crc_nibble.calls k1 (Go.bits .and .u32 (Go.bits .xor .u32 ((Go.bits .xor .u32 x5_1 ((rd l1 x18_1) % 4294967296)) / 16) t108) 15) t109 _ A8.out).mono ?_); rintro e w' ⟨rfl, ⟨nd, rfl⟩⟩; refine ⟨_, rfl, ?_⟩))
              go_roundg k1
              case measure => have := HK1.out; omega
              case rel => exact ⟨(Go.bits .xor .u32 ((Go.bits .xor .u32 ((Go.bits .xor .u32 x5_1 ((rd l1 x18_1) % 4294967296)) / 16) t108) / 16) t109), (wrap64 (x18_1 + 1)), (by first | rfl | (simp; done) | (simp [*]; done)), (by first | rfl | (simp; done) | (simp [*]; done)), H', ⟨by have := HK1.out; omega⟩, ⟨by repeat (first | (with_reducible first | exact HB.out | apply below_alloc | apply pw_below_drewN | apply below_drew1) | exact HB.out)⟩⟩
            · rw [if_neg c6] at H
              exact absurd H (by simp)
          · rw [if_neg c5] at H
            exact absurd H (by simp)
        · rw [if_neg c4] at H
          have c4b0 : decide (x18_1 < (l1.length : Int)) = false := decide_eq_false c4
          clear c4
          obtain rfl := Option.some.inj H
          go_wp2
          go_ret
          exact ⟨by first | rfl | (simp [errW_none, errW_some] <;> rfl) | (simp [*, errW_none, errW_some] <;> rfl), by repeat (first | (with_reducible first | exact HB.out | apply below_alloc | apply pw_below_drewN | apply below_drew1) | exact HB.out)⟩
  · rw [if_neg c3] at H
    exact absurd H (by simp)
end Go.Proofs.Ytffaggckhneakaa.Pr
end
section
namespace Go.Proofs.Ytffaggckhneakaa.Pr
open Go.RowKit Go.Proofs.YtffaggckhneakaaW.PrintWords Go.Proofs.YtffaggckhneakaaW.PrintLast Go.Proofs.YtffaggckhneakaaW.PrintMore
attribute [local go_sem] max2_int min2_int max_two min_two max_three min_three max_four min_four
attribute [local go_sem] Go.Proofs.Ytffaggckhneakaa.Hl.str_geq Go.Proofs.Ytffaggckhneakaa.Hl.str_gtr Go.Proofs.Ytffaggckhneakaa.Hl.str_leq
set_option linter.unusedVariables false
set_option linter.unusedSimpArgs false
def crc_Sum.f (k : Nat) (l0 : List Int) : Option (Int) := (crc_More.f k 0 l0).bind fun t110 => (some t110)
set_option maxHeartbeats 8000000 in
set_option maxRecDepth 100000 in
theorem crc_Sum.calls (k : Nat) (A0 : Option Addr) (c0 : Nat) (l0 : List Int) (r : Int) (w : World) (hr0 : Kd.C (Kd.int .u8) w A0 l0.length l0) (hc0 : l0.length ≤ c0) (h : crc_Sum.f k l0 = some r) :
    Calls Try.prog 46 #[.slice A0 l0.length c0] w fun e w' => e = .returned (.int .u32 r) ∧ Below w.heap.size w w' := by
  have HR0 := Aside0.mk hr0
  have HC0 := Aside0.mk hc0
  clear hr0 hc0
  have HB := Aside0.mk (Below.refl w.heap.size w)
  have H : ((crc_More.f k 0 l0).bind fun t110 => (some t110)) = some r := h
  clear h
  replace H := Option.bind_eq_some_iff.mp H
  obtain ⟨t110, A20, H⟩ := H
  replace H : (some t110) = some r := H
  have A2 := Aside0.mk A20
  clear A20
  obtain rfl := Option.some.inj H
  go_enter Try.func46, Try.ntmps46
  go_wp2_with (first | ((with_reducible refine gate_callee (f := 63) rfl ?_); refine goesL_ (some 4) rfl rfl Try.func63 (by kernel_rfl) rfl #[.int .u32 0, .slice A0 l0.length c0] rfl (by (try simp only [List.map_toArray, List.map_cons, List.map_nil]); first | done | rfl | (simp only [List.length_drop, List.length_take]; rfl)) ?_; (with_reducible refine (crc_More.calls k 0 _ _ l0 t110 _ ?side1 ?side2 A2.out).mono ?_); (case side1 => repeat (first | exact HR0.out | (with_reducible refine Kd.C_alloc ?_ _) | (with_reducible refine Kd.C_drewN ?_ _) | (with_reducible refine Kd.C_drew ?_))); (case side2 => exact HC0.out); rintro e w3 ⟨rfl, hb⟩; refine ⟨_, rfl, ?_⟩; have n0_ := Aside0.mk (below_step (by repeat (first | (with_reducible first | exact HB.out | apply below_alloc | apply pw_below_drewN | apply below_drew1) | exact HB.out)) hb); clear HB; have HB := n0_; clear n0_; (try clear hb); (try clear hb2); (try clear hk); (try clear hi)))
  go_ret
  exact ⟨by first | rfl | (simp [errW_none, errW_some] <;> rfl) | (simp [*, errW_none, errW_some] <;> rfl), by repeat (first | (with_reducible first | exact HB.out | apply below_alloc | apply pw_below_drewN | apply below_drew1) | exact HB.out)⟩
end Go.Proofs.Ytffaggckhneakaa.Pr
end
section
namespace Go.Proofs.Ytffaggckhneakaa.Pr
open Go.RowKit Go.Proofs.YtffaggckhneakaaW.PrintWords Go.Proofs.YtffaggckhneakaaW.PrintLast Go.Proofs.YtffaggckhneakaaW.PrintMore
attribute [local go_sem] max2_int min2_int max_two min_two max_three min_three max_four min_four
attribute [local go_sem] Go.Proofs.Ytffaggckhneakaa.Hl.str_geq Go.Proofs.Ytffaggckhneakaa.Hl.str_gtr Go.Proofs.Ytffaggckhneakaa.Hl.str_leq
set_option linter.unusedVariables false
set_option linter.unusedSimpArgs false
def crc_Bytes.l0 : Nat → Int → List Int → Int → Int → Option (List Int)
  | 0, _, _, _, _ => none
  | k + 1, x0, x5, x12, x13 => if x13 < x12 then (if 0 ≤ (wrap64 (8 * x13)) then (if 0 ≤ x13 then (if x13 < (x5.length : Int) then (crc_Bytes.l0 k x0 (x5.set (x13 : Int).toNat ((shr .u64 x0 (wrap64 (8 * x13))) % 256)) x12 (wrap64 (x13 + 1))) else (none)) else (none)) else (none)) else (some x5)
def crc_Bytes.f (k : Nat) (a0 : Int) (a1 : Int) : Option (List Int) := if 0 ≤ (mx 0 (mn a1 8)) then (if (mx 0 (mn a1 8) : Int).toNat ≤ 281474976710656 then ((some (List.replicate (mx 0 (mn a1 8) : Int).toNat 0 : List Int)).bind fun y334 => (crc_Bytes.l0 k a0 y334 (y334.length : Int) 0)) else (none)) else (none)
set_option maxHeartbeats 8000000 in
set_option maxRecDepth 100000 in
theorem crc_Bytes.calls (k : Nat) (a0 : Int) (a1 : Int) (r : List Int) (w : World) (h : crc_Bytes.f k a0 a1 = some r) :
    Calls Try.prog 45 #[.int .u64 a0, .int .i64 a1] w fun e w' => ∃ v0_ : Value, e = .returned (v0_) ∧ Kd.R (Kd.int .u8) 5 w' w.heap.size (fun _ => True) v0_ r ∧ Below w.heap.size w w' := by
  have HB := Aside0.mk (Below.refl w.heap.size w)
  have H : (if 0 ≤ (mx 0 (mn a1 8)) then (if (mx 0 (mn a1 8) : Int).toNat ≤ 281474976710656 then ((some (List.replicate (mx 0 (mn a1 8) : Int).toNat 0 : List Int)).bind fun y334 => (crc_Bytes.l0 k a0 y334 (y334.length : Int) 0)) else (none)) else (none)) = some r := h
  clear h
  obtain ⟨ji3, hji3⟩ : ∃ j_ : Int, (mn a1 8) = j_ := ⟨_, rfl⟩
  replace H : (if 0 ≤ (mx 0 (ji3)) then (if (mx 0 (ji3) : Int).toNat ≤ 281474976710656 then ((some (List.replicate (mx 0 (ji3) : Int).toNat 0 : List Int)).bind fun y334 => (crc_Bytes.l0 k a0 y334 (y334.length : Int) 0)) else (none)) else (none)) = some r := by first | (rw [hji3] at H; exact H) | (simp only [hji3] at H ⊢; exact H)
  (try (have hji3h : ji3 ≤ 8 := by (rw [← hji3]; unfold mn; (repeat' split) <;> omega)))
  (try (have hji3g : ji3 ≤ 64 := by omega))
  have hji3_ : (if 8 < a1 then 8 else a1) = ji3 := hji3
  obtain ⟨ji4, hji4⟩ : ∃ j_ : Int, (mx 0 (ji3)) = j_ := ⟨_, rfl⟩
  replace H : (if 0 ≤ (ji4) then (if (ji4 : Int).toNat ≤ 281474976710656 then ((some (List.replicate (ji4 : Int).toNat 0 : List Int)).bind fun y334 => (crc_Bytes.l0 k a0 y334 (y334.length : Int) 0)) else (none)) else (none)) = some r := by first | (rw [hji4] at H; exact H) | (simp only [hji4] at H ⊢; exact H)
  have hji4_ : (if 0 < (ji3) then (ji3) else 0) = ji4 := hji4
  by_cases c5 : 0 ≤ (ji4)
  · rw [if_pos c5] at H
    have c5b0 := eq_true c5
    have c5b1 : decide (0 ≤ (ji4)) = true := decide_eq_true c5
    clear c5
    by_cases c6 : (ji4 : Int).toNat ≤ 281474976710656
    · rw [if_pos c6] at H
      have c6b0 := eq_true c6
      have c6b1 : decide ((ji4 : Int).toNat ≤ 281474976710656) = true := decide_eq_true c6
      clear c6
      obtain ⟨y334, hy334⟩ : ∃ y_ : List Int, y_ = (List.replicate (ji4 : Int).toNat 0) := ⟨_, rfl⟩
      replace H : (crc_Bytes.l0 k a0 y334 (y334.length : Int) 0) = some r := by first | (rw [hy334]; with_reducible exact H) | (have H2_ := (Option.bind_some _ _).symm.trans H; rw [hy334]; with_reducible exact H2_) | (have H2_ := (Option.bind_some _ _).symm.trans H; with_reducible exact H2_) | with_reducible exact H | (rw [hy334]; exact H) | exact H
      have Ny334 := Aside0.mk hy334
      clear hy334
      have H' := Aside0.mk H
      clear H
      go_enter Try.func45, Try.ntmps45
      go_wp2_with (first | ((with_reducible refine gate_dst (N := 10) rfl ?_); refine Kd.R_make (Kd.int .u8) _ 5 rfl (N := 10) rfl 37 _ _ rfl ji4 rfl rfl Try.underlying37 (.int .u8 0) 1 info5 rfl (by decide) (by omega) 0 (ok := fun _ => True) (okp := fun _ => True) rfl (fun _ hk => hk) trivial (of_decide_eq_true (by first | (with_reducible assumption) | assumption)) (Nat.le_trans (Nat.mul_le_mul_right _ (of_decide_eq_true (by first | (with_reducible assumption) | assumption) : ji4.toNat ≤ 281474976710656)) (by omega)) (Below.refl _ _) (Nat.le_refl _) ?_; intro v335 w7 ho8 hb hg_ hnew_; clear hg_ hnew_; (first | rw [← Ny334.out] at ho8 | (simp only [Int.reduceToNat] at ho8; rw [← Ny334.out] at ho8)); have n0_ := Aside0.mk (Kd.R_lower ho8 (below_size (by repeat (first | (with_reducible first | exact HB.out | apply below_alloc | apply pw_below_drewN | apply below_drew1) | exact HB.out)))); have n1_ := Aside0.mk (below_step (by repeat (first | (with_reducible first | exact HB.out | apply below_alloc | apply pw_below_drewN | apply below_drew1) | exact HB.out)) hb); clear HB; have HO336 := n0_; have HB := n1_; clear n0_ n1_; clear hb ho8; obtain ⟨Ao9, co9, eo9⟩ := Kd.R_slice HO336.out; subst eo9))
      go_loopg [13] k (fun kq v13 w' => ∃ (x5_1 : List Int) (x13_1 : Int), v13 = .int .i64 x13_1 ∧ Aside0 (crc_Bytes.l0 kq a0 x5_1 (y334.length : Int) x13_1 = some r) ∧ Aside0 (kq ≤ k) ∧ Aside0 (Kd.R (Kd.int .u8) 5 w' w.heap.size (fun _ => True) (.slice Ao9 y334.length co9) x5_1) ∧ Aside0 (Below w.heap.size w w'))
      case atStart => exact ⟨(y334), (0), (by first | rfl | (simp; done) | (simp [*]; done)), H', ⟨Nat.le_refl _⟩, ⟨by (with_reducible repeat (first | apply Kd.R_alloc | apply Kd.R_drewN | apply Kd.R_drew)); exact HO336.out⟩, ⟨by repeat (first | (with_reducible first | exact HB.out | apply below_alloc | apply pw_below_drewN | apply below_drew1) | exact HB.out)⟩⟩
      case round =>
        clear H'
        try clear p2
        try clear c4
        try clear c5
        try clear c5b0
        try clear c5b1
        try clear c6
        try clear c6b0
        try clear c6b1
        obtain ⟨x5_1, x13_1, rfl, HA, HK1, HO_5, HB⟩ := hrel
        have hl5_1 := (Kd.R_reads' HO_5.out).1
        rw [hl5_1] at HO_5
        (try simp only [hl5_1])
        cases gk with
        | zero => exact absurd HA.out (by intro h_; cases h_)
        | succ k1 =>
          have H := HA.out
          clear HA
          simp only [crc_Bytes.l0] at H
          by_cases c10 : x13_1 < (y334.length : Int)
          · rw [if_pos c10] at H
            have c10b0 : decide (x13_1 < (y334.length : Int)) = true := decide_eq_true c10
            have c10b0x5_1 : decide (x13_1 < (x5_1.length : Int)) = true := by rw [← hl5_1]; exact c10b0
            clear c10
            obtain ⟨ji11, hji11⟩ : ∃ j_ : Int, (wrap64 (8 * x13_1)) = j_ := ⟨_, rfl⟩
            replace H : (if 0 ≤ (ji11) then (if 0 ≤ x13_1 then (if x13_1 < (x5_1.length : Int) then (crc_Bytes.l0 k1 a0 (x5_1.set (x13_1 : Int).toNat ((shr .u64 a0 (ji11)) % 256)) (y334.length : Int) (wrap64 (x13_1 + 1))) else (none)) else (none)) else (none)) = some r := by first | (rw [hji11] at H; exact H) | (simp only [hji11] at H ⊢; exact H)
            have hji11w : (IntKind.i64.wrap (8 * x13_1)) = ji11 := (i64_w _).trans hji11
            (try rw [hji11] at c5b0)
            (try rw [hji11] at c5b1)
            (try rw [hji11] at c6b0)
            (try rw [hji11] at c6b1)
            (try rw [hji11] at c10b0)
            by_cases c12 : 0 ≤ (ji11)
            · rw [if_pos c12] at H
              have c12b0 := eq_true c12
              have c12b1 : decide (0 ≤ (ji11)) = true := decide_eq_true c12
              clear c12
              obtain ⟨ji13, hji13⟩ : ∃ j_ : Int, (shr .u64 a0 (ji11)) = j_ := ⟨_, rfl⟩
              replace H : (if 0 ≤ x13_1 then (if x13_1 < (x5_1.length : Int) then (crc_Bytes.l0 k1 a0 (x5_1.set (x13_1 : Int).toNat ((ji13) % 256)) (y334.length : Int) (wrap64 (x13_1 + 1))) else (none)) else (none)) = some r := by first | (rw [hji13] at H; exact H) | (simp only [hji13] at H ⊢; exact H)
              have hji13_ : (a0 / 2 ^ min (ji11).toNat 64) = ji13 := hji13
              have hji13z : (ji11) ≤ 64 → (a0 / 2 ^ (ji11).toNat) = ji13 := shr_small hji13
              by_cases c14 : 0 ≤ x13_1
              · rw [if_pos c14] at H
                have c14b0 : decide (0 ≤ x13_1) = true := decide_eq_true c14
                clear c14
                by_cases c15 : x13_1 < (x5_1.length : Int)
                · rw [if_pos c15] at H
                  have c15b0 : decide (x13_1 < (x5_1.length : Int)) = true := decide_eq_true c15
                  clear c15
                  obtain ⟨y337, hy337⟩ : ∃ y_ : List Int, y_ = (x5_1.set (x13_1 : Int).toNat ((ji13) % 256)) := ⟨_, rfl⟩
                  replace H : (crc_Bytes.l0 k1 a0 y337 (y334.length : Int) (wrap64 (x13_1 + 1))) = some r := by first | (rw [hy337]; with_reducible exact H) | (have H2_ := (Option.bind_some _ _).symm.trans H; rw [hy337]; with_reducible exact H2_) | (have H2_ := (Option.bind_some _ _).symm.trans H; with_reducible exact H2_) | with_reducible exact H | (rw [hy337]; exact H) | exact H
                  have Ny337 := Aside0.mk hy337
                  clear hy337
                  have H' := Aside0.mk H
                  clear H
                  have p16 : 0 ≤ (x13_1 : Int) := of_decide_eq_true (by first | (with_reducible assumption) | assumption)
                  have q16 : (x13_1 : Int) < ((x5_1.length : Int) : Int) := of_decide_eq_true (by first | (with_reducible assumption) | assumption)
                  obtain ⟨go16, co16, eo16, gb16, gl16, cl16, HG16⟩ := Kd.R_form HO_5.out (by omega)
                  (first | cases eo16 | (injection eo16 with ea_ en_ ec_; (first | subst ea_ | (injection ea_ with ea_; subst ea_)); subst ec_; clear en_))
                  have GB16 := Aside0.mk gb16
                  have GG16 := Aside0.mk HG16
                  clear gb16 gl16 HG16
                  obtain ⟨hx16_0, hf16_0⟩ := Kd.R_celln 0 HO_5.out (x13_1 : Int) p16 q16
                  replace p16 := eq_true p16
                  replace q16 := eq_true q16
                  have HP17 := Kd.R_putg HO_5.out (x13_1 : Int) ((ji13) % 256)
                  go_wp2_with (first | ((with_reducible refine gate_store (t := 5) (p := 23) rfl ?_); refine store_event (t := 5) (p := 23) (v := ?vo_w18) (w1 := (wr.setCell ⟨go16, (x13_1 : Int).toNat, none⟩ (.int .u8 ((ji13) % 256)))) ?hg ?ho ?hn ?hr ?_; (case ho => rfl); (case hg => rfl); (case hn => rfl); (case hr => first | (go_simp; done) | (go_simp; rfl)); intro w18 hw; have hg : wr.grownBy w18 (some go16) := (by rw [hw]; exact HP17.2); have hp_ : Kd.R (Kd.int .u8) 5 w18 w.heap.size (fun _ => True) (.slice (some ⟨go16, 0, none⟩) x5_1.length co9) y337 := (by rw [hw, Ny337.out]; exact HP17.1); clear HP17; have n0_ := Aside0.mk (hp_); have n1_ := Aside0.mk ((by rw [hw]; exact below_set (HB.out) GB16.out : Below w.heap.size w w18)); clear HO_5; clear HB; have HO_5 := n0_; have HB := n1_; clear n0_ n1_; clear hg hw hp_))
                  (try simp only [← hl5_1])
                  go_roundg k1
                  case measure => have := HK1.out; omega
                  case rel => exact ⟨(y337), (wrap64 (x13_1 + 1)), (by first | rfl | (simp; done) | (simp [*]; done)), H', ⟨by have := HK1.out; omega⟩, ⟨by (try simp only [hl5_1]); (with_reducible repeat (first | apply Kd.R_alloc | apply Kd.R_drewN | apply Kd.R_drew)); exact HO_5.out⟩, ⟨by repeat (first | (with_reducible first | exact HB.out | apply below_alloc | apply pw_below_drewN | apply below_drew1) | exact HB.out)⟩⟩
                · rw [if_neg c15] at H
                  exact absurd H (by simp)
              · rw [if_neg c14] at H
                exact absurd H (by simp)
            · rw [if_neg c12] at H
              exact absurd H (by simp)
          · rw [if_neg c10] at H
            have c10b0 : decide (x13_1 < (y334.length : Int)) = false := decide_eq_false c10
            have c10b0x5_1 : decide (x13_1 < (x5_1.length : Int)) = false := by rw [← hl5_1]; exact c10b0
            clear c10
            obtain rfl := Option.some.inj H
            go_wp2
            go_ret
            exact ⟨_, by first | rfl | (simp [errW_none, errW_some] <;> rfl) | (simp only [← hji3, ← hji4]; first | rfl | (simp [errW_none, errW_some] <;> rfl)) | (simp [*, errW_none, errW_some] <;> rfl), by (with_reducible repeat (first | apply Kd.R_alloc | apply Kd.R_drewN | apply Kd.R_drew)); exact HO_5.out, by repeat (first | (with_reducible first | exact HB.out | apply below_alloc | apply pw_below_drewN | apply below_drew1) | exact HB.out)⟩
    · rw [if_neg c6] at H
      exact absurd H (by simp)
  · rw [if_neg c5] at H
    exact absurd H (by simp)
end Go.Proofs.Ytffaggckhneakaa.Pr
end
section
namespace Go.Proofs.Ytffaggckhneakaa.Cr
open Go.RowKit Go.Proofs.YtffaggckhneakaaW.PrintWords Go.Proofs.YtffaggckhneakaaW.PrintMore Go.Proofs.Ytffaggckhneakaa.Pr Go.Proofs.Ytffaggckhneakaa.Od
set_option linter.unusedVariables false
set_option linter.unusedSimpArgs false
theorem Ev.succ {α : Type} {g : Nat → Option α} {r : α} (h : Ev (fun k => g (k + 1)) r) : Ev g r := Ev.step (fun _ => rfl) h
theorem bs {α β : Type} (a : α) (f : α → Option β) : (some a).bind f = f a := by
  cases h : f a with
  | none => exact (Option.bind_some a f).trans h
  | some v => exact (Option.bind_some a f).trans h
theorem w64 {n : Int} (h0 : -9223372036854775808 ≤ n) (h1 : n ≤ 9223372036854775807) : wrap64 n = n := by unfold wrap64; omega
theorem u32w (n : Int) : IntKind.u32.wrap n = n % 4294967296 := by simp [IntKind.wrap, IntKind.signed, IntKind.bits]
theorem u64w (n : Int) : IntKind.u64.wrap n = n % 18446744073709551616 := by simp [IntKind.wrap, IntKind.signed, IntKind.bits]
theorem xor32 (a b : Int) : Go.bits .xor .u32 a b = ((BitVec.ofInt 32 a ^^^ BitVec.ofInt 32 b).toNat : Int) := by
  unfold Go.bits
  rw [u32w]
  have := (BitVec.ofInt 32 a ^^^ BitVec.ofInt 32 b).isLt
  show (((BitVec.ofInt 32 a ^^^ BitVec.ofInt 32 b).toNat : Nat) : Int) % 4294967296 = _
  omega
theorem and32 (a b : Int) : Go.bits .and .u32 a b = ((BitVec.ofInt 32 a &&& BitVec.ofInt 32 b).toNat : Int) := by
  unfold Go.bits
  rw [u32w]
  have := (BitVec.ofInt 32 a &&& BitVec.ofInt 32 b).isLt
  show (((BitVec.ofInt 32 a &&& BitVec.ofInt 32 b).toNat : Nat) : Int) % 4294967296 = _
  omega
theorem of_to (w : B32) : BitVec.ofInt 32 (w.toNat : Int) = w := by simp
theorem of_mod (c : Int) : BitVec.ofInt 32 (c % 4294967296) = BitVec.ofInt 32 c := by
  apply BitVec.eq_of_toNat_eq
  rw [BitVec.toNat_ofInt, BitVec.toNat_ofInt]
  omega
theorem half (w : B32) : ((w.toNat : Int) / (2 : Int)) = ((w >>> 1).toNat : Int) := by
  rw [BitVec.toNat_ushiftRight, Nat.shiftRight_eq_div_pow]; omega
theorem lsb_odd (w : B32) : w.getLsbD 0 = decide (w.toNat % 2 = 1) := by
  rw [BitVec.getLsbD, Nat.testBit_zero]
theorem and_one (w : B32) : (w &&& BitVec.ofInt 32 1).toNat = if w.getLsbD 0 then 1 else 0 := by
  rw [BitVec.toNat_and, lsb_odd]
  show w.toNat &&& 1 = _
  rw [Nat.and_one_is_mod]
  by_cases h : w.toNat % 2 = 1
  · simp [h]
  · simp [h]; omega
theorem round_prog (w : B32) : Go.bits .xor .u32 ((w.toNat : Int) / 2) (Go.bits .and .u32 2197175160 ((-(Go.bits .and .u32 (w.toNat : Int) 1)) % 4294967296)) = ((T w).toNat : Int) := by
  rw [half, xor32, of_to, and32, and32, of_to, of_to, and_one]
  unfold T
  by_cases h : w.getLsbD 0
  · rw [if_pos h, if_pos h]; rfl
  · rw [if_neg h, if_neg h]; rfl
theorem nibble_ev (w : B32) : Ev (fun k => crc_nibble.f k (w.toNat : Int)) ((Tn 4 w).toNat : Int) := by
  unfold crc_nibble.f
  have key : ∀ (n i : Nat) (v : B32), i + n = 4 → Ev (fun k => crc_nibble.l0 k (v.toNat : Int) (i : Int)) ((Tn n v).toNat : Int) := by
    intro n
    induction n with
    | zero =>
      intro i v hi
      refine Ev.succ ?_
      simp only [crc_nibble.l0, if_neg (show ¬((i : Int) < 4) by omega)]
      exact Ev.now _
    | succ n ih =>
      intro i v hi
      refine Ev.succ ?_
      simp only [crc_nibble.l0, if_pos (show (i : Int) < 4 by omega), round_prog, w64 (show -9223372036854775808 ≤ (i : Int) + 1 by omega) (by omega)]
      exact ih (i + 1) (T v) (by omega)
  exact key 4 0 w rfl
theorem low_half (w : B32) : (w &&& BitVec.ofInt 32 15) = BitVec.ofNat 32 (w.toNat % 16) := by
  apply BitVec.eq_of_toNat_eq
  rw [BitVec.toNat_and, BitVec.toNat_ofNat]
  show w.toNat &&& 15 = _
  rw [show (15 : Nat) = 2 ^ 4 - 1 from rfl, Nat.and_two_pow_sub_one_eq_mod]
  omega
theorem Tn4_high (v : B32) : Tn 4 (v <<< 4) = (v <<< 4) >>> 4 := by
  have h : ∀ k, k ≤ 4 → Tn k (v <<< 4) = (v <<< 4) >>> k := by
    intro k
    induction k with
    | zero => intro _; simp [Tn]
    | succ k ih =>
      intro hk
      rw [Tn_add k 1, ih (by omega)]
      show T _ = _
      rw [T_shift, ← BitVec.shiftRight_add]
      rw [BitVec.getLsbD_ushiftRight, BitVec.getLsbD_shiftLeft]
      simp; omega
  exact h 4 (Nat.le_refl _)
theorem nib_split (w : B32) : w = BitVec.ofNat 32 (w.toNat % 16) ^^^ ((w >>> 4) <<< 4) := by
  apply BitVec.eq_of_getLsbD_eq
  intro i hi
  rw [BitVec.getLsbD_xor, BitVec.getLsbD_shiftLeft, BitVec.getLsbD_ushiftRight]
  simp only [BitVec.getLsbD_ofNat, hi, decide_true, Bool.true_and]
  rw [show (16 : Nat) = 2 ^ 4 from rfl, Nat.testBit_mod_two_pow]
  by_cases h : i < 4
  · simp [h, BitVec.getLsbD]
  · have e : 4 + (i - 4) = i := by omega
    simp [h, e]
theorem nib (w : B32) : Tn 4 w = (w >>> 4) ^^^ Tn 4 (w &&& BitVec.ofInt 32 15) := by
  rw [low_half]
  conv => lhs; rw [nib_split w]
  rw [Tn_xor, Tn4_high, BitVec.xor_comm]
  congr 1
  apply BitVec.eq_of_getLsbD_eq
  intro i hi
  simp only [BitVec.getLsbD_ushiftRight, BitVec.getLsbD_shiftLeft]
  by_cases h : 4 + i < 32
  · simp [h]
  · have e : w.getLsbD (4 + i) = false := BitVec.getLsbD_of_ge _ _ (by omega)
    simp [h, e]
theorem sixteenth (w : B32) : ((w.toNat : Int) / (16 : Int)) = ((w >>> 4).toNat : Int) := by
  rw [BitVec.toNat_ushiftRight, Nat.shiftRight_eq_div_pow]; omega
theorem more_ev (bs : List Int) (h : bs.length < 512) (u : B32) : Ev (fun k => crc_More.f k (u.toNat : Int) bs) ((~~~ regB (~~~ u) bs).toNat : Int) := by
  unfold crc_More.f
  simp only [if_pos (show (bs.length : Int) < 512 by omega)]
  have key : ∀ (n i : Nat) (v : B32), i + n = bs.length → Ev (fun k => crc_More.l0 k (v.toNat : Int) bs (bs.length : Int) (i : Int)) ((~~~ regB v (bs.drop i)).toNat : Int) := by
    intro n
    induction n with
    | zero =>
      intro i v hi
      refine Ev.succ ?_
      simp only [crc_More.l0, if_neg (show ¬((i : Int) < (bs.length : Int)) by omega)]
      rw [List.drop_of_length_le (by omega), regB_nil, xor32, of_to]
      rw [show BitVec.ofInt 32 4294967295 = BitVec.allOnes 32 by decide, BitVec.allOnes_xor]
      exact Ev.now _
    | succ n ih =>
      intro i v hi
      refine Ev.succ ?_
      simp only [crc_More.l0]
      have hil : i < bs.length := by omega
      have e1 : Go.bits .xor .u32 (v.toNat : Int) (rd bs (i : Int) % 4294967296) = ((v ^^^ BitVec.ofInt 32 (rd bs i)).toNat : Int) := by rw [xor32, of_to, of_mod]
      have e2 : ∀ x : B32, Go.bits .and .u32 (x.toNat : Int) 15 = ((x &&& BitVec.ofInt 32 15).toNat : Int) := fun x => by rw [and32, of_to]
      have e3 : ∀ x y : B32, Go.bits .xor .u32 (x.toNat : Int) (y.toNat : Int) = ((x ^^^ y).toNat : Int) := fun x y => by rw [xor32, of_to, of_to]
      simp only [if_pos (show (i : Int) < (bs.length : Int) by omega), if_pos (show (0 : Int) ≤ (i : Int) by omega), e1, e2, sixteenth]
      refine Ev.bind (nibble_ev _) ?_
      simp only [e3, e2, ← nib]
      refine Ev.bind (nibble_ev _) ?_
      simp only [e3, sixteenth, ← nib]
      rw [w64 (by omega) (by omega), ← Tn_add 4 4, show (i : Int) + 1 = ((i + 1 : Nat) : Int) by omega]
      have := ih (i + 1) (Tn 8 (v ^^^ BitVec.ofInt 32 (rd bs i))) (by omega)
      rw [List.drop_eq_getElem_cons hil, regB_cons]
      have er : rd bs (i : Int) = bs[i] := by unfold rd; rw [List.getD_eq_getElem?_getD, Int.toNat_natCast, List.getElem?_eq_getElem hil]; rfl
      rw [er] at this ⊢
      exact this
  have := key bs.length 0 (~~~ u) (by omega)
  rw [List.drop_zero] at this
  have e : Go.bits .xor .u32 4294967295 (u.toNat : Int) = ((~~~ u).toNat : Int) := by
    rw [xor32, of_to, show BitVec.ofInt 32 4294967295 = BitVec.allOnes 32 by decide, BitVec.allOnes_xor]
  rw [e]
  exact this
theorem crc_sum_ev (bs : List Int) (h : bs.length < 512) : Ev (fun k => crc_Sum.f k bs) ((sumB bs).toNat : Int) := by
  unfold crc_Sum.f
  have := more_ev bs h 0#32
  refine Ev.bind this (Ev.now _)
theorem bytesN_len : ∀ n v, (bytesN n v).length = n
  | 0, _ => rfl
  | n + 1, v => by rw [bytesN, List.length_cons, bytesN_len n]
theorem bytesN_snoc : ∀ n v, bytesN (n + 1) v = bytesN n v ++ [((v / 256 ^ n % 256 : Nat) : Int)]
  | 0, v => by simp [bytesN]
  | n + 1, v => by
    rw [bytesN, bytesN_snoc n, bytesN, List.cons_append, Nat.div_div_eq_div_mul, Nat.pow_succ, Nat.mul_comm]
theorem shr_byte (v i : Nat) (hi : i < 8) : shr .u64 (v : Int) (wrap64 (8 * (i : Int))) % 256 = ((v / 256 ^ i % 256 : Nat) : Int) := by
  rw [w64 (by omega) (by omega)]
  unfold shr
  have e : min (8 * (i : Int)).toNat IntKind.u64.bits = 8 * i := by
    show min _ 64 = _
    omega
  rw [e, show (256 : Nat) = 2 ^ 8 from rfl, ← Nat.pow_mul]
  rw [show ((2 : Int) ^ (8 * i)) = ((2 ^ (8 * i) : Nat) : Int) by push_cast; rfl]
  omega
theorem crc_bytes_ev (v n : Nat) (hn : n ≤ 8) : Ev (fun k => crc_Bytes.f k (v : Int) (n : Int)) (bytesN n v) := by
  have hm : mx 0 (mn (n : Int) 8) = n := by unfold mx mn; split <;> split <;> omega
  unfold crc_Bytes.f
  simp only [hm, if_pos (show (0 : Int) ≤ (n : Int) by omega), Option.bind_some, Int.toNat_natCast, List.length_replicate, if_pos (show n ≤ 281474976710656 by omega)]
  have key : ∀ (m i : Nat), i + m = n → Ev (fun k => crc_Bytes.l0 k (v : Int) (bytesN i v ++ List.replicate m 0) (n : Int) (i : Int)) (bytesN n v) := by
    intro m
    induction m with
    | zero =>
      intro i hi
      refine Ev.succ ?_
      simp only [crc_Bytes.l0, if_neg (show ¬((i : Int) < (n : Int)) by omega)]
      obtain rfl : i = n := by omega
      rw [List.replicate_zero, List.append_nil]
      exact Ev.now _
    | succ m ih =>
      intro i hi
      refine Ev.succ ?_
      have hl : (bytesN i v ++ List.replicate (m + 1) (0 : Int)).length = n := by rw [List.length_append, bytesN_len, List.length_replicate]; omega
      have h0 : 0 ≤ wrap64 (8 * (i : Int)) := by rw [w64 (by omega) (by omega)]; omega
      simp only [crc_Bytes.l0, if_pos (show (i : Int) < (n : Int) by omega), if_pos h0, if_pos (show (0 : Int) ≤ (i : Int) by omega), hl, shr_byte v i (by omega), Int.toNat_natCast, w64 (show -9223372036854775808 ≤ (i : Int) + 1 by omega) (by omega)]
      have hs : (bytesN i v ++ List.replicate (m + 1) (0 : Int)).set i ((v / 256 ^ i % 256 : Nat) : Int) = bytesN (i + 1) v ++ List.replicate m 0 := by
        rw [bytesN_snoc, List.set_append, if_neg (by rw [bytesN_len]; omega), bytesN_len, Nat.sub_self, List.replicate_succ, List.set_cons_zero, List.append_assoc]; rfl
      rw [hs]
      exact ih (i + 1) (by omega)
  exact key n 0 (by omega)
end Go.Proofs.Ytffaggckhneakaa.Cr
end
section
namespace Go.Proofs.Ytffaggckhneakaa.Pr
open Go.RowKit Go.Proofs.YtffaggckhneakaaW.PrintWords Go.Proofs.YtffaggckhneakaaW.PrintLast Go.Proofs.YtffaggckhneakaaW.PrintMore
attribute [local go_sem] max2_int min2_int max_two min_two max_three min_three max_four min_four
attribute [local go_sem] Go.Proofs.Ytffaggckhneakaa.Hl.str_geq Go.Proofs.Ytffaggckhneakaa.Hl.str_gtr Go.Proofs.Ytffaggckhneakaa.Hl.str_leq
set_option linter.unusedVariables false
set_option linter.unusedSimpArgs false
def attr_may.f (a0_0 : ByteArray) (a0_1 : ByteArray) : Option (Bool) := if a0_0.toList = ([] : List UInt8) then (some false) else (if (a0_0.size : Int) ≤ 16 then (some (decide ((a0_1.size : Int) ≤ 64))) else (some false))
set_option maxHeartbeats 8000000 in
set_option maxRecDepth 100000 in
theorem attr_may.calls (a0_0 : ByteArray) (a0_1 : ByteArray) (r : Bool) (w : World) (h : attr_may.f a0_0 a0_1 = some r) :
    Calls Try.prog 36 #[.agg #[.string a0_0, .string a0_1]] w fun e w' => e = .returned (.bool r) ∧ Below w.heap.size w w' := by
  have hu26 := Try.underlying26
  have HB := Aside0.mk (Below.refl w.heap.size w)
  have H : (if a0_0.toList = ([] : List UInt8) then (some false) else (if (a0_0.size : Int) ≤ 16 then (some (decide ((a0_1.size : Int) ≤ 64))) else (some false))) = some r := h
  clear h
  by_cases c2 : a0_0.toList = ([] : List UInt8)
  · rw [if_pos c2] at H
    have c2b0 : (a0_0.toList == ([] : List UInt8)) = true := beq_iff_eq.mpr c2
    have c2b1 : (a0_0.toList != ([] : List UInt8)) = false := bne_eq_false_iff_eq.mpr c2
    clear c2
    obtain rfl := Option.some.inj H
    go_enter Try.func36, Try.ntmps36
    go_wp2_with (first | ((with_reducible refine gate_dst (N := 1) rfl ?_); (try (refine gate_guard (by rfl) ?_; dsimp only)); refine box_event ?hg (N := 1) ?hd (cs := #[.string a0_0, .string a0_1]) (t := 26) ?hr ?_; (case hd => rfl); (case hg => rfl); (case hr => first | (go_simp; done) | (go_simp; rfl)); intro gb315 hg w3 hbox hb; have n0_ := Aside0.mk (below_step (by repeat (first | (with_reducible first | exact HB.out | apply below_alloc | apply pw_below_drewN | apply below_drew1) | exact HB.out)) hb); have n1_ := Aside0.mk (hbox); have n2_ := Aside0.mk ((by rw [hg]; exact (below_size (by repeat (first | (with_reducible first | exact HB.out | apply below_alloc | apply pw_below_drewN | apply below_drew1) | exact HB.out))) : w.heap.size ≤ gb315)); have n3_ := Aside0.mk ((by rw [hg]; exact (below_size (by repeat (first | (with_reducible first | exact HB.out | apply below_alloc | apply pw_below_drewN | apply below_drew1) | exact HB.out))) : w.heap.size ≤ gb315)); clear HB; have HB := n0_; have BK315 := n1_; have GW315 := n2_; have GE315 := n3_; clear n0_ n1_ n2_ n3_; clear hb hbox hg; have hcz4_0 : w3.cell? ⟨gb315, 0, none⟩ = some (.string a0_0) := (blk_cell BK315.out 0).trans rfl; have hcz4_1 : w3.cell? ⟨gb315, 1, none⟩ = some (.string a0_1) := (blk_cell BK315.out 1).trans rfl; have hfz4_0 := blk_frozen BK315.out 0; have hfz4_1 := blk_frozen BK315.out 1))
    go_ret
    exact ⟨by first | rfl | (simp [errW_none, errW_some] <;> rfl) | (simp [*, errW_none, errW_some] <;> rfl), by repeat (first | (with_reducible first | exact HB.out | apply below_alloc | apply pw_below_drewN | apply below_drew1 | refine below_set ?_ GE315.out) | exact HB.out)⟩
  · rw [if_neg c2] at H
    have c2b0 : (a0_0.toList == ([] : List UInt8)) = false := beq_eq_false_iff_ne.mpr c2
    have c2b1 : (a0_0.toList != ([] : List UInt8)) = true := bne_iff_ne.mpr c2
    by_cases c5 : (a0_0.size : Int) ≤ 16
    · rw [if_pos c5] at H
      have c5b0 : decide ((a0_0.size : Int) ≤ 16) = true := decide_eq_true c5
      have c5b1 : decide (a0_0.size ≤ 16) = true := decide_eq_true (by omega)
      clear c5
      obtain rfl := Option.some.inj H
      go_enter Try.func36, Try.ntmps36
      go_wp2_with (first | ((with_reducible refine gate_dst (N := 1) rfl ?_); (try (refine gate_guard (by rfl) ?_; dsimp only)); refine box_event ?hg (N := 1) ?hd (cs := #[.string a0_0, .string a0_1]) (t := 26) ?hr ?_; (case hd => rfl); (case hg => rfl); (case hr => first | (go_simp; done) | (go_simp; rfl)); intro gb315 hg w6 hbox hb; have n0_ := Aside0.mk (below_step (by repeat (first | (with_reducible first | exact HB.out | apply below_alloc | apply pw_below_drewN | apply below_drew1) | exact HB.out)) hb); have n1_ := Aside0.mk (hbox); have n2_ := Aside0.mk ((by rw [hg]; exact (below_size (by repeat (first | (with_reducible first | exact HB.out | apply below_alloc | apply pw_below_drewN | apply below_drew1) | exact HB.out))) : w.heap.size ≤ gb315)); have n3_ := Aside0.mk ((by rw [hg]; exact (below_size (by repeat (first | (with_reducible first | exact HB.out | apply below_alloc | apply pw_below_drewN | apply below_drew1) | exact HB.out))) : w.heap.size ≤ gb315)); clear HB; have HB := n0_; have BK315 := n1_; have GW315 := n2_; have GE315 := n3_; clear n0_ n1_ n2_ n3_; clear hb hbox hg; have hcz7_0 : w6.cell? ⟨gb315, 0, none⟩ = some (.string a0_0) := (blk_cell BK315.out 0).trans rfl; have hcz7_1 : w6.cell? ⟨gb315, 1, none⟩ = some (.string a0_1) := (blk_cell BK315.out 1).trans rfl; have hfz7_0 := blk_frozen BK315.out 0; have hfz7_1 := blk_frozen BK315.out 1))
      go_ret
      exact ⟨by first | rfl | (simp [errW_none, errW_some] <;> rfl) | (simp [*, errW_none, errW_some] <;> rfl), by repeat (first | (with_reducible first | exact HB.out | apply below_alloc | apply pw_below_drewN | apply below_drew1 | refine below_set ?_ GE315.out) | exact HB.out)⟩
    · rw [if_neg c5] at H
      have c5b0 : decide ((a0_0.size : Int) ≤ 16) = false := decide_eq_false c5
      have c5b1 : decide (a0_0.size ≤ 16) = false := decide_eq_false (by omega)
      clear c5
      obtain rfl := Option.some.inj H
      go_enter Try.func36, Try.ntmps36
      go_wp2_with (first | ((with_reducible refine gate_dst (N := 1) rfl ?_); (try (refine gate_guard (by rfl) ?_; dsimp only)); refine box_event ?hg (N := 1) ?hd (cs := #[.string a0_0, .string a0_1]) (t := 26) ?hr ?_; (case hd => rfl); (case hg => rfl); (case hr => first | (go_simp; done) | (go_simp; rfl)); intro gb315 hg w8 hbox hb; have n0_ := Aside0.mk (below_step (by repeat (first | (with_reducible first | exact HB.out | apply below_alloc | apply pw_below_drewN | apply below_drew1) | exact HB.out)) hb); have n1_ := Aside0.mk (hbox); have n2_ := Aside0.mk ((by rw [hg]; exact (below_size (by repeat (first | (with_reducible first | exact HB.out | apply below_alloc | apply pw_below_drewN | apply below_drew1) | exact HB.out))) : w.heap.size ≤ gb315)); have n3_ := Aside0.mk ((by rw [hg]; exact (below_size (by repeat (first | (with_reducible first | exact HB.out | apply below_alloc | apply pw_below_drewN | apply below_drew1) | exact HB.out))) : w.heap.size ≤ gb315)); clear HB; have HB := n0_; have BK315 := n1_; have GW315 := n2_; have GE315 := n3_; clear n0_ n1_ n2_ n3_; clear hb hbox hg; have hcz9_0 : w8.cell? ⟨gb315, 0, none⟩ = some (.string a0_0) := (blk_cell BK315.out 0).trans rfl; have hcz9_1 : w8.cell? ⟨gb315, 1, none⟩ = some (.string a0_1) := (blk_cell BK315.out 1).trans rfl; have hfz9_0 := blk_frozen BK315.out 0; have hfz9_1 := blk_frozen BK315.out 1))
      go_ret
      exact ⟨by first | rfl | (simp [errW_none, errW_some] <;> rfl) | (simp [*, errW_none, errW_some] <;> rfl), by repeat (first | (with_reducible first | exact HB.out | apply below_alloc | apply pw_below_drewN | apply below_drew1 | refine below_set ?_ GE315.out) | exact HB.out)⟩
end Go.Proofs.Ytffaggckhneakaa.Pr
end
section
namespace Go.Proofs.Ytffaggckhneakaa.Pr
open Go.RowKit Go.Proofs.YtffaggckhneakaaW.PrintWords Go.Proofs.YtffaggckhneakaaW.PrintLast Go.Proofs.YtffaggckhneakaaW.PrintMore
attribute [local go_sem] max2_int min2_int max_two min_two max_three min_three max_four min_four
attribute [local go_sem] Go.Proofs.Ytffaggckhneakaa.Hl.str_geq Go.Proofs.Ytffaggckhneakaa.Hl.str_gtr Go.Proofs.Ytffaggckhneakaa.Hl.str_leq
set_option linter.unusedVariables false
set_option linter.unusedSimpArgs false
def strings_Compare.f (a0 : ByteArray) (a1 : ByteArray) : Option (Int) := some (Lib.compareBytes a0.data.toList a1.data.toList)
set_option maxHeartbeats 8000000 in
set_option maxRecDepth 100000 in
theorem strings_Compare.calls (a0 : ByteArray) (a1 : ByteArray) (r : Int) (w : World) (h : strings_Compare.f a0 a1 = some r) :
    Calls Try.prog 50 #[.string a0, .string a1] w fun e w' => e = .returned (.int .i64 r) ∧ Drawn0 w w' := by
  obtain rfl := Option.some.inj h
  exact (Try.strings_Compare a0 a1 w).mono (fun e w' ⟨he, hw⟩ => ⟨he, ⟨⟨0, by rw [hw]; rfl⟩⟩⟩)
end Go.Proofs.Ytffaggckhneakaa.Pr
end
section
namespace Go.Proofs.Ytffaggckhneakaa.Pr
open Go.RowKit Go.Proofs.YtffaggckhneakaaW.PrintWords Go.Proofs.YtffaggckhneakaaW.PrintLast Go.Proofs.YtffaggckhneakaaW.PrintMore
attribute [local go_sem] max2_int min2_int max_two min_two max_three min_three max_four min_four
attribute [local go_sem] Go.Proofs.Ytffaggckhneakaa.Hl.str_geq Go.Proofs.Ytffaggckhneakaa.Hl.str_gtr Go.Proofs.Ytffaggckhneakaa.Hl.str_leq
set_option linter.unusedVariables false
set_option linter.unusedSimpArgs false
def attr_check.l0 : Nat → List (S26) → Int → List (S26) → Int → Int → Option (Bool × Int)
  | 0, _, _, _, _, _ => none
  | k + 1, x0, x4, x7, x8, x9 => if x9 < x8 then (if 0 ≤ x9 then (if x9 < (x7.length : Int) then ((attr_may.f ((rd_T26 x7 x9).f0) ((rd_T26 x7 x9).f1)).bind fun t318 => (if t318 = true then (if x9 > 0 then (if 0 ≤ (wrap64 (x9 - 1)) then (if (wrap64 (x9 - 1)) < (x0.length : Int) then ((strings_Compare.f ((rd_T26 x0 (wrap64 (x9 - 1))).f0) ((rd_T26 x7 x9).f0)).bind fun t320 => (if t320 ≥ 0 then (some (false, 1)) else (attr_check.l0 k x0 (wrap64 (x4 + (wrap64 ((wrap64 (2 + (((rd_T26 x7 x9).f0).size : Int))) + (((rd_T26 x7 x9).f1).size : Int))))) x7 x8 (wrap64 (x9 + 1))))) else (none)) else (none)) else (attr_check.l0 k x0 (wrap64 (x4 + (wrap64 ((wrap64 (2 + (((rd_T26 x7 x9).f0).size : Int))) + (((rd_T26 x7 x9).f1).size : Int))))) x7 x8 (wrap64 (x9 + 1)))) else (some (false, 1)))) else (none)) else (none)) else (some (decide (x4 ≤ 252), 0))
def attr_check.f (k : Nat) (l0 : List (S26)) : Option (Bool × Int) := attr_check.l0 k l0 2 l0 (l0.length : Int) 0
def attr_check.T5 : Bool × List (List Nat × List Nat) := (true, [([], []), ([0], [0]), ([1], [1]), ([2, 1], [2]), ([3], [3]), ([4, 3], [3, 4]), ([5, 3, 3], [3, 5]), ([6], [6]), ([6], [6]), ([8, 6], [6, 8]), ([7, 9, 6], [6, 7, 9]), ([10, 6], [6, 10]), ([11, 6], [6, 11]), ([6], [6]), ([13, 6], [6, 13]), ([12, 14, 6, 6], [6, 12, 14]), ([15, 6], [6, 15]), ([6, 16, 3], [3, 6, 16]), ([3, 17], [3, 17])])
def attr_check.B5 : List Nat := [0, 1, 3, 7, 15, 31, 63, 127, 127, 383, 1023, 2047, 4095, 127, 8319, 32767, 65535, 131071, 262143]
theorem attr_check.tab5 : rtab .any (opsOf Try.f35 5) = attr_check.T5 := by kernel_rfl
theorem attr_check.bits5 : waitsOk attr_check.T5.2 attr_check.B5 = true := by kernel_rfl
set_option maxHeartbeats 8000000 in
set_option maxRecDepth 100000 in
theorem attr_check.calls (k : Nat) (A0 : Option Addr) (c0 : Nat) (l0 : List (S26)) (r1 : Bool) (r2 : Int) (w : World) (hr0 : Kd.C k26 w A0 l0.length l0) (hc0 : l0.length ≤ c0) (h : attr_check.f k l0 = some (r1, r2)) :
    Calls Try.prog 35 #[.slice A0 l0.length c0] w fun e w' => e = .returned (.tuple #[.bool r1, .int .i64 r2]) ∧ Below w.heap.size w w' := by
  have hu26 := Try.underlying26
  have HR0 := Aside0.mk hr0
  have HC0 := Aside0.mk hc0
  clear hr0 hc0
  have HB := Aside0.mk (Below.refl w.heap.size w)
  have H : (attr_check.l0 k l0 2 l0 (l0.length : Int) 0) = some (r1, r2) := h
  clear h
  have H' := Aside0.mk H
  clear H
  go_enter Try.func35, Try.ntmps35
  go_wp2
  go_loopg [4, 9] k (fun kq v4 v9 w' => ∃ (x4_1 : Int) (x9_1 : Int), v4 = .int .i64 x4_1 ∧ v9 = .int .i64 x9_1 ∧ Aside0 (attr_check.l0 kq l0 x4_1 l0 (l0.length : Int) x9_1 = some (r1, r2)) ∧ Aside0 (kq ≤ k) ∧ Aside0 (Below w.heap.size w w'))
  case atStart => exact ⟨(2), (0), (by first | rfl | (simp; done) | (simp [*]; done)), (by first | rfl | (simp; done) | (simp [*]; done)), H', ⟨Nat.le_refl _⟩, ⟨by repeat (first | (with_reducible first | exact HB.out | apply below_alloc | apply pw_below_drewN | apply below_drew1) | exact HB.out)⟩⟩
  case round =>
    clear H'
    obtain ⟨x4_1, x9_1, rfl, rfl, HA, HK1, HB⟩ := hrel
    cases gk with
    | zero => exact absurd HA.out (by intro h_; cases h_)
    | succ k1 =>
      have H := HA.out
      clear HA
      simp only [attr_check.l0] at H
      by_cases c2 : x9_1 < (l0.length : Int)
      · rw [if_pos c2] at H
        have c2b0 : decide (x9_1 < (l0.length : Int)) = true := decide_eq_true c2
        clear c2
        by_cases c3 : 0 ≤ x9_1
        · rw [if_pos c3] at H
          have c3b0 : decide (0 ≤ x9_1) = true := decide_eq_true c3
          clear c3
          by_cases c4 : x9_1 < (l0.length : Int)
          · rw [if_pos c4] at H
            have c4b0 : decide (x9_1 < (l0.length : Int)) = true := decide_eq_true c4
            clear c4
            replace H := Option.bind_eq_some_iff.mp H
            obtain ⟨t318, A50, H⟩ := H
            replace H : (if t318 = true then (if x9_1 > 0 then (if 0 ≤ (wrap64 (x9_1 - 1)) then (if (wrap64 (x9_1 - 1)) < (l0.length : Int) then ((strings_Compare.f ((rd_T26 l0 (wrap64 (x9_1 - 1))).f0) ((rd_T26 l0 x9_1).f0)).bind fun t320 => (if t320 ≥ 0 then (some (false, 1)) else (attr_check.l0 k1 l0 (wrap64 (x4_1 + (wrap64 ((wrap64 (2 + (((rd_T26 l0 x9_1).f0).size : Int))) + (((rd_T26 l0 x9_1).f1).size : Int))))) l0 (l0.length : Int) (wrap64 (x9_1 + 1))))) else (none)) else (none)) else (attr_check.l0 k1 l0 (wrap64 (x4_1 + (wrap64 ((wrap64 (2 + (((rd_T26 l0 x9_1).f0).size : Int))) + (((rd_T26 l0 x9_1).f1).size : Int))))) l0 (l0.length : Int) (wrap64 (x9_1 + 1)))) else (some (false, 1))) = some (r1, r2) := H
            have A5 := Aside0.mk A50
            clear A50
            by_cases c6 : t318 = true
            · subst c6
              have H1 : (if x9_1 > 0 then (if 0 ≤ (wrap64 (x9_1 - 1)) then (if (wrap64 (x9_1 - 1)) < (l0.length : Int) then ((strings_Compare.f ((rd_T26 l0 (wrap64 (x9_1 - 1))).f0) ((rd_T26 l0 x9_1).f0)).bind fun t320 => (if t320 ≥ 0 then (some (false, 1)) else (attr_check.l0 k1 l0 (wrap64 (x4_1 + (wrap64 ((wrap64 (2 + (((rd_T26 l0 x9_1).f0).size : Int))) + (((rd_T26 l0 x9_1).f1).size : Int))))) l0 (l0.length : Int) (wrap64 (x9_1 + 1))))) else (none)) else (none)) else (attr_check.l0 k1 l0 (wrap64 (x4_1 + (wrap64 ((wrap64 (2 + (((rd_T26 l0 x9_1).f0).size : Int))) + (((rd_T26 l0 x9_1).f1).size : Int))))) l0 (l0.length : Int) (wrap64 (x9_1 + 1)))) = some (r1, r2) := by rw [if_pos rfl] at H; exact H
              clear H
              have H := H1
              clear H1
              by_cases c7 : x9_1 > 0
              · rw [if_pos c7] at H
                have c7b0 : decide (0 < x9_1) = true := decide_eq_true c7
                clear c7
                obtain ⟨ji8, hji8⟩ : ∃ j_ : Int, (wrap64 (x9_1 - 1)) = j_ := ⟨_, rfl⟩
                replace H : (if 0 ≤ (ji8) then (if (ji8) < (l0.length : Int) then ((strings_Compare.f ((rd_T26 l0 (ji8)).f0) ((rd_T26 l0 x9_1).f0)).bind fun t320 => (if t320 ≥ 0 then (some (false, 1)) else (attr_check.l0 k1 l0 (wrap64 (x4_1 + (wrap64 ((wrap64 (2 + (((rd_T26 l0 x9_1).f0).size : Int))) + (((rd_T26 l0 x9_1).f1).size : Int))))) l0 (l0.length : Int) (wrap64 (x9_1 + 1))))) else (none)) else (none)) = some (r1, r2) := by first | (rw [hji8] at H; exact H) | (simp only [hji8] at H ⊢; exact H)
                (try rw [hji8] at A5)
                have hji8w : (IntKind.i64.wrap (x9_1 - 1)) = ji8 := (i64_w _).trans hji8
                (try rw [hji8] at c2b0)
                (try rw [hji8] at c3b0)
                (try rw [hji8] at c4b0)
                (try rw [hji8] at c7b0)
                by_cases c9 : 0 ≤ (ji8)
                · rw [if_pos c9] at H
                  have c9b0 : decide (0 ≤ (ji8)) = true := decide_eq_true c9
                  clear c9
                  by_cases c10 : (ji8) < (l0.length : Int)
                  · rw [if_pos c10] at H
                    have c10b0 : decide ((ji8) < (l0.length : Int)) = true := decide_eq_true c10
                    clear c10
                    replace H := Option.bind_eq_some_iff.mp H
                    obtain ⟨t320, A110, H⟩ := H
                    replace H : (if t320 ≥ 0 then (some (false, 1)) else (attr_check.l0 k1 l0 (wrap64 (x4_1 + (wrap64 ((wrap64 (2 + (((rd_T26 l0 x9_1).f0).size : Int))) + (((rd_T26 l0 x9_1).f1).size : Int))))) l0 (l0.length : Int) (wrap64 (x9_1 + 1)))) = some (r1, r2) := H
                    have A11 := Aside0.mk A110
                    clear A110
                    by_cases c12 : t320 ≥ 0
                    · rw [if_pos c12] at H
                      have c12b0 : decide (0 ≤ t320) = true := decide_eq_true c12
                      clear c12
                      simp only [Option.some.injEq, Prod.mk.injEq] at H
                      obtain ⟨rfl, rfl⟩ := H
                      have p316 : 0 ≤ (x9_1 : Int) := of_decide_eq_true (by first | (with_reducible assumption) | assumption)
                      have q316 : x9_1 < (l0.length : Int) := of_decide_eq_true (by first | (with_reducible assumption) | assumption)
                      obtain ⟨ad316, e316, hx316_0, hx316_1⟩ := at_T26 HR0.out x9_1 p316 q316
                      cases e316
                      replace hx316_0 := (HB.out.cell (World.block_lt_of_cell? w _ hx316_0)).trans hx316_0
                      replace hx316_1 := (HB.out.cell (World.block_lt_of_cell? w _ hx316_1)).trans hx316_1
                      replace p316 := eq_true p316
                      replace q316 := eq_true q316
                      try go_wp2_with (first | ((with_reducible refine gate_dst (N := 6) rfl ?_); refine box_event ?hg (N := 6) ?hd (cs := #[.string (⟨#[]⟩ : ByteArray), .string (⟨#[]⟩ : ByteArray)]) (t := 26) ?hr ?_; (case hd => rfl); (case hg => rfl); (case hr => first | (go_simp; done) | (go_simp; rfl)); intro gb317 hg w13 hbox hb; have n0_ := Aside0.mk (below_step (by repeat (first | (with_reducible first | exact HB.out | apply below_alloc | apply pw_below_drewN | apply below_drew1) | exact HB.out)) hb); have n1_ := Aside0.mk (hbox); have n2_ := Aside0.mk ((by rw [hg]; exact (below_size (by repeat (first | (with_reducible first | exact HB.out | apply below_alloc | apply pw_below_drewN | apply below_drew1) | exact HB.out))) : w.heap.size ≤ gb317)); have n3_ := Aside0.mk ((by rw [hg]; exact (below_size (by repeat (first | (with_reducible first | exact HB.out | apply below_alloc | apply pw_below_drewN | apply below_drew1) | exact HB.out))) : w.heap.size ≤ gb317)); clear HB; have HB := n0_; have BK317 := n1_; have GW317 := n2_; have GE317 := n3_; clear n0_ n1_ n2_ n3_; clear hb hbox hg; have hcz14_0 : w13.cell? ⟨gb317, 0, none⟩ = some (.string (⟨#[]⟩ : ByteArray)) := (blk_cell BK317.out 0).trans rfl; have hcz14_1 : w13.cell? ⟨gb317, 1, none⟩ = some (.string (⟨#[]⟩ : ByteArray)) := (blk_cell BK317.out 1).trans rfl; have hfz14_0 := blk_frozen BK317.out 0; have hfz14_1 := blk_frozen BK317.out 1))
                      have n0_ : Aside0 (((w13.setCell ⟨gb317, 0, none⟩ (.string ((rd_T26 l0 x9_1).f0))).setCell ⟨gb317, 1, none⟩ (.string ((rd_T26 l0 x9_1).f1))).heap[gb317]? = some (.cells #[.string ((rd_T26 l0 x9_1).f0), .string ((rd_T26 l0 x9_1).f1)] 26 (0, 0))) := ⟨by (with_reducible repeat (first | refine blk_drewN ?_ _ | refine blk_drew ?_ | refine blk_alloc ?_ _)); refine blk_put (cs := #[.string ((rd_T26 l0 x9_1).f0), .string (⟨#[]⟩ : ByteArray)]) ?_ 1 _ rfl; (with_reducible repeat (first | refine blk_drewN ?_ _ | refine blk_drew ?_ | refine blk_alloc ?_ _)); refine blk_put (cs := #[.string (⟨#[]⟩ : ByteArray), .string (⟨#[]⟩ : ByteArray)]) ?_ 0 _ rfl; (with_reducible repeat (first | refine blk_drewN ?_ _ | refine blk_drew ?_ | refine blk_alloc ?_ _)); exact BK317.out⟩
                      have n1_ : Aside0 (Below w.heap.size w ((w13.setCell ⟨gb317, 0, none⟩ (.string ((rd_T26 l0 x9_1).f0))).setCell ⟨gb317, 1, none⟩ (.string ((rd_T26 l0 x9_1).f1)))) := ⟨by repeat (first | (with_reducible first | exact HB.out | apply below_alloc | apply pw_below_drewN | apply below_drew1 | refine below_set ?_ GE317.out) | exact HB.out)⟩
                      (try clear BK317)
                      (try clear HB)
                      generalize ((w13.setCell ⟨gb317, 0, none⟩ (.string ((rd_T26 l0 x9_1).f0))).setCell ⟨gb317, 1, none⟩ (.string ((rd_T26 l0 x9_1).f1))) = w15 at n0_ n1_ ⊢
                      have BK317 := n0_
                      have HB := n1_
                      clear n0_ n1_
                      have n0_ := Aside0.mk (blk_drew BK317.out)
                      have n1_ := Aside0.mk (below_drew1 HB.out)
                      clear BK317
                      clear HB
                      have BK317 := n0_
                      have HB := n1_
                      clear n0_ n1_
                      have p319 : 0 ≤ ((ji8) : Int) := of_decide_eq_true (by first | (with_reducible assumption) | assumption)
                      have q319 : (ji8) < (l0.length : Int) := of_decide_eq_true (by first | (with_reducible assumption) | assumption)
                      obtain ⟨ad319, e319, hx319_0, hx319_1⟩ := at_T26 HR0.out (ji8) p319 q319
                      have hw319_1 := hx319_1
                      have hw319_0 := hx319_0
                      obtain rfl : ad316 = ad319 := (by injection e319)
                      replace hx319_0 := (HB.out.cell (World.block_lt_of_cell? w _ hx319_0)).trans hx319_0
                      replace hx319_1 := (HB.out.cell (World.block_lt_of_cell? w _ hx319_1)).trans hx319_1
                      replace p319 := eq_true p319
                      replace q319 := eq_true q319
                      refine start_ (n := 19) (S := fun w' => w'.cell? ⟨gb317, 0, none⟩ = some (.string ((rd_T26 l0 x9_1).f0)) ∧ w'.cell? ⟨gb317, 1, none⟩ = some (.string ((rd_T26 l0 x9_1).f1)) ∧ w'.cell? (ad316.add (((ji8)).toNat * 2)) = some (.string ((rd_T26 l0 (ji8)).f0)) ∧ w'.cell? ⟨(ad316.add (((ji8)).toNat * 2)).block, (ad316.add (((ji8)).toNat * 2)).off + 1, none⟩ = some (.string ((rd_T26 l0 (ji8)).f1))) (ds := []) #[false, false, false, false, false, false, false, false, false, false, false, false, false, false, false, false, false, false, false] (by kernel_rfl) rfl rfl ⟨(blk_cell BK317.out 0).trans rfl, (blk_cell BK317.out 1).trans rfl, ((HB.out.cell (World.block_lt_of_cell? w _ hw319_0)).trans hw319_0), ((HB.out.cell (World.block_lt_of_cell? w _ hw319_1)).trans hw319_1)⟩ (fun hHeld => ?_); refine with_tabW attr_check.tab5 attr_check.bits5 (fun HT_ HW_ => ?_)
                      generalize w15.drew = w16 at BK317 HB hx319_0 hx319_1 hHeld ⊢
                      refine take_ (i := 0) (N := some 14) (v := ?_) (a' := ?_) #[true, false, false, false, false, false, false, false, false, false, false, false, false, false, false, false, false, false, false] rfl rfl (take_ofW HT_.out HW_.out (by kernel_rfl)) (fun _ _ _ h => h) (Or.inl ⟨by rfl, ?_⟩) hHeld ?_ ?_
                      rotate_left
                      · rintro w' ⟨s0, s1, s2, s3⟩
                        go_simp
                        with_reducible rfl
                      rotate_left
                      · simp only [Act.put, List.setIfInBounds_toArray, List.set_cons_zero, List.set_cons_succ, i64_w, i32_w]
                        rfl
                      refine one_ (i := 1) (N := some 15) #[true, true, false, false, false, false, false, false, false, false, false, false, false, false, false, false, false, false, false] rfl rfl (one_of HT_.out (by kernel_rfl)) (by decide) (fun K hK => ?_)
                      refine goes_ Try.func36 (by kernel_rfl) rfl #[.agg #[.string ((rd_T26 l0 x9_1).f0), .string ((rd_T26 l0 x9_1).f1)]] (by rfl) rfl rfl (by (try simp only [List.map_toArray, List.map_cons, List.map_nil]); first | done | rfl | (simp only [List.length_drop, List.length_take]; rfl)) ?_
                      with_reducible refine (attr_may.calls ((rd_T26 l0 x9_1).f0) ((rd_T26 l0 x9_1).f1) true _ A5.out).mono ?_
                      rintro e w17 ⟨rfl, hb⟩
                      refine ⟨_, rfl, ?_⟩
                      have n0_ := Aside0.mk (blk_below (g := gb317) (o := .cells #[.string ((rd_T26 l0 x9_1).f0), .string ((rd_T26 l0 x9_1).f1)] 26 (0, 0)) (by (with_reducible repeat (first | refine blk_drewN ?_ _ | refine blk_drew ?_ | refine blk_alloc ?_ _)); exact BK317.out) hb)
                      have n1_ := Aside0.mk (below_step (by repeat (first | (with_reducible first | exact HB.out | apply below_alloc | apply pw_below_drewN | apply below_drew1 | refine below_set ?_ GE317.out) | exact HB.out)) hb)
                      clear BK317
                      clear HB
                      have BK317 := n0_
                      have HB := n1_
                      clear n0_ n1_
                      (try clear hb)
                      (try clear hb2)
                      (try clear hk)
                      (try clear hi)
                      refine hK.out _ _ ⟨(blk_cell BK317.out 0).trans rfl, (blk_cell BK317.out 1).trans rfl, ((HB.out.cell (World.block_lt_of_cell? w _ hw319_0)).trans hw319_0), ((HB.out.cell (World.block_lt_of_cell? w _ hw319_1)).trans hw319_1)⟩ (fun hHeld => ?_)
                      clear hK K
                      refine norm_ (a' := ?_) ?_ ?_
                      rotate_left
                      · show Act.put _ (some 15) _ = _
                        simp only [Act.put, List.setIfInBounds_toArray, List.set_cons_zero, List.set_cons_succ, i64_w, i32_w]
                        rfl
                      refine pure_ (i := 2) (N := some 16) (v := ?_) (a' := ?_) #[true, true, true, false, false, false, false, false, false, false, false, false, false, false, false, false, false, false, false] rfl rfl (any_of HT_.out (by kernel_rfl)) (fun _ _ _ h => h) (Or.inl ⟨by rfl, ?_⟩) ?_ ?_
                      rotate_left
                      · intro w'
                        go_simp
                        with_reducible rfl
                      rotate_left
                      · simp only [Act.put, List.setIfInBounds_toArray, List.set_cons_zero, List.set_cons_succ, i64_w, i32_w]
                        rfl
                      refine pure_ (i := 3) (N := some 17) (v := ?_) (a' := ?_) #[true, true, true, true, false, false, false, false, false, false, false, false, false, false, false, false, false, false, false] rfl rfl (any_of HT_.out (by kernel_rfl)) (fun _ _ _ h => h) (Or.inl ⟨by rfl, ?_⟩) ?_ ?_
                      rotate_left
                      · intro w'
                        go_simp
                        with_reducible rfl
                      rotate_left
                      · simp only [Act.put, List.setIfInBounds_toArray, List.set_cons_zero, List.set_cons_succ, i64_w, i32_w]
                        rfl
                      refine pure_ (i := 4) (N := some 18) (v := ?_) (a' := ?_) #[true, true, true, true, true, false, false, false, false, false, false, false, false, false, false, false, false, false, false] rfl rfl (any_of HT_.out (by kernel_rfl)) (fun _ _ _ h => h) (Or.inl ⟨by rfl, ?_⟩) ?_ ?_
                      rotate_left
                      · intro w'
                        go_simp
                        with_reducible rfl
                      rotate_left
                      · simp only [Act.put, List.setIfInBounds_toArray, List.set_cons_zero, List.set_cons_succ, i64_w, i32_w]
                        rfl
                      refine pure_ (i := 5) (N := some 19) (v := ?_) (a' := ?_) #[true, true, true, true, true, true, false, false, false, false, false, false, false, false, false, false, false, false, false] rfl rfl (any_of HT_.out (by kernel_rfl)) (fun _ _ _ h => h) (Or.inl ⟨by rfl, ?_⟩) ?_ ?_
                      rotate_left
                      · intro w'
                        go_simp
                        with_reducible rfl
                      rotate_left
                      · simp only [Act.put, List.setIfInBounds_toArray, List.set_cons_zero, List.set_cons_succ, i64_w, i32_w]
                        rfl
                      refine pure_ (i := 6) (N := some 20) (v := ?_) (a' := ?_) #[true, true, true, true, true, true, true, false, false, false, false, false, false, false, false, false, false, false, false] rfl rfl (any_of HT_.out (by kernel_rfl)) (fun _ _ _ h => h) (Or.inl ⟨by rfl, ?_⟩) ?_ ?_
                      rotate_left
                      · intro w'
                        go_simp
                        with_reducible rfl
                      rotate_left
                      · simp only [Act.put, List.setIfInBounds_toArray, List.set_cons_zero, List.set_cons_succ, i64_w, i32_w]
                        rfl
                      refine pure_ (i := 7) (N := some 21) (v := ?_) (a' := ?_) #[true, true, true, true, true, true, true, true, false, false, false, false, false, false, false, false, false, false, false] rfl rfl (any_of HT_.out (by kernel_rfl)) (fun _ _ _ h => h) (Or.inl ⟨by rfl, ?_⟩) ?_ ?_
                      rotate_left
                      · intro w'
                        go_simp
                        with_reducible rfl
                      rotate_left
                      · simp only [Act.put, List.setIfInBounds_toArray, List.set_cons_zero, List.set_cons_succ, i64_w, i32_w]
                        rfl
                      refine pure_ (i := 8) (N := some 22) (v := ?_) (a' := ?_) #[true, true, true, true, true, true, true, true, true, false, false, false, false, false, false, false, false, false, false] rfl rfl (any_of HT_.out (by kernel_rfl)) (fun _ _ _ h => h) (Or.inl ⟨by rfl, ?_⟩) ?_ ?_
                      rotate_left
                      · intro w'
                        go_simp
                        with_reducible rfl
                      rotate_left
                      · simp only [Act.put, List.setIfInBounds_toArray, List.set_cons_zero, List.set_cons_succ, i64_w, i32_w]
                        rfl
                      refine pure_ (i := 9) (N := some 23) (v := ?_) (a' := ?_) #[true, true, true, true, true, true, true, true, true, true, false, false, false, false, false, false, false, false, false] rfl rfl (any_of HT_.out (by kernel_rfl)) (fun _ _ _ h => h) (Or.inl ⟨by rfl, ?_⟩) ?_ ?_
                      rotate_left
                      · intro w'
                        go_simp
                        with_reducible rfl
                      rotate_left
                      · simp only [Act.put, List.setIfInBounds_toArray, List.set_cons_zero, List.set_cons_succ, i64_w, i32_w]
                        rfl
                      refine pure_ (i := 10) (N := some 24) (v := ?_) (a' := ?_) #[true, true, true, true, true, true, true, true, true, true, true, false, false, false, false, false, false, false, false] rfl rfl (any_of HT_.out (by kernel_rfl)) (fun _ _ _ h => h) (Or.inl ⟨by rfl, ?_⟩) ?_ ?_
                      rotate_left
                      · intro w'
                        go_simp
                        with_reducible rfl
                      rotate_left
                      · simp only [Act.put, List.setIfInBounds_toArray, List.set_cons_zero, List.set_cons_succ, i64_w, i32_w]
                        rfl
                      refine pure_ (i := 11) (N := some 25) (v := ?_) (a' := ?_) #[true, true, true, true, true, true, true, true, true, true, true, true, false, false, false, false, false, false, false] rfl rfl (any_of HT_.out (by kernel_rfl)) (fun _ _ _ h => h) (Or.inl ⟨by rfl, ?_⟩) ?_ ?_
                      rotate_left
                      · intro w'
                        go_simp
                        with_reducible rfl
                      rotate_left
                      · simp only [Act.put, List.setIfInBounds_toArray, List.set_cons_zero, List.set_cons_succ, i64_w, i32_w]
                        rfl
                      refine pure_ (i := 13) (N := some 27) (v := ?_) (a' := ?_) #[true, true, true, true, true, true, true, true, true, true, true, true, false, true, false, false, false, false, false] rfl rfl (any_of HT_.out (by kernel_rfl)) (fun _ _ _ h => h) (Or.inl ⟨by rfl, ?_⟩) ?_ ?_
                      rotate_left
                      · intro w'
                        go_simp
                        with_reducible rfl
                      rotate_left
                      · simp only [Act.put, List.setIfInBounds_toArray, List.set_cons_zero, List.set_cons_succ, i64_w, i32_w]
                        rfl
                      refine take_ (i := 12) (N := some 26) (v := ?_) (a' := ?_) #[true, true, true, true, true, true, true, true, true, true, true, true, true, true, false, false, false, false, false] rfl rfl (take_ofW HT_.out HW_.out (by kernel_rfl)) (fun _ _ _ h => h) (Or.inl ⟨by rfl, ?_⟩) hHeld ?_ ?_
                      rotate_left
                      · rintro w' ⟨s0, s1, s2, s3⟩
                        go_simp
                        with_reducible rfl
                      rotate_left
                      · simp only [Act.put, List.setIfInBounds_toArray, List.set_cons_zero, List.set_cons_succ, i64_w, i32_w]
                        rfl
                      refine take_ (i := 14) (N := some 28) (v := ?_) (a' := ?_) #[true, true, true, true, true, true, true, true, true, true, true, true, true, true, true, false, false, false, false] rfl rfl (take_ofW HT_.out HW_.out (by kernel_rfl)) (fun _ _ _ h => h) (Or.inl ⟨by rfl, ?_⟩) hHeld ?_ ?_
                      rotate_left
                      · rintro w' ⟨s0, s1, s2, s3⟩
                        go_simp
                        with_reducible rfl
                      rotate_left
                      · simp only [Act.put, List.setIfInBounds_toArray, List.set_cons_zero, List.set_cons_succ, i64_w, i32_w]
                        rfl
                      refine one_ (i := 15) (N := some 29) #[true, true, true, true, true, true, true, true, true, true, true, true, true, true, true, true, false, false, false] rfl rfl (one_of HT_.out (by kernel_rfl)) (by decide) (fun K hK => ?_)
                      refine goes_ Try.func50 (by kernel_rfl) rfl #[.string ((rd_T26 l0 (ji8)).f0), .string ((rd_T26 l0 x9_1).f0)] (by rfl) rfl rfl (by (try simp only [List.map_toArray, List.map_cons, List.map_nil]); first | done | (simp only [hji8]; rfl) | rfl | (simp only [List.length_drop, List.length_take]; rfl)) ?_
                      with_reducible refine (strings_Compare.calls ((rd_T26 l0 (ji8)).f0) ((rd_T26 l0 x9_1).f0) t320 _ A11.out).mono ?_
                      rintro e w' ⟨rfl, ⟨nd, rfl⟩⟩
                      refine ⟨_, rfl, ?_⟩
                      refine hK.out _ _ ⟨(blk_cell BK317.out 0).trans rfl, (blk_cell BK317.out 1).trans rfl, ((HB.out.cell (World.block_lt_of_cell? w _ hw319_0)).trans hw319_0), ((HB.out.cell (World.block_lt_of_cell? w _ hw319_1)).trans hw319_1)⟩ (fun hHeld => ?_)
                      clear hK K
                      refine norm_ (a' := ?_) ?_ ?_
                      rotate_left
                      · show Act.put _ (some 29) _ = _
                        simp only [Act.put, List.setIfInBounds_toArray, List.set_cons_zero, List.set_cons_succ, i64_w, i32_w]
                        rfl
                      refine pure_ (i := 16) (N := some 30) (v := ?_) (a' := ?_) #[true, true, true, true, true, true, true, true, true, true, true, true, true, true, true, true, true, false, false] rfl rfl (any_of HT_.out (by kernel_rfl)) (fun _ _ _ h => h) (Or.inl ⟨by rfl, ?_⟩) ?_ ?_
                      rotate_left
                      · intro w'
                        go_simp
                        with_reducible rfl
                      rotate_left
                      · simp only [Act.put, List.setIfInBounds_toArray, List.set_cons_zero, List.set_cons_succ, i64_w, i32_w]
                        rfl
                      refine pure_ (i := 17) (N := some 31) (v := ?_) (a' := ?_) #[true, true, true, true, true, true, true, true, true, true, true, true, true, true, true, true, true, true, false] rfl rfl (any_of HT_.out (by kernel_rfl)) (fun _ _ _ h => h) (Or.inl ⟨by rfl, ?_⟩) ?_ ?_
                      rotate_left
                      · intro w'
                        go_simp
                        with_reducible rfl
                      rotate_left
                      · simp only [Act.put, List.setIfInBounds_toArray, List.set_cons_zero, List.set_cons_succ, i64_w, i32_w]
                        rfl
                      refine pure_ (i := 18) (N := some 32) (v := ?_) (a' := ?_) #[true, true, true, true, true, true, true, true, true, true, true, true, true, true, true, true, true, true, true] rfl rfl (any_of HT_.out (by kernel_rfl)) (fun _ _ _ h => h) (Or.inl ⟨by rfl, ?_⟩) ?_ ?_
                      rotate_left
                      · intro w'
                        go_simp
                        with_reducible rfl
                      rotate_left
                      · simp only [Act.put, List.setIfInBounds_toArray, List.set_cons_zero, List.set_cons_succ, i64_w, i32_w]
                        rfl
                      refine done_ (done_of HT_.out (by kernel_rfl)) ?_
                      try go_wp2
                      go_ret2
                      exact ⟨by first | rfl | (simp [errW_none, errW_some] <;> rfl) | (simp only [← hji8]; first | rfl | (simp [errW_none, errW_some] <;> rfl)) | (simp [*, errW_none, errW_some] <;> rfl), by repeat (first | (with_reducible first | exact HB.out | apply below_alloc | apply pw_below_drewN | apply below_drew1 | refine below_set ?_ GE317.out) | exact HB.out)⟩
                    · rw [if_neg c12] at H
                      have c12b0 : decide (0 ≤ t320) = false := decide_eq_false c12
                      clear c12
                      have H' := Aside0.mk H
                      clear H
                      have p316 : 0 ≤ (x9_1 : Int) := of_decide_eq_true (by first | (with_reducible assumption) | assumption)
                      have q316 : x9_1 < (l0.length : Int) := of_decide_eq_true (by first | (with_reducible assumption) | assumption)
                      obtain ⟨ad316, e316, hx316_0, hx316_1⟩ := at_T26 HR0.out x9_1 p316 q316
                      cases e316
                      replace hx316_0 := (HB.out.cell (World.block_lt_of_cell? w _ hx316_0)).trans hx316_0
                      replace hx316_1 := (HB.out.cell (World.block_lt_of_cell? w _ hx316_1)).trans hx316_1
                      replace p316 := eq_true p316
                      replace q316 := eq_true q316
                      try go_wp2_with (first | ((with_reducible refine gate_dst (N := 6) rfl ?_); refine box_event ?hg (N := 6) ?hd (cs := #[.string (⟨#[]⟩ : ByteArray), .string (⟨#[]⟩ : ByteArray)]) (t := 26) ?hr ?_; (case hd => rfl); (case hg => rfl); (case hr => first | (go_simp; done) | (go_simp; rfl)); intro gb317 hg w18 hbox hb; have n0_ := Aside0.mk (below_step (by repeat (first | (with_reducible first | exact HB.out | apply below_alloc | apply pw_below_drewN | apply below_drew1) | exact HB.out)) hb); have n1_ := Aside0.mk (hbox); have n2_ := Aside0.mk ((by rw [hg]; exact (below_size (by repeat (first | (with_reducible first | exact HB.out | apply below_alloc | apply pw_below_drewN | apply below_drew1) | exact HB.out))) : w.heap.size ≤ gb317)); have n3_ := Aside0.mk ((by rw [hg]; exact (below_size (by repeat (first | (with_reducible first | exact HB.out | apply below_alloc | apply pw_below_drewN | apply below_drew1) | exact HB.out))) : w.heap.size ≤ gb317)); clear HB; have HB := n0_; have BK317 := n1_; have GW317 := n2_; have GE317 := n3_; clear n0_ n1_ n2_ n3_; clear hb hbox hg; have hcz19_0 : w18.cell? ⟨gb317, 0, none⟩ = some (.string (⟨#[]⟩ : ByteArray)) := (blk_cell BK317.out 0).trans rfl; have hcz19_1 : w18.cell? ⟨gb317, 1, none⟩ = some (.string (⟨#[]⟩ : ByteArray)) := (blk_cell BK317.out 1).trans rfl; have hfz19_0 := blk_frozen BK317.out 0; have hfz19_1 := blk_frozen BK317.out 1))
                      have n0_ : Aside0 (((w18.setCell ⟨gb317, 0, none⟩ (.string ((rd_T26 l0 x9_1).f0))).setCell ⟨gb317, 1, none⟩ (.string ((rd_T26 l0 x9_1).f1))).heap[gb317]? = some (.cells #[.string ((rd_T26 l0 x9_1).f0), .string ((rd_T26 l0 x9_1).f1)] 26 (0, 0))) := ⟨by (with_reducible repeat (first | refine blk_drewN ?_ _ | refine blk_drew ?_ | refine blk_alloc ?_ _)); refine blk_put (cs := #[.string ((rd_T26 l0 x9_1).f0), .string (⟨#[]⟩ : ByteArray)]) ?_ 1 _ rfl; (with_reducible repeat (first | refine blk_drewN ?_ _ | refine blk_drew ?_ | refine blk_alloc ?_ _)); refine blk_put (cs := #[.string (⟨#[]⟩ : ByteArray), .string (⟨#[]⟩ : ByteArray)]) ?_ 0 _ rfl; (with_reducible repeat (first | refine blk_drewN ?_ _ | refine blk_drew ?_ | refine blk_alloc ?_ _)); exact BK317.out⟩
                      have n1_ : Aside0 (Below w.heap.size w ((w18.setCell ⟨gb317, 0, none⟩ (.string ((rd_T26 l0 x9_1).f0))).setCell ⟨gb317, 1, none⟩ (.string ((rd_T26 l0 x9_1).f1)))) := ⟨by repeat (first | (with_reducible first | exact HB.out | apply below_alloc | apply pw_below_drewN | apply below_drew1 | refine below_set ?_ GE317.out) | exact HB.out)⟩
                      (try clear BK317)
                      (try clear HB)
                      generalize ((w18.setCell ⟨gb317, 0, none⟩ (.string ((rd_T26 l0 x9_1).f0))).setCell ⟨gb317, 1, none⟩ (.string ((rd_T26 l0 x9_1).f1))) = w20 at n0_ n1_ ⊢
                      have BK317 := n0_
                      have HB := n1_
                      clear n0_ n1_
                      have n0_ := Aside0.mk (blk_drew BK317.out)
                      have n1_ := Aside0.mk (below_drew1 HB.out)
                      clear BK317
                      clear HB
                      have BK317 := n0_
                      have HB := n1_
                      clear n0_ n1_
                      have p319 : 0 ≤ ((ji8) : Int) := of_decide_eq_true (by first | (with_reducible assumption) | assumption)
                      have q319 : (ji8) < (l0.length : Int) := of_decide_eq_true (by first | (with_reducible assumption) | assumption)
                      obtain ⟨ad319, e319, hx319_0, hx319_1⟩ := at_T26 HR0.out (ji8) p319 q319
                      have hw319_1 := hx319_1
                      have hw319_0 := hx319_0
                      obtain rfl : ad316 = ad319 := (by injection e319)
                      replace hx319_0 := (HB.out.cell (World.block_lt_of_cell? w _ hx319_0)).trans hx319_0
                      replace hx319_1 := (HB.out.cell (World.block_lt_of_cell? w _ hx319_1)).trans hx319_1
                      replace p319 := eq_true p319
                      replace q319 := eq_true q319
                      refine start_ (n := 19) (S := fun w' => w'.cell? ⟨gb317, 0, none⟩ = some (.string ((rd_T26 l0 x9_1).f0)) ∧ w'.cell? ⟨gb317, 1, none⟩ = some (.string ((rd_T26 l0 x9_1).f1)) ∧ w'.cell? (ad316.add (((ji8)).toNat * 2)) = some (.string ((rd_T26 l0 (ji8)).f0)) ∧ w'.cell? ⟨(ad316.add (((ji8)).toNat * 2)).block, (ad316.add (((ji8)).toNat * 2)).off + 1, none⟩ = some (.string ((rd_T26 l0 (ji8)).f1))) (ds := []) #[false, false, false, false, false, false, false, false, false, false, false, false, false, false, false, false, false, false, false] (by kernel_rfl) rfl rfl ⟨(blk_cell BK317.out 0).trans rfl, (blk_cell BK317.out 1).trans rfl, ((HB.out.cell (World.block_lt_of_cell? w _ hw319_0)).trans hw319_0), ((HB.out.cell (World.block_lt_of_cell? w _ hw319_1)).trans hw319_1)⟩ (fun hHeld => ?_); refine with_tabW attr_check.tab5 attr_check.bits5 (fun HT_ HW_ => ?_)
                      generalize w20.drew = w21 at BK317 HB hx319_0 hx319_1 hHeld ⊢
                      refine take_ (i := 0) (N := some 14) (v := ?_) (a' := ?_) #[true, false, false, false, false, false, false, false, false, false, false, false, false, false, false, false, false, false, false] rfl rfl (take_ofW HT_.out HW_.out (by kernel_rfl)) (fun _ _ _ h => h) (Or.inl ⟨by rfl, ?_⟩) hHeld ?_ ?_
                      rotate_left
                      · rintro w' ⟨s0, s1, s2, s3⟩
                        go_simp
                        with_reducible rfl
                      rotate_left
                      · simp only [Act.put, List.setIfInBounds_toArray, List.set_cons_zero, List.set_cons_succ, i64_w, i32_w]
                        rfl
                      refine one_ (i := 1) (N := some 15) #[true, true, false, false, false, false, false, false, false, false, false, false, false, false, false, false, false, false, false] rfl rfl (one_of HT_.out (by kernel_rfl)) (by decide) (fun K hK => ?_)
                      refine goes_ Try.func36 (by kernel_rfl) rfl #[.agg #[.string ((rd_T26 l0 x9_1).f0), .string ((rd_T26 l0 x9_1).f1)]] (by rfl) rfl rfl (by (try simp only [List.map_toArray, List.map_cons, List.map_nil]); first | done | rfl | (simp only [List.length_drop, List.length_take]; rfl)) ?_
                      with_reducible refine (attr_may.calls ((rd_T26 l0 x9_1).f0) ((rd_T26 l0 x9_1).f1) true _ A5.out).mono ?_
                      rintro e w22 ⟨rfl, hb⟩
                      refine ⟨_, rfl, ?_⟩
                      have n0_ := Aside0.mk (blk_below (g := gb317) (o := .cells #[.string ((rd_T26 l0 x9_1).f0), .string ((rd_T26 l0 x9_1).f1)] 26 (0, 0)) (by (with_reducible repeat (first | refine blk_drewN ?_ _ | refine blk_drew ?_ | refine blk_alloc ?_ _)); exact BK317.out) hb)
                      have n1_ := Aside0.mk (below_step (by repeat (first | (with_reducible first | exact HB.out | apply below_alloc | apply pw_below_drewN | apply below_drew1 | refine below_set ?_ GE317.out) | exact HB.out)) hb)
                      clear BK317
                      clear HB
                      have BK317 := n0_
                      have HB := n1_
                      clear n0_ n1_
                      (try clear hb)
                      (try clear hb2)
                      (try clear hk)
                      (try clear hi)
                      refine hK.out _ _ ⟨(blk_cell BK317.out 0).trans rfl, (blk_cell BK317.out 1).trans rfl, ((HB.out.cell (World.block_lt_of_cell? w _ hw319_0)).trans hw319_0), ((HB.out.cell (World.block_lt_of_cell? w _ hw319_1)).trans hw319_1)⟩ (fun hHeld => ?_)
                      clear hK K
                      refine norm_ (a' := ?_) ?_ ?_
                      rotate_left
                      · show Act.put _ (some 15) _ = _
                        simp only [Act.put, List.setIfInBounds_toArray, List.set_cons_zero, List.set_cons_succ, i64_w, i32_w]
                        rfl
                      refine pure_ (i := 2) (N := some 16) (v := ?_) (a' := ?_) #[true, true, true, false, false, false, false, false, false, false, false, false, false, false, false, false, false, false, false] rfl rfl (any_of HT_.out (by kernel_rfl)) (fun _ _ _ h => h) (Or.inl ⟨by rfl, ?_⟩) ?_ ?_
                      rotate_left
                      · intro w'
                        go_simp
                        with_reducible rfl
                      rotate_left
                      · simp only [Act.put, List.setIfInBounds_toArray, List.set_cons_zero, List.set_cons_succ, i64_w, i32_w]
                        rfl
                      refine pure_ (i := 3) (N := some 17) (v := ?_) (a' := ?_) #[true, true, true, true, false, false, false, false, false, false, false, false, false, false, false, false, false, false, false] rfl rfl (any_of HT_.out (by kernel_rfl)) (fun _ _ _ h => h) (Or.inl ⟨by rfl, ?_⟩) ?_ ?_
                      rotate_left
                      · intro w'
                        go_simp
                        with_reducible rfl
                      rotate_left
                      · simp only [Act.put, List.setIfInBounds_toArray, List.set_cons_zero, List.set_cons_succ, i64_w, i32_w]
                        rfl
                      refine pure_ (i := 4) (N := some 18) (v := ?_) (a' := ?_) #[true, true, true, true, true, false, false, false, false, false, false, false, false, false, false, false, false, false, false] rfl rfl (any_of HT_.out (by kernel_rfl)) (fun _ _ _ h => h) (Or.inl ⟨by rfl, ?_⟩) ?_ ?_
                      rotate_left
                      · intro w'
                        go_simp
                        with_reducible rfl
                      rotate_left
                      · simp only [Act.put, List.setIfInBounds_toArray, List.set_cons_zero, List.set_cons_succ, i64_w, i32_w]
                        rfl
                      refine pure_ (i := 5) (N := some 19) (v := ?_) (a' := ?_) #[true, true, true, true, true, true, false, false, false, false, false, false, false, false, false, false, false, false, false] rfl rfl (any_of HT_.out (by kernel_rfl)) (fun _ _ _ h => h) (Or.inl ⟨by rfl, ?_⟩) ?_ ?_
                      rotate_left
                      · intro w'
                        go_simp
                        with_reducible rfl
                      rotate_left
                      · simp only [Act.put, List.setIfInBounds_toArray, List.set_cons_zero, List.set_cons_succ, i64_w, i32_w]
                        rfl
                      refine pure_ (i := 6) (N := some 20) (v := ?_) (a' := ?_) #[true, true, true, true, true, true, true, false, false, false, false, false, false, false, false, false, false, false, false] rfl rfl (any_of HT_.out (by kernel_rfl)) (fun _ _ _ h => h) (Or.inl ⟨by rfl, ?_⟩) ?_ ?_
                      rotate_left
                      · intro w'
                        go_simp
                        with_reducible rfl
                      rotate_left
                      · simp only [Act.put, List.setIfInBounds_toArray, List.set_cons_zero, List.set_cons_succ, i64_w, i32_w]
                        rfl
                      refine pure_ (i := 7) (N := some 21) (v := ?_) (a' := ?_) #[true, true, true, true, true, true, true, true, false, false, false, false, false, false, false, false, false, false, false] rfl rfl (any_of HT_.out (by kernel_rfl)) (fun _ _ _ h => h) (Or.inl ⟨by rfl, ?_⟩) ?_ ?_
                      rotate_left
                      · intro w'
                        go_simp
                        with_reducible rfl
                      rotate_left
                      · simp only [Act.put, List.setIfInBounds_toArray, List.set_cons_zero, List.set_cons_succ, i64_w, i32_w]
                        rfl
                      refine pure_ (i := 8) (N := some 22) (v := ?_) (a' := ?_) #[true, true, true, true, true, true, true, true, true, false, false, false, false, false, false, false, false, false, false] rfl rfl (any_of HT_.out (by kernel_rfl)) (fun _ _ _ h => h) (Or.inl ⟨by rfl, ?_⟩) ?_ ?_
                      rotate_left
                      · intro w'
                        go_simp
                        with_reducible rfl
                      rotate_left
                      · simp only [Act.put, List.setIfInBounds_toArray, List.set_cons_zero, List.set_cons_succ, i64_w, i32_w]
                        rfl
                      refine pure_ (i := 9) (N := some 23) (v := ?_) (a' := ?_) #[true, true, true, true, true, true, true, true, true, true, false, false, false, false, false, false, false, false, false] rfl rfl (any_of HT_.out (by kernel_rfl)) (fun _ _ _ h => h) (Or.inl ⟨by rfl, ?_⟩) ?_ ?_
                      rotate_left
                      · intro w'
                        go_simp
                        with_reducible rfl
                      rotate_left
                      · simp only [Act.put, List.setIfInBounds_toArray, List.set_cons_zero, List.set_cons_succ, i64_w, i32_w]
                        rfl
                      refine pure_ (i := 10) (N := some 24) (v := ?_) (a' := ?_) #[true, true, true, true, true, true, true, true, true, true, true, false, false, false, false, false, false, false, false] rfl rfl (any_of HT_.out (by kernel_rfl)) (fun _ _ _ h => h) (Or.inl ⟨by rfl, ?_⟩) ?_ ?_
                      rotate_left
                      · intro w'
                        go_simp
                        with_reducible rfl
                      rotate_left
                      · simp only [Act.put, List.setIfInBounds_toArray, List.set_cons_zero, List.set_cons_succ, i64_w, i32_w]
                        rfl
                      refine pure_ (i := 11) (N := some 25) (v := ?_) (a' := ?_) #[true, true, true, true, true, true, true, true, true, true, true, true, false, false, false, false, false, false, false] rfl rfl (any_of HT_.out (by kernel_rfl)) (fun _ _ _ h => h) (Or.inl ⟨by rfl, ?_⟩) ?_ ?_
                      rotate_left
                      · intro w'
                        go_simp
                        with_reducible rfl
                      rotate_left
                      · simp only [Act.put, List.setIfInBounds_toArray, List.set_cons_zero, List.set_cons_succ, i64_w, i32_w]
                        rfl
                      refine pure_ (i := 13) (N := some 27) (v := ?_) (a' := ?_) #[true, true, true, true, true, true, true, true, true, true, true, true, false, true, false, false, false, false, false] rfl rfl (any_of HT_.out (by kernel_rfl)) (fun _ _ _ h => h) (Or.inl ⟨by rfl, ?_⟩) ?_ ?_
                      rotate_left
                      · intro w'
                        go_simp
                        with_reducible rfl
                      rotate_left
                      · simp only [Act.put, List.setIfInBounds_toArray, List.set_cons_zero, List.set_cons_succ, i64_w, i32_w]
                        rfl
                      refine take_ (i := 12) (N := some 26) (v := ?_) (a' := ?_) #[true, true, true, true, true, true, true, true, true, true, true, true, true, true, false, false, false, false, false] rfl rfl (take_ofW HT_.out HW_.out (by kernel_rfl)) (fun _ _ _ h => h) (Or.inl ⟨by rfl, ?_⟩) hHeld ?_ ?_
                      rotate_left
                      · rintro w' ⟨s0, s1, s2, s3⟩
                        go_simp
                        with_reducible rfl
                      rotate_left
                      · simp only [Act.put, List.setIfInBounds_toArray, List.set_cons_zero, List.set_cons_succ, i64_w, i32_w]
                        rfl
                      refine take_ (i := 14) (N := some 28) (v := ?_) (a' := ?_) #[true, true, true, true, true, true, true, true, true, true, true, true, true, true, true, false, false, false, false] rfl rfl (take_ofW HT_.out HW_.out (by kernel_rfl)) (fun _ _ _ h => h) (Or.inl ⟨by rfl, ?_⟩) hHeld ?_ ?_
                      rotate_left
                      · rintro w' ⟨s0, s1, s2, s3⟩
                        go_simp
                        with_reducible rfl
                      rotate_left
                      · simp only [Act.put, List.setIfInBounds_toArray, List.set_cons_zero, List.set_cons_succ, i64_w, i32_w]
                        rfl
                      refine one_ (i := 15) (N := some 29) #[true, true, true, true, true, true, true, true, true, true, true, true, true, true, true, true, false, false, false] rfl rfl (one_of HT_.out (by kernel_rfl)) (by decide) (fun K hK => ?_)
                      refine goes_ Try.func50 (by kernel_rfl) rfl #[.string ((rd_T26 l0 (ji8)).f0), .string ((rd_T26 l0 x9_1).f0)] (by rfl) rfl rfl (by (try simp only [List.map_toArray, List.map_cons, List.map_nil]); first | done | (simp only [hji8]; rfl) | rfl | (simp only [List.length_drop, List.length_take]; rfl)) ?_
                      with_reducible refine (strings_Compare.calls ((rd_T26 l0 (ji8)).f0) ((rd_T26 l0 x9_1).f0) t320 _ A11.out).mono ?_
                      rintro e w' ⟨rfl, ⟨nd, rfl⟩⟩
                      refine ⟨_, rfl, ?_⟩
                      refine hK.out _ _ ⟨(blk_cell BK317.out 0).trans rfl, (blk_cell BK317.out 1).trans rfl, ((HB.out.cell (World.block_lt_of_cell? w _ hw319_0)).trans hw319_0), ((HB.out.cell (World.block_lt_of_cell? w _ hw319_1)).trans hw319_1)⟩ (fun hHeld => ?_)
                      clear hK K
                      refine norm_ (a' := ?_) ?_ ?_
                      rotate_left
                      · show Act.put _ (some 29) _ = _
                        simp only [Act.put, List.setIfInBounds_toArray, List.set_cons_zero, List.set_cons_succ, i64_w, i32_w]
                        rfl
                      refine pure_ (i := 16) (N := some 30) (v := ?_) (a' := ?_) #[true, true, true, true, true, true, true, true, true, true, true, true, true, true, true, true, true, false, false] rfl rfl (any_of HT_.out (by kernel_rfl)) (fun _ _ _ h => h) (Or.inl ⟨by rfl, ?_⟩) ?_ ?_
                      rotate_left
                      · intro w'
                        go_simp
                        with_reducible rfl
                      rotate_left
                      · simp only [Act.put, List.setIfInBounds_toArray, List.set_cons_zero, List.set_cons_succ, i64_w, i32_w]
                        rfl
                      refine pure_ (i := 17) (N := some 31) (v := ?_) (a' := ?_) #[true, true, true, true, true, true, true, true, true, true, true, true, true, true, true, true, true, true, false] rfl rfl (any_of HT_.out (by kernel_rfl)) (fun _ _ _ h => h) (Or.inl ⟨by rfl, ?_⟩) ?_ ?_
                      rotate_left
                      · intro w'
                        go_simp
                        with_reducible rfl
                      rotate_left
                      · simp only [Act.put, List.setIfInBounds_toArray, List.set_cons_zero, List.set_cons_succ, i64_w, i32_w]
                        rfl
                      refine pure_ (i := 18) (N := some 32) (v := ?_) (a' := ?_) #[true, true, true, true, true, true, true, true, true, true, true, true, true, true, true, true, true, true, true] rfl rfl (any_of HT_.out (by kernel_rfl)) (fun _ _ _ h => h) (Or.inl ⟨by rfl, ?_⟩) ?_ ?_
                      rotate_left
                      · intro w'
                        go_simp
                        with_reducible rfl
                      rotate_left
                      · simp only [Act.put, List.setIfInBounds_toArray, List.set_cons_zero, List.set_cons_succ, i64_w, i32_w]
                        rfl
                      refine done_ (done_of HT_.out (by kernel_rfl)) ?_
                      have hcz23_0 : w22.cell? ⟨gb317, 0, none⟩ = some (.string ((rd_T26 l0 x9_1).f0)) := (blk_cell BK317.out 0).trans rfl
                      have hcz23_1 : w22.cell? ⟨gb317, 1, none⟩ = some (.string ((rd_T26 l0 x9_1).f1)) := (blk_cell BK317.out 1).trans rfl
                      have hfz23_0 := blk_frozen BK317.out 0
                      have hfz23_1 := blk_frozen BK317.out 1
                      try go_wp2
                      go_roundg k1
                      case measure => have := HK1.out; omega
                      case rel => exact ⟨(wrap64 (x4_1 + (wrap64 ((wrap64 (2 + (((rd_T26 l0 x9_1).f0).size : Int))) + (((rd_T26 l0 x9_1).f1).size : Int))))), (wrap64 (x9_1 + 1)), (by first | rfl | (simp; done) | (simp [*]; done)), (by first | rfl | (simp; done) | (simp [*]; done)), H', ⟨by have := HK1.out; omega⟩, ⟨by repeat (first | (with_reducible first | exact HB.out | apply below_alloc | apply pw_below_drewN | apply below_drew1 | refine below_set ?_ GE317.out) | exact HB.out)⟩⟩
                  · rw [if_neg c10] at H
                    exact absurd H (by simp)
                · rw [if_neg c9] at H
                  exact absurd H (by simp)
              · rw [if_neg c7] at H
                have c7b0 : decide (0 < x9_1) = false := decide_eq_false c7
                clear c7
                have H' := Aside0.mk H
                clear H
                have p316 : 0 ≤ (x9_1 : Int) := of_decide_eq_true (by first | (with_reducible assumption) | assumption)
                have q316 : x9_1 < (l0.length : Int) := of_decide_eq_true (by first | (with_reducible assumption) | assumption)
                obtain ⟨ad316, e316, hx316_0, hx316_1⟩ := at_T26 HR0.out x9_1 p316 q316
                cases e316
                replace hx316_0 := (HB.out.cell (World.block_lt_of_cell? w _ hx316_0)).trans hx316_0
                replace hx316_1 := (HB.out.cell (World.block_lt_of_cell? w _ hx316_1)).trans hx316_1
                replace p316 := eq_true p316
                replace q316 := eq_true q316
                try go_wp2_with (first | ((with_reducible refine gate_dst (N := 6) rfl ?_); refine box_event ?hg (N := 6) ?hd (cs := #[.string (⟨#[]⟩ : ByteArray), .string (⟨#[]⟩ : ByteArray)]) (t := 26) ?hr ?_; (case hd => rfl); (case hg => rfl); (case hr => first | (go_simp; done) | (go_simp; rfl)); intro gb317 hg w24 hbox hb; have n0_ := Aside0.mk (below_step (by repeat (first | (with_reducible first | exact HB.out | apply below_alloc | apply pw_below_drewN | apply below_drew1) | exact HB.out)) hb); have n1_ := Aside0.mk (hbox); have n2_ := Aside0.mk ((by rw [hg]; exact (below_size (by repeat (first | (with_reducible first | exact HB.out | apply below_alloc | apply pw_below_drewN | apply below_drew1) | exact HB.out))) : w.heap.size ≤ gb317)); have n3_ := Aside0.mk ((by rw [hg]; exact (below_size (by repeat (first | (with_reducible first | exact HB.out | apply below_alloc | apply pw_below_drewN | apply below_drew1) | exact HB.out))) : w.heap.size ≤ gb317)); clear HB; have HB := n0_; have BK317 := n1_; have GW317 := n2_; have GE317 := n3_; clear n0_ n1_ n2_ n3_; clear hb hbox hg; have hcz25_0 : w24.cell? ⟨gb317, 0, none⟩ = some (.string (⟨#[]⟩ : ByteArray)) := (blk_cell BK317.out 0).trans rfl; have hcz25_1 : w24.cell? ⟨gb317, 1, none⟩ = some (.string (⟨#[]⟩ : ByteArray)) := (blk_cell BK317.out 1).trans rfl; have hfz25_0 := blk_frozen BK317.out 0; have hfz25_1 := blk_frozen BK317.out 1))
                have n0_ : Aside0 (((w24.setCell ⟨gb317, 0, none⟩ (.string ((rd_T26 l0 x9_1).f0))).setCell ⟨gb317, 1, none⟩ (.string ((rd_T26 l0 x9_1).f1))).heap[gb317]? = some (.cells #[.string ((rd_T26 l0 x9_1).f0), .string ((rd_T26 l0 x9_1).f1)] 26 (0, 0))) := ⟨by (with_reducible repeat (first | refine blk_drewN ?_ _ | refine blk_drew ?_ | refine blk_alloc ?_ _)); refine blk_put (cs := #[.string ((rd_T26 l0 x9_1).f0), .string (⟨#[]⟩ : ByteArray)]) ?_ 1 _ rfl; (with_reducible repeat (first | refine blk_drewN ?_ _ | refine blk_drew ?_ | refine blk_alloc ?_ _)); refine blk_put (cs := #[.string (⟨#[]⟩ : ByteArray), .string (⟨#[]⟩ : ByteArray)]) ?_ 0 _ rfl; (with_reducible repeat (first | refine blk_drewN ?_ _ | refine blk_drew ?_ | refine blk_alloc ?_ _)); exact BK317.out⟩
                have n1_ : Aside0 (Below w.heap.size w ((w24.setCell ⟨gb317, 0, none⟩ (.string ((rd_T26 l0 x9_1).f0))).setCell ⟨gb317, 1, none⟩ (.string ((rd_T26 l0 x9_1).f1)))) := ⟨by repeat (first | (with_reducible first | exact HB.out | apply below_alloc | apply pw_below_drewN | apply below_drew1 | refine below_set ?_ GE317.out) | exact HB.out)⟩
                (try clear BK317)
                (try clear HB)
                generalize ((w24.setCell ⟨gb317, 0, none⟩ (.string ((rd_T26 l0 x9_1).f0))).setCell ⟨gb317, 1, none⟩ (.string ((rd_T26 l0 x9_1).f1))) = w26 at n0_ n1_ ⊢
                have BK317 := n0_
                have HB := n1_
                clear n0_ n1_
                have n0_ := Aside0.mk (blk_drew BK317.out)
                have n1_ := Aside0.mk (below_drew1 HB.out)
                clear BK317
                clear HB
                have BK317 := n0_
                have HB := n1_
                clear n0_ n1_
                refine start_ (n := 19) (S := fun w' => w'.cell? ⟨gb317, 0, none⟩ = some (.string ((rd_T26 l0 x9_1).f0)) ∧ w'.cell? ⟨gb317, 1, none⟩ = some (.string ((rd_T26 l0 x9_1).f1))) (ds := []) #[false, false, false, false, false, false, false, false, false, false, false, false, false, false, false, false, false, false, false] (by kernel_rfl) rfl rfl ⟨(blk_cell BK317.out 0).trans rfl, (blk_cell BK317.out 1).trans rfl⟩ (fun hHeld => ?_); refine with_tabW attr_check.tab5 attr_check.bits5 (fun HT_ HW_ => ?_)
                generalize w26.drew = w27 at BK317 HB hHeld ⊢
                refine take_ (i := 0) (N := some 14) (v := ?_) (a' := ?_) #[true, false, false, false, false, false, false, false, false, false, false, false, false, false, false, false, false, false, false] rfl rfl (take_ofW HT_.out HW_.out (by kernel_rfl)) (fun _ _ _ h => h) (Or.inl ⟨by rfl, ?_⟩) hHeld ?_ ?_
                rotate_left
                · rintro w' ⟨s0, s1⟩
                  go_simp
                  with_reducible rfl
                rotate_left
                · simp only [Act.put, List.setIfInBounds_toArray, List.set_cons_zero, List.set_cons_succ, i64_w, i32_w]
                  rfl
                refine one_ (i := 1) (N := some 15) #[true, true, false, false, false, false, false, false, false, false, false, false, false, false, false, false, false, false, false] rfl rfl (one_of HT_.out (by kernel_rfl)) (by decide) (fun K hK => ?_)
                refine goes_ Try.func36 (by kernel_rfl) rfl #[.agg #[.string ((rd_T26 l0 x9_1).f0), .string ((rd_T26 l0 x9_1).f1)]] (by rfl) rfl rfl (by (try simp only [List.map_toArray, List.map_cons, List.map_nil]); first | done | rfl | (simp only [List.length_drop, List.length_take]; rfl)) ?_
                with_reducible refine (attr_may.calls ((rd_T26 l0 x9_1).f0) ((rd_T26 l0 x9_1).f1) true _ A5.out).mono ?_
                rintro e w28 ⟨rfl, hb⟩
                refine ⟨_, rfl, ?_⟩
                have n0_ := Aside0.mk (blk_below (g := gb317) (o := .cells #[.string ((rd_T26 l0 x9_1).f0), .string ((rd_T26 l0 x9_1).f1)] 26 (0, 0)) (by (with_reducible repeat (first | refine blk_drewN ?_ _ | refine blk_drew ?_ | refine blk_alloc ?_ _)); exact BK317.out) hb)
                have n1_ := Aside0.mk (below_step (by repeat (first | (with_reducible first | exact HB.out | apply below_alloc | apply pw_below_drewN | apply below_drew1 | refine below_set ?_ GE317.out) | exact HB.out)) hb)
                clear BK317
                clear HB
                have BK317 := n0_
                have HB := n1_
                clear n0_ n1_
                (try clear hb)
                (try clear hb2)
                (try clear hk)
                (try clear hi)
                refine hK.out _ _ ⟨(blk_cell BK317.out 0).trans rfl, (blk_cell BK317.out 1).trans rfl⟩ (fun hHeld => ?_)
                clear hK K
                refine norm_ (a' := ?_) ?_ ?_
                rotate_left
                · show Act.put _ (some 15) _ = _
                  simp only [Act.put, List.setIfInBounds_toArray, List.set_cons_zero, List.set_cons_succ, i64_w, i32_w]
                  rfl
                refine pure_ (i := 2) (N := some 16) (v := ?_) (a' := ?_) #[true, true, true, false, false, false, false, false, false, false, false, false, false, false, false, false, false, false, false] rfl rfl (any_of HT_.out (by kernel_rfl)) (fun _ _ _ h => h) (Or.inl ⟨by rfl, ?_⟩) ?_ ?_
                rotate_left
                · intro w'
                  go_simp
                  with_reducible rfl
                rotate_left
                · simp only [Act.put, List.setIfInBounds_toArray, List.set_cons_zero, List.set_cons_succ, i64_w, i32_w]
                  rfl
                refine pure_ (i := 3) (N := some 17) (v := ?_) (a' := ?_) #[true, true, true, true, false, false, false, false, false, false, false, false, false, false, false, false, false, false, false] rfl rfl (any_of HT_.out (by kernel_rfl)) (fun _ _ _ h => h) (Or.inl ⟨by rfl, ?_⟩) ?_ ?_
                rotate_left
                · intro w'
                  go_simp
                  with_reducible rfl
                rotate_left
                · simp only [Act.put, List.setIfInBounds_toArray, List.set_cons_zero, List.set_cons_succ, i64_w, i32_w]
                  rfl
                refine pure_ (i := 4) (N := some 18) (v := ?_) (a' := ?_) #[true, true, true, true, true, false, false, false, false, false, false, false, false, false, false, false, false, false, false] rfl rfl (any_of HT_.out (by kernel_rfl)) (fun _ _ _ h => h) (Or.inl ⟨by rfl, ?_⟩) ?_ ?_
                rotate_left
                · intro w'
                  go_simp
                  with_reducible rfl
                rotate_left
                · simp only [Act.put, List.setIfInBounds_toArray, List.set_cons_zero, List.set_cons_succ, i64_w, i32_w]
                  rfl
                refine pure_ (i := 5) (N := some 19) (v := ?_) (a' := ?_) #[true, true, true, true, true, true, false, false, false, false, false, false, false, false, false, false, false, false, false] rfl rfl (any_of HT_.out (by kernel_rfl)) (fun _ _ _ h => h) (Or.inl ⟨by rfl, ?_⟩) ?_ ?_
                rotate_left
                · intro w'
                  go_simp
                  with_reducible rfl
                rotate_left
                · simp only [Act.put, List.setIfInBounds_toArray, List.set_cons_zero, List.set_cons_succ, i64_w, i32_w]
                  rfl
                refine pure_ (i := 6) (N := some 20) (v := ?_) (a' := ?_) #[true, true, true, true, true, true, true, false, false, false, false, false, false, false, false, false, false, false, false] rfl rfl (any_of HT_.out (by kernel_rfl)) (fun _ _ _ h => h) (Or.inl ⟨by rfl, ?_⟩) ?_ ?_
                rotate_left
                · intro w'
                  go_simp
                  with_reducible rfl
                rotate_left
                · simp only [Act.put, List.setIfInBounds_toArray, List.set_cons_zero, List.set_cons_succ, i64_w, i32_w]
                  rfl
                refine pure_ (i := 7) (N := some 21) (v := undef) (a' := ?_) #[true, true, true, true, true, true, true, true, false, false, false, false, false, false, false, false, false, false, false] rfl rfl (any_of HT_.out (by kernel_rfl)) (fun _ _ _ h => h) (Or.inr ⟨by rfl, rfl⟩) ?_ ?_
                rotate_left
                · simp only [Act.put, List.setIfInBounds_toArray, List.set_cons_zero, List.set_cons_succ, i64_w, i32_w]
                  rfl
                refine pure_ (i := 8) (N := some 22) (v := undef) (a' := ?_) #[true, true, true, true, true, true, true, true, true, false, false, false, false, false, false, false, false, false, false] rfl rfl (any_of HT_.out (by kernel_rfl)) (fun _ _ _ h => h) (Or.inr ⟨by rfl, rfl⟩) ?_ ?_
                rotate_left
                · simp only [Act.put, List.setIfInBounds_toArray, List.set_cons_zero, List.set_cons_succ, i64_w, i32_w]
                  rfl
                refine pure_ (i := 9) (N := some 23) (v := undef) (a' := ?_) #[true, true, true, true, true, true, true, true, true, true, false, false, false, false, false, false, false, false, false] rfl rfl (any_of HT_.out (by kernel_rfl)) (fun _ _ _ h => h) (Or.inr ⟨by rfl, rfl⟩) ?_ ?_
                rotate_left
                · simp only [Act.put, List.setIfInBounds_toArray, List.set_cons_zero, List.set_cons_succ, i64_w, i32_w]
                  rfl
                refine pure_ (i := 10) (N := some 24) (v := undef) (a' := ?_) #[true, true, true, true, true, true, true, true, true, true, true, false, false, false, false, false, false, false, false] rfl rfl (any_of HT_.out (by kernel_rfl)) (fun _ _ _ h => h) (Or.inr ⟨by rfl, rfl⟩) ?_ ?_
                rotate_left
                · simp only [Act.put, List.setIfInBounds_toArray, List.set_cons_zero, List.set_cons_succ, i64_w, i32_w]
                  rfl
                refine pure_ (i := 11) (N := some 25) (v := undef) (a' := ?_) #[true, true, true, true, true, true, true, true, true, true, true, true, false, false, false, false, false, false, false] rfl rfl (any_of HT_.out (by kernel_rfl)) (fun _ _ _ h => h) (Or.inr ⟨by rfl, rfl⟩) ?_ ?_
                rotate_left
                · simp only [Act.put, List.setIfInBounds_toArray, List.set_cons_zero, List.set_cons_succ, i64_w, i32_w]
                  rfl
                refine pure_ (i := 12) (N := some 26) (v := undef) (a' := ?_) #[true, true, true, true, true, true, true, true, true, true, true, true, true, false, false, false, false, false, false] rfl rfl (any_of HT_.out (by kernel_rfl)) (fun _ _ _ h => h) (Or.inr ⟨by rfl, rfl⟩) ?_ ?_
                rotate_left
                · simp only [Act.put, List.setIfInBounds_toArray, List.set_cons_zero, List.set_cons_succ, i64_w, i32_w]
                  rfl
                refine pure_ (i := 13) (N := some 27) (v := undef) (a' := ?_) #[true, true, true, true, true, true, true, true, true, true, true, true, true, true, false, false, false, false, false] rfl rfl (any_of HT_.out (by kernel_rfl)) (fun _ _ _ h => h) (Or.inr ⟨by rfl, rfl⟩) ?_ ?_
                rotate_left
                · simp only [Act.put, List.setIfInBounds_toArray, List.set_cons_zero, List.set_cons_succ, i64_w, i32_w]
                  rfl
                refine pure_ (i := 14) (N := some 28) (v := undef) (a' := ?_) #[true, true, true, true, true, true, true, true, true, true, true, true, true, true, true, false, false, false, false] rfl rfl (any_of HT_.out (by kernel_rfl)) (fun _ _ _ h => h) (Or.inr ⟨by rfl, rfl⟩) ?_ ?_
                rotate_left
                · simp only [Act.put, List.setIfInBounds_toArray, List.set_cons_zero, List.set_cons_succ, i64_w, i32_w]
                  rfl
                refine pure_ (i := 15) (N := some 29) (v := undef) (a' := ?_) #[true, true, true, true, true, true, true, true, true, true, true, true, true, true, true, true, false, false, false] rfl rfl (any_of HT_.out (by kernel_rfl)) (fun _ _ _ h => h) (Or.inr ⟨by rfl, rfl⟩) ?_ ?_
                rotate_left
                · simp only [Act.put, List.setIfInBounds_toArray, List.set_cons_zero, List.set_cons_succ, i64_w, i32_w]
                  rfl
                refine pure_ (i := 16) (N := some 30) (v := undef) (a' := ?_) #[true, true, true, true, true, true, true, true, true, true, true, true, true, true, true, true, true, false, false] rfl rfl (any_of HT_.out (by kernel_rfl)) (fun _ _ _ h => h) (Or.inr ⟨by rfl, rfl⟩) ?_ ?_
                rotate_left
                · simp only [Act.put, List.setIfInBounds_toArray, List.set_cons_zero, List.set_cons_succ, i64_w, i32_w]
                  rfl
                refine pure_ (i := 17) (N := some 31) (v := ?_) (a' := ?_) #[true, true, true, true, true, true, true, true, true, true, true, true, true, true, true, true, true, true, false] rfl rfl (any_of HT_.out (by kernel_rfl)) (fun _ _ _ h => h) (Or.inl ⟨by rfl, ?_⟩) ?_ ?_
                rotate_left
                · intro w'
                  go_simp
                  with_reducible rfl
                rotate_left
                · simp only [Act.put, List.setIfInBounds_toArray, List.set_cons_zero, List.set_cons_succ, i64_w, i32_w]
                  rfl
                refine pure_ (i := 18) (N := some 32) (v := ?_) (a' := ?_) #[true, true, true, true, true, true, true, true, true, true, true, true, true, true, true, true, true, true, true] rfl rfl (any_of HT_.out (by kernel_rfl)) (fun _ _ _ h => h) (Or.inl ⟨by rfl, ?_⟩) ?_ ?_
                rotate_left
                · intro w'
                  go_simp
                  with_reducible rfl
                rotate_left
                · simp only [Act.put, List.setIfInBounds_toArray, List.set_cons_zero, List.set_cons_succ, i64_w, i32_w]
                  rfl
                refine done_ (done_of HT_.out (by kernel_rfl)) ?_
                have hcz29_0 : w28.cell? ⟨gb317, 0, none⟩ = some (.string ((rd_T26 l0 x9_1).f0)) := (blk_cell BK317.out 0).trans rfl
                have hcz29_1 : w28.cell? ⟨gb317, 1, none⟩ = some (.string ((rd_T26 l0 x9_1).f1)) := (blk_cell BK317.out 1).trans rfl
                have hfz29_0 := blk_frozen BK317.out 0
                have hfz29_1 := blk_frozen BK317.out 1
                try go_wp2
                go_roundg k1
                case measure => have := HK1.out; omega
                case rel => exact ⟨(wrap64 (x4_1 + (wrap64 ((wrap64 (2 + (((rd_T26 l0 x9_1).f0).size : Int))) + (((rd_T26 l0 x9_1).f1).size : Int))))), (wrap64 (x9_1 + 1)), (by first | rfl | (simp; done) | (simp [*]; done)), (by first | rfl | (simp; done) | (simp [*]; done)), H', ⟨by have := HK1.out; omega⟩, ⟨by repeat (first | (with_reducible first | exact HB.out | apply below_alloc | apply pw_below_drewN | apply below_drew1 | refine below_set ?_ GE317.out) | exact HB.out)⟩⟩
            · replace c6 := Bool.eq_false_iff.mpr c6
              subst c6
              have H1 : (some (false, 1)) = some (r1, r2) := by rw [if_neg (show ¬ (false = true) by decide)] at H; exact H
              clear H
              have H := H1
              clear H1
              simp only [Option.some.injEq, Prod.mk.injEq] at H
              obtain ⟨rfl, rfl⟩ := H
              have p316 : 0 ≤ (x9_1 : Int) := of_decide_eq_true (by first | (with_reducible assumption) | assumption)
              have q316 : x9_1 < (l0.length : Int) := of_decide_eq_true (by first | (with_reducible assumption) | assumption)
              obtain ⟨ad316, e316, hx316_0, hx316_1⟩ := at_T26 HR0.out x9_1 p316 q316
              cases e316
              replace hx316_0 := (HB.out.cell (World.block_lt_of_cell? w _ hx316_0)).trans hx316_0
              replace hx316_1 := (HB.out.cell (World.block_lt_of_cell? w _ hx316_1)).trans hx316_1
              replace p316 := eq_true p316
              replace q316 := eq_true q316
              try go_wp2_with (first | ((with_reducible refine gate_dst (N := 6) rfl ?_); refine box_event ?hg (N := 6) ?hd (cs := #[.string (⟨#[]⟩ : ByteArray), .string (⟨#[]⟩ : ByteArray)]) (t := 26) ?hr ?_; (case hd => rfl); (case hg => rfl); (case hr => first | (go_simp; done) | (go_simp; rfl)); intro gb317 hg w30 hbox hb; have n0_ := Aside0.mk (below_step (by repeat (first | (with_reducible first | exact HB.out | apply below_alloc | apply pw_below_drewN | apply below_drew1) | exact HB.out)) hb); have n1_ := Aside0.mk (hbox); have n2_ := Aside0.mk ((by rw [hg]; exact (below_size (by repeat (first | (with_reducible first | exact HB.out | apply below_alloc | apply pw_below_drewN | apply below_drew1) | exact HB.out))) : w.heap.size ≤ gb317)); have n3_ := Aside0.mk ((by rw [hg]; exact (below_size (by repeat (first | (with_reducible first | exact HB.out | apply below_alloc | apply pw_below_drewN | apply below_drew1) | exact HB.out))) : w.heap.size ≤ gb317)); clear HB; have HB := n0_; have BK317 := n1_; have GW317 := n2_; have GE317 := n3_; clear n0_ n1_ n2_ n3_; clear hb hbox hg; have hcz31_0 : w30.cell? ⟨gb317, 0, none⟩ = some (.string (⟨#[]⟩ : ByteArray)) := (blk_cell BK317.out 0).trans rfl; have hcz31_1 : w30.cell? ⟨gb317, 1, none⟩ = some (.string (⟨#[]⟩ : ByteArray)) := (blk_cell BK317.out 1).trans rfl; have hfz31_0 := blk_frozen BK317.out 0; have hfz31_1 := blk_frozen BK317.out 1))
              have n0_ : Aside0 (((w30.setCell ⟨gb317, 0, none⟩ (.string ((rd_T26 l0 x9_1).f0))).setCell ⟨gb317, 1, none⟩ (.string ((rd_T26 l0 x9_1).f1))).heap[gb317]? = some (.cells #[.string ((rd_T26 l0 x9_1).f0), .string ((rd_T26 l0 x9_1).f1)] 26 (0, 0))) := ⟨by (with_reducible repeat (first | refine blk_drewN ?_ _ | refine blk_drew ?_ | refine blk_alloc ?_ _)); refine blk_put (cs := #[.string ((rd_T26 l0 x9_1).f0), .string (⟨#[]⟩ : ByteArray)]) ?_ 1 _ rfl; (with_reducible repeat (first | refine blk_drewN ?_ _ | refine blk_drew ?_ | refine blk_alloc ?_ _)); refine blk_put (cs := #[.string (⟨#[]⟩ : ByteArray), .string (⟨#[]⟩ : ByteArray)]) ?_ 0 _ rfl; (with_reducible repeat (first | refine blk_drewN ?_ _ | refine blk_drew ?_ | refine blk_alloc ?_ _)); exact BK317.out⟩
              have n1_ : Aside0 (Below w.heap.size w ((w30.setCell ⟨gb317, 0, none⟩ (.string ((rd_T26 l0 x9_1).f0))).setCell ⟨gb317, 1, none⟩ (.string ((rd_T26 l0 x9_1).f1)))) := ⟨by repeat (first | (with_reducible first | exact HB.out | apply below_alloc | apply pw_below_drewN | apply below_drew1 | refine below_set ?_ GE317.out) | exact HB.out)⟩
              (try clear BK317)
              (try clear HB)
              generalize ((w30.setCell ⟨gb317, 0, none⟩ (.string ((rd_T26 l0 x9_1).f0))).setCell ⟨gb317, 1, none⟩ (.string ((rd_T26 l0 x9_1).f1))) = w32 at n0_ n1_ ⊢
              have BK317 := n0_
              have HB := n1_
              clear n0_ n1_
              have n0_ := Aside0.mk (blk_drew BK317.out)
              have n1_ := Aside0.mk (below_drew1 HB.out)
              clear BK317
              clear HB
              have BK317 := n0_
              have HB := n1_
              clear n0_ n1_
              refine start_ (n := 19) (S := fun w' => w'.cell? ⟨gb317, 0, none⟩ = some (.string ((rd_T26 l0 x9_1).f0)) ∧ w'.cell? ⟨gb317, 1, none⟩ = some (.string ((rd_T26 l0 x9_1).f1))) (ds := []) #[false, false, false, false, false, false, false, false, false, false, false, false, false, false, false, false, false, false, false] (by kernel_rfl) rfl rfl ⟨(blk_cell BK317.out 0).trans rfl, (blk_cell BK317.out 1).trans rfl⟩ (fun hHeld => ?_); refine with_tabW attr_check.tab5 attr_check.bits5 (fun HT_ HW_ => ?_)
              generalize w32.drew = w33 at BK317 HB hHeld ⊢
              refine take_ (i := 0) (N := some 14) (v := ?_) (a' := ?_) #[true, false, false, false, false, false, false, false, false, false, false, false, false, false, false, false, false, false, false] rfl rfl (take_ofW HT_.out HW_.out (by kernel_rfl)) (fun _ _ _ h => h) (Or.inl ⟨by rfl, ?_⟩) hHeld ?_ ?_
              rotate_left
              · rintro w' ⟨s0, s1⟩
                go_simp
                with_reducible rfl
              rotate_left
              · simp only [Act.put, List.setIfInBounds_toArray, List.set_cons_zero, List.set_cons_succ, i64_w, i32_w]
                rfl
              refine one_ (i := 1) (N := some 15) #[true, true, false, false, false, false, false, false, false, false, false, false, false, false, false, false, false, false, false] rfl rfl (one_of HT_.out (by kernel_rfl)) (by decide) (fun K hK => ?_)
              refine goes_ Try.func36 (by kernel_rfl) rfl #[.agg #[.string ((rd_T26 l0 x9_1).f0), .string ((rd_T26 l0 x9_1).f1)]] (by rfl) rfl rfl (by (try simp only [List.map_toArray, List.map_cons, List.map_nil]); first | done | rfl | (simp only [List.length_drop, List.length_take]; rfl)) ?_
              with_reducible refine (attr_may.calls ((rd_T26 l0 x9_1).f0) ((rd_T26 l0 x9_1).f1) false _ A5.out).mono ?_
              rintro e w34 ⟨rfl, hb⟩
              refine ⟨_, rfl, ?_⟩
              have n0_ := Aside0.mk (blk_below (g := gb317) (o := .cells #[.string ((rd_T26 l0 x9_1).f0), .string ((rd_T26 l0 x9_1).f1)] 26 (0, 0)) (by (with_reducible repeat (first | refine blk_drewN ?_ _ | refine blk_drew ?_ | refine blk_alloc ?_ _)); exact BK317.out) hb)
              have n1_ := Aside0.mk (below_step (by repeat (first | (with_reducible first | exact HB.out | apply below_alloc | apply pw_below_drewN | apply below_drew1 | refine below_set ?_ GE317.out) | exact HB.out)) hb)
              clear BK317
              clear HB
              have BK317 := n0_
              have HB := n1_
              clear n0_ n1_
              (try clear hb)
              (try clear hb2)
              (try clear hk)
              (try clear hi)
              refine hK.out _ _ ⟨(blk_cell BK317.out 0).trans rfl, (blk_cell BK317.out 1).trans rfl⟩ (fun hHeld => ?_)
              clear hK K
              refine norm_ (a' := ?_) ?_ ?_
              rotate_left
              · show Act.put _ (some 15) _ = _
                simp only [Act.put, List.setIfInBounds_toArray, List.set_cons_zero, List.set_cons_succ, i64_w, i32_w]
                rfl
              refine pure_ (i := 2) (N := some 16) (v := ?_) (a' := ?_) #[true, true, true, false, false, false, false, false, false, false, false, false, false, false, false, false, false, false, false] rfl rfl (any_of HT_.out (by kernel_rfl)) (fun _ _ _ h => h) (Or.inl ⟨by rfl, ?_⟩) ?_ ?_
              rotate_left
              · intro w'
                go_simp
                with_reducible rfl
              rotate_left
              · simp only [Act.put, List.setIfInBounds_toArray, List.set_cons_zero, List.set_cons_succ, i64_w, i32_w]
                rfl
              refine pure_ (i := 3) (N := some 17) (v := ?_) (a' := ?_) #[true, true, true, true, false, false, false, false, false, false, false, false, false, false, false, false, false, false, false] rfl rfl (any_of HT_.out (by kernel_rfl)) (fun _ _ _ h => h) (Or.inl ⟨by rfl, ?_⟩) ?_ ?_
              rotate_left
              · intro w'
                go_simp
                with_reducible rfl
              rotate_left
              · simp only [Act.put, List.setIfInBounds_toArray, List.set_cons_zero, List.set_cons_succ, i64_w, i32_w]
                rfl
              refine pure_ (i := 4) (N := some 18) (v := undef) (a' := ?_) #[true, true, true, true, true, false, false, false, false, false, false, false, false, false, false, false, false, false, false] rfl rfl (any_of HT_.out (by kernel_rfl)) (fun _ _ _ h => h) (Or.inr ⟨by rfl, rfl⟩) ?_ ?_
              rotate_left
              · simp only [Act.put, List.setIfInBounds_toArray, List.set_cons_zero, List.set_cons_succ, i64_w, i32_w]
                rfl
              refine pure_ (i := 5) (N := some 19) (v := undef) (a' := ?_) #[true, true, true, true, true, true, false, false, false, false, false, false, false, false, false, false, false, false, false] rfl rfl (any_of HT_.out (by kernel_rfl)) (fun _ _ _ h => h) (Or.inr ⟨by rfl, rfl⟩) ?_ ?_
              rotate_left
              · simp only [Act.put, List.setIfInBounds_toArray, List.set_cons_zero, List.set_cons_succ, i64_w, i32_w]
                rfl
              refine pure_ (i := 6) (N := some 20) (v := undef) (a' := ?_) #[true, true, true, true, true, true, true, false, false, false, false, false, false, false, false, false, false, false, false] rfl rfl (any_of HT_.out (by kernel_rfl)) (fun _ _ _ h => h) (Or.inr ⟨by rfl, rfl⟩) ?_ ?_
              rotate_left
              · simp only [Act.put, List.setIfInBounds_toArray, List.set_cons_zero, List.set_cons_succ, i64_w, i32_w]
                rfl
              refine pure_ (i := 7) (N := some 21) (v := undef) (a' := ?_) #[true, true, true, true, true, true, true, true, false, false, false, false, false, false, false, false, false, false, false] rfl rfl (any_of HT_.out (by kernel_rfl)) (fun _ _ _ h => h) (Or.inr ⟨by rfl, rfl⟩) ?_ ?_
              rotate_left
              · simp only [Act.put, List.setIfInBounds_toArray, List.set_cons_zero, List.set_cons_succ, i64_w, i32_w]
                rfl
              refine pure_ (i := 8) (N := some 22) (v := undef) (a' := ?_) #[true, true, true, true, true, true, true, true, true, false, false, false, false, false, false, false, false, false, false] rfl rfl (any_of HT_.out (by kernel_rfl)) (fun _ _ _ h => h) (Or.inr ⟨by rfl, rfl⟩) ?_ ?_
              rotate_left
              · simp only [Act.put, List.setIfInBounds_toArray, List.set_cons_zero, List.set_cons_succ, i64_w, i32_w]
                rfl
              refine pure_ (i := 9) (N := some 23) (v := undef) (a' := ?_) #[true, true, true, true, true, true, true, true, true, true, false, false, false, false, false, false, false, false, false] rfl rfl (any_of HT_.out (by kernel_rfl)) (fun _ _ _ h => h) (Or.inr ⟨by rfl, rfl⟩) ?_ ?_
              rotate_left
              · simp only [Act.put, List.setIfInBounds_toArray, List.set_cons_zero, List.set_cons_succ, i64_w, i32_w]
                rfl
              refine pure_ (i := 10) (N := some 24) (v := undef) (a' := ?_) #[true, true, true, true, true, true, true, true, true, true, true, false, false, false, false, false, false, false, false] rfl rfl (any_of HT_.out (by kernel_rfl)) (fun _ _ _ h => h) (Or.inr ⟨by rfl, rfl⟩) ?_ ?_
              rotate_left
              · simp only [Act.put, List.setIfInBounds_toArray, List.set_cons_zero, List.set_cons_succ, i64_w, i32_w]
                rfl
              refine pure_ (i := 11) (N := some 25) (v := undef) (a' := ?_) #[true, true, true, true, true, true, true, true, true, true, true, true, false, false, false, false, false, false, false] rfl rfl (any_of HT_.out (by kernel_rfl)) (fun _ _ _ h => h) (Or.inr ⟨by rfl, rfl⟩) ?_ ?_
              rotate_left
              · simp only [Act.put, List.setIfInBounds_toArray, List.set_cons_zero, List.set_cons_succ, i64_w, i32_w]
                rfl
              refine pure_ (i := 12) (N := some 26) (v := undef) (a' := ?_) #[true, true, true, true, true, true, true, true, true, true, true, true, true, false, false, false, false, false, false] rfl rfl (any_of HT_.out (by kernel_rfl)) (fun _ _ _ h => h) (Or.inr ⟨by rfl, rfl⟩) ?_ ?_
              rotate_left
              · simp only [Act.put, List.setIfInBounds_toArray, List.set_cons_zero, List.set_cons_succ, i64_w, i32_w]
                rfl
              refine pure_ (i := 13) (N := some 27) (v := undef) (a' := ?_) #[true, true, true, true, true, true, true, true, true, true, true, true, true, true, false, false, false, false, false] rfl rfl (any_of HT_.out (by kernel_rfl)) (fun _ _ _ h => h) (Or.inr ⟨by rfl, rfl⟩) ?_ ?_
              rotate_left
              · simp only [Act.put, List.setIfInBounds_toArray, List.set_cons_zero, List.set_cons_succ, i64_w, i32_w]
                rfl
              refine pure_ (i := 14) (N := some 28) (v := undef) (a' := ?_) #[true, true, true, true, true, true, true, true, true, true, true, true, true, true, true, false, false, false, false] rfl rfl (any_of HT_.out (by kernel_rfl)) (fun _ _ _ h => h) (Or.inr ⟨by rfl, rfl⟩) ?_ ?_
              rotate_left
              · simp only [Act.put, List.setIfInBounds_toArray, List.set_cons_zero, List.set_cons_succ, i64_w, i32_w]
                rfl
              refine pure_ (i := 15) (N := some 29) (v := undef) (a' := ?_) #[true, true, true, true, true, true, true, true, true, true, true, true, true, true, true, true, false, false, false] rfl rfl (any_of HT_.out (by kernel_rfl)) (fun _ _ _ h => h) (Or.inr ⟨by rfl, rfl⟩) ?_ ?_
              rotate_left
              · simp only [Act.put, List.setIfInBounds_toArray, List.set_cons_zero, List.set_cons_succ, i64_w, i32_w]
                rfl
              refine pure_ (i := 16) (N := some 30) (v := undef) (a' := ?_) #[true, true, true, true, true, true, true, true, true, true, true, true, true, true, true, true, true, false, false] rfl rfl (any_of HT_.out (by kernel_rfl)) (fun _ _ _ h => h) (Or.inr ⟨by rfl, rfl⟩) ?_ ?_
              rotate_left
              · simp only [Act.put, List.setIfInBounds_toArray, List.set_cons_zero, List.set_cons_succ, i64_w, i32_w]
                rfl
              refine pure_ (i := 17) (N := some 31) (v := undef) (a' := ?_) #[true, true, true, true, true, true, true, true, true, true, true, true, true, true, true, true, true, true, false] rfl rfl (any_of HT_.out (by kernel_rfl)) (fun _ _ _ h => h) (Or.inr ⟨by rfl, rfl⟩) ?_ ?_
              rotate_left
              · simp only [Act.put, List.setIfInBounds_toArray, List.set_cons_zero, List.set_cons_succ, i64_w, i32_w]
                rfl
              refine pure_ (i := 18) (N := some 32) (v := ?_) (a' := ?_) #[true, true, true, true, true, true, true, true, true, true, true, true, true, true, true, true, true, true, true] rfl rfl (any_of HT_.out (by kernel_rfl)) (fun _ _ _ h => h) (Or.inl ⟨by rfl, ?_⟩) ?_ ?_
              rotate_left
              · intro w'
                go_simp
                with_reducible rfl
              rotate_left
              · simp only [Act.put, List.setIfInBounds_toArray, List.set_cons_zero, List.set_cons_succ, i64_w, i32_w]
                rfl
              refine done_ (done_of HT_.out (by kernel_rfl)) ?_
              try go_wp2
              go_ret2
              exact ⟨by first | rfl | (simp [errW_none, errW_some] <;> rfl) | (simp [*, errW_none, errW_some] <;> rfl), by repeat (first | (with_reducible first | exact HB.out | apply below_alloc | apply pw_below_drewN | apply below_drew1 | refine below_set ?_ GE317.out) | exact HB.out)⟩
          · rw [if_neg c4] at H
            exact absurd H (by simp)
        · rw [if_neg c3] at H
          exact absurd H (by simp)
      · rw [if_neg c2] at H
        have c2b0 : decide (x9_1 < (l0.length : Int)) = false := decide_eq_false c2
        clear c2
        simp only [Option.some.injEq, Prod.mk.injEq] at H
        obtain ⟨rfl, rfl⟩ := H
        go_wp2
        go_ret2
        exact ⟨by first | rfl | (simp [errW_none, errW_some] <;> rfl) | (simp [*, errW_none, errW_some] <;> rfl), by repeat (first | (with_reducible first | exact HB.out | apply below_alloc | apply pw_below_drewN | apply below_drew1) | exact HB.out)⟩
end Go.Proofs.Ytffaggckhneakaa.Pr
end
section
namespace Go.Proofs.Ytffaggckhneakaa.Pr
open Go.RowKit Go.Proofs.YtffaggckhneakaaW.PrintWords Go.Proofs.YtffaggckhneakaaW.PrintLast Go.Proofs.YtffaggckhneakaaW.PrintMore
attribute [local go_sem] max2_int min2_int max_two min_two max_three min_three max_four min_four
attribute [local go_sem] Go.Proofs.Ytffaggckhneakaa.Hl.str_geq Go.Proofs.Ytffaggckhneakaa.Hl.str_gtr Go.Proofs.Ytffaggckhneakaa.Hl.str_leq
set_option linter.unusedVariables false
set_option linter.unusedSimpArgs false
def bsf_l0 : Nat → List S26 → ByteArray → Int → Int → Option (Int × Bool)
  | 0, _, _, _, _ => none
  | k + 1, l, s, i, j => if i < j then (if 0 ≤ i ∧ j ≤ (l.length : Int) then (if Lib.compareBytes (rd_T26 l ((i + j) / 2)).f0.data.toList s.data.toList < 0 then bsf_l0 k l s ((i + j) / 2 + 1) j else bsf_l0 k l s i ((i + j) / 2)) else none) else (if 0 ≤ i then (if i < (l.length : Int) then some (i, Lib.compareBytes (rd_T26 l i).f0.data.toList s.data.toList == 0) else some (i, false)) else none)
set_option maxHeartbeats 8000000 in
set_option maxRecDepth 100000 in
theorem find_cmp (a b s : ByteArray) (W : World) :
    Calls Try.prog 60 #[.agg #[.string a, .string b], .string s] W fun e w' => e = .returned (.int .i64 (Lib.compareBytes a.data.toList s.data.toList)) ∧ Below W.heap.size W w' := by
  have hu26 := Try.underlying26
  go_enter Try.func60, Try.ntmps60
  go_wp2_with (go_at_call 50; refine (strings_Compare.calls a s _ _ rfl).mono ?_; rintro e w2 ⟨rfl, ⟨m2, rfl⟩⟩)
  go_ret
  exact ⟨rfl, pw_below_drewN ((Below.refl _ _).alloc (Nat.le_refl _) _) _⟩
set_option maxHeartbeats 8000000 in
set_option maxRecDepth 100000 in
theorem bsf (k : Nat) (A0 : Option Addr) (c0 : Nat) (l : List S26) (s : ByteArray) (r1 : Int) (r2 : Bool) (w : World) (hr0 : Kd.C k26 w A0 l.length l) (hc0 : l.length ≤ c0) (hl : l.length < 4398046511104) (h : bsf_l0 k l s 0 l.length = some (r1, r2)) :
    Calls Try.prog 59 #[.slice A0 l.length c0, .string s, .func (.func 60) #[] #[]] w fun e w' => e = .returned (.tuple #[.int .i64 r1, .bool r2]) ∧ Below w.heap.size w w' := by
  have HR0 := Aside0.mk hr0
  have HC0 := Aside0.mk hc0
  have HL := Aside0.mk hl
  have HH := Aside0.mk h
  have hi26 := info26
  have hu26 := Try.underlying26
  clear hr0 hc0 hl h
  go_enter Try.func59, Try.ntmps59
  go_wp2
  go_loopg [9, 10] k (fun kq v9 v10 w' => ∃ (i j : Int), v9 = .int .i64 i ∧ v10 = .int .i64 j ∧ Aside0 (bsf_l0 kq l s i j = some (r1, r2)) ∧ Aside0 (kq ≤ k) ∧ Aside0 (Below w.heap.size w w'))
  case atStart => exact ⟨0, l.length, rfl, rfl, HH, ⟨Nat.le_refl _⟩, ⟨Below.refl _ _⟩⟩
  case round =>
    obtain ⟨i, j, rfl, rfl, HQ, HK, HB⟩ := hrel
    cases gk with
    | zero => exact absurd HQ.out (by intro h_; cases h_)
    | succ g =>
      have hl := HQ.out
      clear HQ
      simp only [bsf_l0] at hl
      by_cases hij : i < j
      · rw [if_pos hij] at hl
        have hijb : decide (i < j) = true := decide_eq_true hij
        by_cases hb : 0 ≤ i ∧ j ≤ (l.length : Int)
        · rw [if_pos hb] at hl
          obtain ⟨m, hm⟩ : ∃ m, (i + j) / 2 = m := ⟨_, rfl⟩
          rw [hm] at hl
          have hm0 : 0 ≤ m := by omega
          have hml : m < (l.length : Int) := by omega
          have HM := Aside0.mk (⟨hm0, hml⟩ : 0 ≤ m ∧ m < (l.length : Int))
          have hw1 : wrap64 (i + j) = i + j := by have := HL.out; unfold wrap64; omega
          have hw2 : IntKind.u64.wrap (i + j) = i + j := by have := HL.out; simp [IntKind.wrap, IntKind.signed, IntKind.bits]; omega
          have hw3 : wrap64 m = m := by have := HL.out; unfold wrap64; omega
          have hw4 : wrap64 (m + 1) = m + 1 := by have := HL.out; unfold wrap64; omega
          have hdv : (i + j) / 2 ^ (1 : Int).toNat = m := hm
          obtain ⟨ad, ead, hca, hcb⟩ := at_T26 HR0.out m hm0 hml
          cases ead
          replace hca := (HB.out.cell (World.block_lt_of_cell? w _ hca)).trans hca
          replace hcb := (HB.out.cell (World.block_lt_of_cell? w _ hcb)).trans hcb
          obtain ⟨na, hna⟩ : ∃ na, (rd_T26 l m).f0 = na := ⟨_, rfl⟩
          obtain ⟨nv, hnv⟩ : ∃ nv, (rd_T26 l m).f1 = nv := ⟨_, rfl⟩
          rw [hna] at hca hl
          rw [hnv] at hcb
          obtain ⟨cv, hcv⟩ : ∃ cv, Lib.compareBytes na.data.toList s.data.toList = cv := ⟨_, rfl⟩
          rw [hcv] at hl
          have hmb := decide_eq_true hml
          have hmb0 := decide_eq_true hm0
          clear hna hnv hb
          by_cases hlt : cv < 0
          · rw [if_pos hlt] at hl
            have hltb : decide (cv < 0) = true := decide_eq_true hlt
            have HLL := Aside0.mk hl
            clear hl hij hlt
            go_wp2_with (go_at_call 60; refine (find_cmp na nv s _).mono ?_; rintro e w2 ⟨rfl, hb2⟩; have HB2 := Aside0.mk (HB.out.trans (hb2.mono HB.out.size)); clear hb2)
            go_roundg g
            case measure => have := HK.out; omega
            case rel => exact ⟨m + 1, j, by rw [hw4], rfl, HLL, ⟨by have := HK.out; omega⟩, HB2⟩
          · rw [if_neg hlt] at hl
            have hltb : decide (cv < 0) = false := decide_eq_false hlt
            have HLL := Aside0.mk hl
            clear hl hij hlt
            go_wp2_with (go_at_call 60; refine (find_cmp na nv s _).mono ?_; rintro e w2 ⟨rfl, hb2⟩; have HB2 := Aside0.mk (HB.out.trans (hb2.mono HB.out.size)); clear hb2)
            go_roundg g
            case measure => have := HK.out; omega
            case rel => exact ⟨i, m, rfl, rfl, HLL, ⟨by have := HK.out; omega⟩, HB2⟩
        · rw [if_neg hb] at hl
          cases hl
      · rw [if_neg hij] at hl
        have hijb : decide (i < j) = false := decide_eq_false hij
        by_cases hi0 : 0 ≤ i
        · rw [if_pos hi0] at hl
          by_cases hil : i < (l.length : Int)
          · rw [if_pos hil] at hl
            have hilb : decide (i < (l.length : Int)) = true := decide_eq_true hil
            have hi0b : decide (0 ≤ i) = true := decide_eq_true hi0
            obtain ⟨ad, ead, hca, hcb⟩ := at_T26 HR0.out i hi0 hil
            cases ead
            replace hca := (HB.out.cell (World.block_lt_of_cell? w _ hca)).trans hca
            replace hcb := (HB.out.cell (World.block_lt_of_cell? w _ hcb)).trans hcb
            obtain ⟨na, hna⟩ : ∃ na, (rd_T26 l i).f0 = na := ⟨_, rfl⟩
            obtain ⟨nv, hnv⟩ : ∃ nv, (rd_T26 l i).f1 = nv := ⟨_, rfl⟩
            rw [hna] at hca hl
            rw [hnv] at hcb
            obtain ⟨cv, hcv⟩ : ∃ cv, Lib.compareBytes na.data.toList s.data.toList = cv := ⟨_, rfl⟩
            rw [hcv] at hl
            obtain ⟨rfl, rfl⟩ := Prod.mk.inj (Option.some.inj hl)
            clear hna hnv hl
            go_wp2_with (go_at_call 60; refine (find_cmp na nv s _).mono ?_; rintro e w2 ⟨rfl, hb2⟩; have HB2 := Aside0.mk (HB.out.trans (hb2.mono HB.out.size)); clear hb2)
            go_ret2
            exact ⟨rfl, HB2.out⟩
          · rw [if_neg hil] at hl
            have hilb : decide (i < (l.length : Int)) = false := decide_eq_false hil
            obtain ⟨rfl, rfl⟩ := Prod.mk.inj (Option.some.inj hl)
            clear hl
            go_wp2
            go_ret2
            exact ⟨rfl, HB.out⟩
        · rw [if_neg hi0] at hl
          cases hl
end Go.Proofs.Ytffaggckhneakaa.Pr
end
section
namespace Go.Proofs.Ytffaggckhneakaa.Pr
open Go.RowKit Go.Proofs.YtffaggckhneakaaW.PrintWords Go.Proofs.YtffaggckhneakaaW.PrintLast Go.Proofs.YtffaggckhneakaaW.PrintMore
attribute [local go_sem] max2_int min2_int max_two min_two max_three min_three max_four min_four
attribute [local go_sem] Go.Proofs.Ytffaggckhneakaa.Hl.str_geq Go.Proofs.Ytffaggckhneakaa.Hl.str_gtr Go.Proofs.Ytffaggckhneakaa.Hl.str_leq
set_option linter.unusedVariables false
set_option linter.unusedSimpArgs false
def attr_find.f (k : Nat) (l : List S26) (s : ByteArray) : Option (Int × Bool) := if l.length < 4398046511104 then bsf_l0 k l s 0 l.length else none
set_option maxHeartbeats 8000000 in
set_option maxRecDepth 100000 in
theorem attr_find.calls (k : Nat) (A0 : Option Addr) (c0 : Nat) (l0 : List (S26)) (a1 : ByteArray) (r1 : Int) (r2 : Bool) (w : World) (hr0 : Kd.C k26 w A0 l0.length l0) (hc0 : l0.length ≤ c0) (h : attr_find.f k l0 a1 = some (r1, r2)) :
    Calls Try.prog 38 #[.slice A0 l0.length c0, .string a1] w fun e w' => e = .returned (.tuple #[.int .i64 r1, .bool r2]) ∧ Below w.heap.size w w' := by
  unfold attr_find.f at h
  by_cases hl : l0.length < 4398046511104
  · rw [if_pos hl] at h
    have HR0 := Aside0.mk hr0
    have HC0 := Aside0.mk hc0
    have HL := Aside0.mk hl
    have HH := Aside0.mk h
    clear hr0 hc0 hl h
    go_enter Try.func38, Try.ntmps38
    go_wp2_with (go_at_call 59; refine (bsf k A0 c0 l0 a1 r1 r2 w HR0.out HC0.out HL.out HH.out).mono ?_; rintro e w2 ⟨rfl, hb⟩)
    go_ret2
    exact ⟨rfl, hb⟩
  · rw [if_neg hl] at h
    cases h
end Go.Proofs.Ytffaggckhneakaa.Pr
end
section
namespace Go.Proofs.Ytffaggckhneakaa.At
open Go.RowKit Go.Proofs.YtffaggckhneakaaW.PrintWords Go.Proofs.YtffaggckhneakaaW.PrintMore Go.Proofs.Ytffaggckhneakaa.Pr Go.Proofs.Ytffaggckhneakaa.Od Go.Proofs.Ytffaggckhneakaa.Cr
set_option linter.unusedVariables false
set_option linter.unusedSimpArgs false
abbrev E := S26
abbrev nb (e : E) : List UInt8 := e.f0.data.toList
theorem size_nb (s : ByteArray) : s.size = s.data.toList.length := Lib.size_eq _
def mayB (n v : ByteArray) : Bool := decide (1 ≤ n.size) && decide (n.size ≤ 16) && decide (v.size ≤ 64)
theorem may_some (n v : ByteArray) : attr_may.f n v = some (mayB n v) := by
  unfold attr_may.f mayB
  rw [Lib.toList_data]
  by_cases h0 : n.data.toList = []
  · have : n.size = 0 := by rw [size_nb, h0]; rfl
    rw [if_pos h0, this]; rfl
  · have hp : 1 ≤ n.size := by rw [size_nb]; have := List.length_pos_iff.2 h0; omega
    rw [if_neg h0, decide_eq_true hp]
    by_cases h1 : (n.size : Int) ≤ 16
    · rw [if_pos h1, decide_eq_true (show n.size ≤ 16 by omega), Bool.true_and, Bool.true_and]
      congr 1; exact decide_eq_decide.2 (by omega)
    · rw [if_neg h1, decide_eq_false (show ¬ n.size ≤ 16 by omega)]; rfl
def okE (e : E) : Bool := mayB e.f0 e.f1
def ahead (p : Option (List UInt8)) (e : E) : Bool := match p with | none => true | some q => less q (nb e)
def right : Option (List UInt8) → List E → Bool
  | _, [] => true
  | p, e :: l => okE e && ahead p e && right (some (nb e)) l
def sumL : List E → Nat
  | [] => 0
  | e :: l => 2 + e.f0.size + e.f1.size + sumL l
def checkR (l : List E) : Bool × Int := if right none l = true then (decide (sumL l ≤ 250), 0) else (false, 1)
theorem okE_size {e : E} (h : okE e = true) : 1 ≤ e.f0.size ∧ e.f0.size ≤ 16 ∧ e.f1.size ≤ 64 := by
  simp only [okE, mayB, Bool.and_eq_true, decide_eq_true_eq] at h
  exact ⟨h.1.1, h.1.2, h.2⟩
theorem right_iff : ∀ (l : List E) p, right p l = true ↔ (∀ e ∈ l, okE e = true) ∧ (∀ e ∈ l, ahead p e = true) ∧ l.Pairwise (fun a b => less (nb a) (nb b) = true)
  | [], p => by simp [right]
  | e :: l, p => by
    have ih := right_iff l (some (nb e))
    simp only [right, Bool.and_eq_true, ih, List.pairwise_cons]
    constructor
    · rintro ⟨⟨h1, h2⟩, h3, h4, h5⟩
      refine ⟨fun x hx => ?_, fun x hx => ?_, h4, h5⟩
      · rcases List.mem_cons.1 hx with rfl | hx
        · exact h1
        · exact h3 x hx
      · rcases List.mem_cons.1 hx with rfl | hx
        · exact h2
        · cases p with
          | none => rfl
          | some q => exact less_trans h2 (h4 x hx)
    · rintro ⟨h1, h2, h3, h4⟩
      exact ⟨⟨h1 e List.mem_cons_self, h2 e List.mem_cons_self⟩, fun x hx => h1 x (List.mem_cons_of_mem _ hx), h3, h4⟩
theorem rdT_get {l : List E} {i : Nat} (h : i < l.length) : rd_T26 l (i : Int) = l[i] := by
  unfold rd_T26; rw [List.getD_eq_getElem?_getD, Int.toNat_natCast, List.getElem?_eq_getElem h]; rfl
def pv (l : List E) (i : Nat) : Option (List UInt8) := if i = 0 then none else some (nb (rd_T26 l ((i : Int) - 1)))
theorem pv_succ {l : List E} {i : Nat} (h : i < l.length) : pv l (i + 1) = some (nb l[i]) := by
  unfold pv
  rw [if_neg (by omega), show ((i + 1 : Nat) : Int) - 1 = (i : Int) by omega, rdT_get h]
theorem check_ev (l : List E) (hl : l.length < 4398046511104) : Ev (fun k => attr_check.f k l) (checkR l) := by
  unfold attr_check.f
  have key : ∀ (n i acc : Nat), i + n = l.length → acc ≤ 82 * i → Ev (fun k => attr_check.l0 k l ((2 + acc : Nat) : Int) l (l.length : Int) (i : Int)) (if right (pv l i) (l.drop i) = true then (decide (acc + sumL (l.drop i) ≤ 250), 0) else (false, 1)) := by
    intro n
    induction n with
    | zero =>
      intro i acc hi ha
      refine Ev.succ ?_
      simp only [attr_check.l0, if_neg (show ¬((i : Int) < (l.length : Int)) by omega)]
      rw [List.drop_of_length_le (by omega)]
      have e : decide (((2 + acc : Nat) : Int) ≤ 252) = decide (acc + sumL [] ≤ 250) := decide_eq_decide.2 (by simp only [sumL]; omega)
      rw [e]
      exact Ev.now _
    | succ n ih =>
      intro i acc hi ha
      refine Ev.succ ?_
      have hil : i < l.length := by omega
      have ih' := fun a h => ih (i + 1) a (by omega) h
      rw [pv_succ hil] at ih'
      simp only [attr_check.l0, if_pos (show ((i : Int) < (l.length : Int)) by omega), if_pos (show (0 : Int) ≤ (i : Int) by omega), rdT_get hil, may_some, Option.bind_some]
      rw [List.drop_eq_getElem_cons hil]
      generalize he : l[i] = e at ih' ⊢
      have hbad : ∀ b, b = false → right (pv l i) (e :: l.drop (i + 1)) = b → Ev (fun _ : Nat => (some (false, 1) : Option (Bool × Int))) (if right (pv l i) (e :: l.drop (i + 1)) = true then (decide (acc + sumL (e :: l.drop (i + 1)) ≤ 250), 0) else (false, 1)) := by
        rintro _ rfl h
        rw [if_neg (by rw [h]; decide)]
        exact Ev.now _
      by_cases hm : mayB e.f0 e.f1 = true
      · simp only [hm, if_true]
        have hok : okE e = true := hm
        have hs := okE_size hok
        have hw : wrap64 (((2 + acc : Nat) : Int) + wrap64 (wrap64 (2 + (e.f0.size : Int)) + (e.f1.size : Int))) = ((2 + (acc + (2 + e.f0.size + e.f1.size)) : Nat) : Int) := by
          rw [w64 (n := 2 + (e.f0.size : Int)) (by omega) (by omega), w64 (n := 2 + (e.f0.size : Int) + (e.f1.size : Int)) (by omega) (by omega), w64 (by omega) (by omega)]; omega
        have hgo : Ev (fun k => attr_check.l0 k l ((2 + (acc + (2 + e.f0.size + e.f1.size)) : Nat) : Int) l (l.length : Int) (wrap64 ((i : Int) + 1))) (if right (some (nb e)) (l.drop (i + 1)) = true then (decide (acc + sumL (e :: l.drop (i + 1)) ≤ 250), 0) else (false, 1)) := by
          rw [w64 (by omega) (by omega), show acc + sumL (e :: l.drop (i + 1)) = (acc + (2 + e.f0.size + e.f1.size)) + sumL (l.drop (i + 1)) by simp only [sumL]; omega]
          exact ih' _ (by omega)
        by_cases hi0 : i = 0
        · subst hi0
          simp only [if_neg (show ¬ (((0 : Nat) : Int) > 0) by decide), hw]
          have e1 : right (pv l 0) (e :: l.drop (0 + 1)) = right (some (nb e)) (l.drop (0 + 1)) := by simp [right, hok, pv, ahead]
          rw [e1]
          exact hgo
        · have hp : pv l i = some (nb (rd_T26 l ((i : Int) - 1))) := by unfold pv; rw [if_neg hi0]
          simp only [if_pos (show ((i : Int) > 0) by omega), w64 (show -9223372036854775808 ≤ (i : Int) - 1 by omega) (by omega), if_pos (show (0 : Int) ≤ (i : Int) - 1 by omega), if_pos (show (i : Int) - 1 < (l.length : Int) by omega), strings_Compare.f, Option.bind_some]
          have hc := compare_neg (rd_T26 l ((i : Int) - 1)).f0.data.toList e.f0.data.toList
          by_cases hlt : less (nb (rd_T26 l ((i : Int) - 1))) (nb e) = true
          · simp only [if_neg (show ¬ (Lib.compareBytes (rd_T26 l ((i : Int) - 1)).f0.data.toList e.f0.data.toList ≥ 0) by have := hc.2 hlt; omega), hw]
            have e1 : right (pv l i) (e :: l.drop (i + 1)) = right (some (nb e)) (l.drop (i + 1)) := by simp [right, hok, hp, ahead, hlt]
            rw [e1]
            exact hgo
          · simp only [if_pos (show (Lib.compareBytes (rd_T26 l ((i : Int) - 1)).f0.data.toList e.f0.data.toList ≥ 0) by
              rcases Int.lt_or_le (Lib.compareBytes (rd_T26 l ((i : Int) - 1)).f0.data.toList e.f0.data.toList) 0 with h | h
              · exact absurd (hc.1 h) hlt
              · exact h)]
            exact hbad _ rfl (by simp [right, hp, ahead, hlt])
      · have hm' : mayB e.f0 e.f1 = false := by simpa using hm
        simp only [hm', Bool.false_eq_true, if_false]
        exact hbad _ rfl (by simp [right, okE, hm'])
  have := key l.length 0 0 (by omega) (by omega)
  rw [List.drop_zero, Nat.zero_add] at this
  exact this
theorem split (s : List UInt8) : ∀ (l : List E), l.Pairwise (fun a b => less (nb a) (nb b) = true) → ∃ A M C, l = A ++ (M ++ C) ∧ (∀ e ∈ A, less (nb e) s = true) ∧ (∀ e ∈ C, less s (nb e) = true) ∧ (M = [] ∨ ∃ m, M = [m] ∧ nb m = s)
  | [], _ => ⟨[], [], [], rfl, by simp, by simp, .inl rfl⟩
  | e :: l, h => by
    obtain ⟨h1, h2⟩ := List.pairwise_cons.1 h
    rcases less_tri (nb e) s with hl | hl | hl
    · obtain ⟨A, M, C, rfl, hA, hC, hM⟩ := split s l h2
      refine ⟨e :: A, M, C, rfl, fun x hx => ?_, hC, hM⟩
      rcases List.mem_cons.1 hx with rfl | hx
      · exact hl
      · exact hA x hx
    · exact ⟨[], [e], l, rfl, by simp, fun x hx => hl ▸ h1 x hx, .inr ⟨e, rfl, hl⟩⟩
    · refine ⟨[], [], e :: l, rfl, by simp, fun x hx => ?_, .inl rfl⟩
      rcases List.mem_cons.1 hx with rfl | hx
      · exact hl
      · exact less_trans hl (h1 x hx)
theorem find_ev (A M C : List E) (s : ByteArray) (hA : ∀ e ∈ A, less (nb e) s.data.toList = true) (hC : ∀ e ∈ C, less s.data.toList (nb e) = true) (hM : M = [] ∨ ∃ m, M = [m] ∧ nb m = s.data.toList)
    (hl : (A ++ (M ++ C)).length < 4398046511104) : Ev (fun k => attr_find.f k (A ++ (M ++ C)) s) ((A.length : Int), decide (M ≠ [])) := by
  unfold attr_find.f
  simp only [if_pos hl]
  obtain ⟨l, hL⟩ : ∃ l, A ++ (M ++ C) = l := ⟨_, rfl⟩
  have hlen : l.length = A.length + (M.length + C.length) := by rw [← hL, List.length_append, List.length_append]
  have hlo : ∀ m (h : m < l.length), m < A.length → less (nb l[m]) s.data.toList = true := by
    intro m h hm
    have : l[m] = A[m] := by subst hL; exact List.getElem_append_left hm
    rw [this]
    exact hA _ (List.getElem_mem hm)
  have hhi : ∀ m (h : m < l.length), A.length ≤ m → less (nb l[m]) s.data.toList = false := by
    intro m h hm
    have h2 : m - A.length < (M ++ C).length := by rw [List.length_append]; omega
    have : l[m] = (M ++ C)[m - A.length] := by subst hL; exact List.getElem_append_right hm
    rw [this]
    rcases List.mem_append.1 (List.getElem_mem h2) with hx | hx
    · rcases hM with hM | ⟨y, hM, hy⟩
      · generalize (M ++ C)[m - A.length] = z at hx
        rw [hM] at hx; cases hx
      · generalize (M ++ C)[m - A.length] = z at hx ⊢
        rw [hM] at hx
        rw [List.mem_singleton.1 hx, hy, less_irrefl]
    · exact less_asymm (hC _ hx)
  rw [hL]
  have key : ∀ (n i j : Nat), j - i ≤ n → i ≤ A.length → A.length ≤ j → j ≤ l.length → Ev (fun k => bsf_l0 k l s (i : Int) (j : Int)) ((A.length : Int), decide (M ≠ [])) := by
    intro n
    induction n with
    | zero =>
      intro i j hn hi hj hjl
      refine Ev.succ ?_
      obtain rfl : i = A.length := by omega
      simp only [bsf_l0, if_neg (show ¬ ((A.length : Int) < (j : Int)) by omega), if_pos (show (0 : Int) ≤ (A.length : Int) by omega)]
      by_cases hlt : (A.length : Int) < (l.length : Int)
      · simp only [if_pos hlt]
        have hil : A.length < l.length := by omega
        rw [rdT_get hil]
        have e : (Lib.compareBytes l[A.length].f0.data.toList s.data.toList == 0) = decide (M ≠ []) := by
          rcases hM with rfl | ⟨m, rfl, hm⟩
          · have h2 : 0 < C.length := by simp only [List.length_nil] at hlen; omega
            have : l[A.length] = C[0] := by subst hL; simp
            rw [this]
            have h3 := less_ne (hC _ (List.getElem_mem h2))
            have h4 : ¬ Lib.compareBytes C[0].f0.data.toList s.data.toList = 0 := fun h => h3 ((compare_zero _ _).1 h).symm
            simp [h4]
          · have : l[A.length] = m := by subst hL; simp
            rw [this, (compare_zero _ _).2 hm]; simp
        rw [e]
        exact Ev.now _
      · simp only [if_neg hlt]
        have : M = [] := List.eq_nil_of_length_eq_zero (by omega)
        subst this
        exact Ev.now _
    | succ n ih =>
      intro i j hn hi hj hjl
      by_cases hij : i < j
      · refine Ev.succ ?_
        have em : ((i : Int) + (j : Int)) / 2 = (((i + j) / 2 : Nat) : Int) := by omega
        have hml : (i + j) / 2 < l.length := by omega
        simp only [bsf_l0, if_pos (show ((i : Int) < (j : Int)) by omega), if_pos (show (0 : Int) ≤ (i : Int) ∧ (j : Int) ≤ (l.length : Int) by omega), em, rdT_get hml]
        have hc := compare_neg l[(i + j) / 2].f0.data.toList s.data.toList
        by_cases hmA : (i + j) / 2 < A.length
        · simp only [if_pos (hc.2 (hlo _ hml hmA))]
          have := ih ((i + j) / 2 + 1) j (by omega) (by omega) hj hjl
          rw [show (((i + j) / 2 : Nat) : Int) + 1 = (((i + j) / 2 + 1 : Nat) : Int) by omega]
          exact this
        · have hf : ¬ Lib.compareBytes l[(i + j) / 2].f0.data.toList s.data.toList < 0 := fun h => by
            have h1 := hc.1 h
            have h2 := hhi _ hml (by omega)
            rw [show less l[(i + j) / 2].f0.data.toList s.data.toList = false from h2] at h1
            cases h1
          simp only [if_neg hf]
          exact ih i ((i + j) / 2) (by omega) hi (by omega) (by omega)
      · exact ih i j (by omega) hi hj hjl
  exact key l.length 0 l.length (by omega) (by omega) (by omega) (by omega)
def put (x : E) (l : List E) : List E := l.filter (fun e => less (nb e) (nb x)) ++ x :: l.filter (fun e => less (nb x) (nb e))
def getF (s : List UInt8) (l : List E) : Option E := l.find? (fun e => decide (nb e = s))
theorem fnil {p : E → Bool} {l : List E} (h : ∀ e ∈ l, p e = false) : l.filter p = [] := List.filter_eq_nil_iff.2 (fun e he => by rw [h e he]; decide)
section
variable {A M C : List E} {s : List UInt8} (hA : ∀ e ∈ A, less (nb e) s = true) (hC : ∀ e ∈ C, less s (nb e) = true) (hM : M = [] ∨ ∃ m, M = [m] ∧ nb m = s)
include hA hC hM
theorem lo_split : (A ++ (M ++ C)).filter (fun e => less (nb e) s) = A := by
  rw [List.filter_append, List.filter_append, List.filter_eq_self.2 hA, fnil (l := M) ?_, fnil (l := C) (fun e he => less_asymm (hC e he))]
  · simp
  · intro e he
    rcases hM with rfl | ⟨m, rfl, hm⟩
    · cases he
    · rw [List.mem_singleton.1 he, hm, less_irrefl]
theorem hi_split : (A ++ (M ++ C)).filter (fun e => less s (nb e)) = C := by
  rw [List.filter_append, List.filter_append, List.filter_eq_self.2 hC, fnil (l := M) ?_, fnil (l := A) (fun e he => less_asymm (hA e he))]
  · simp
  · intro e he
    rcases hM with rfl | ⟨m, rfl, hm⟩
    · cases he
    · rw [List.mem_singleton.1 he, hm, less_irrefl]
theorem get_split : getF s (A ++ (M ++ C)) = M.head? := by
  unfold getF
  rw [List.find?_append, List.find?_eq_none.2 (fun e he => by simp [less_ne (hA e he)])]
  rcases hM with rfl | ⟨m, rfl, hm⟩
  · rw [List.nil_append, List.find?_eq_none.2 (fun e he => by simp [(less_ne (hC e he)).symm])]; rfl
  · simp [hm]
end
theorem put_split {A M C : List E} {x : E} (hA : ∀ e ∈ A, less (nb e) (nb x) = true) (hC : ∀ e ∈ C, less (nb x) (nb e) = true) (hM : M = [] ∨ ∃ m, M = [m] ∧ nb m = nb x) :
    put x (A ++ (M ++ C)) = A ++ x :: C := by
  unfold put
  rw [lo_split hA hC hM, hi_split hA hC hM]
theorem put_right {x : E} {l : List E} (hr : right none l = true) (hx : okE x = true) : right none (put x l) = true := by
  obtain ⟨h1, _, h3⟩ := (right_iff l none).1 hr
  refine (right_iff _ none).2 ⟨fun e he => ?_, fun _ _ => rfl, ?_⟩
  · unfold put at he
    rcases List.mem_append.1 he with h | h
    · exact h1 e (List.mem_filter.1 h).1
    · rcases List.mem_cons.1 h with rfl | h
      · exact hx
      · exact h1 e (List.mem_filter.1 h).1
  · unfold put
    refine List.pairwise_append.2 ⟨h3.filter _, List.pairwise_cons.2 ⟨fun e he => (List.mem_filter.1 he).2, h3.filter _⟩, fun a ha b hb => ?_⟩
    have ha' := (List.mem_filter.1 ha).2
    rcases List.mem_cons.1 hb with rfl | hb
    · exact ha'
    · exact less_trans ha' (List.mem_filter.1 hb).2
theorem put_len {x : E} {l : List E} : (put x l).length ≤ l.length + 1 := by
  have key : ∀ l : List E, (l.filter (fun e => less (nb e) (nb x))).length + (l.filter (fun e => less (nb x) (nb e))).length ≤ l.length := by
    intro l
    induction l with
    | nil => simp
    | cons e l ih =>
      simp only [List.filter_cons, List.length_cons]
      by_cases h : less (nb e) (nb x) = true
      · have h2 : less (nb x) (nb e) = false := less_asymm h
        simp only [h, h2, if_true, Bool.false_eq_true, if_false, List.length_cons]; omega
      · have h' : less (nb e) (nb x) = false := by simpa using h
        simp only [h', Bool.false_eq_true, if_false]
        by_cases h2 : less (nb x) (nb e) = true
        · simp only [h2, if_true, List.length_cons]; omega
        · have h2' : less (nb x) (nb e) = false := by simpa using h2
          simp only [h2', Bool.false_eq_true, if_false]; omega
  have := key l
  unfold put
  rw [List.length_append, List.length_cons]; omega
def setR (l : List E) (x : E) : List E × Int := if right none l = true ∧ okE x = true then (if sumL (put x l) ≤ 250 then (put x l, 0) else ([], 15)) else ([], 1)
def getR (l : List E) (s : List UInt8) : ByteArray × Int := if right none l = true then (match getF s l with | some m => (m.f1, 0) | none => (⟨#[]⟩, 15)) else (⟨#[]⟩, 1)
end Go.Proofs.Ytffaggckhneakaa.At
end
section
namespace Go.Proofs.Ytffaggckhneakaa.Pr
open Go.RowKit Go.Proofs.YtffaggckhneakaaW.PrintWords Go.Proofs.YtffaggckhneakaaW.PrintLast Go.Proofs.YtffaggckhneakaaW.PrintMore
attribute [local go_sem] max2_int min2_int max_two min_two max_three min_three max_four min_four
attribute [local go_sem] Go.Proofs.Ytffaggckhneakaa.Hl.str_geq Go.Proofs.Ytffaggckhneakaa.Hl.str_gtr Go.Proofs.Ytffaggckhneakaa.Hl.str_leq
set_option linter.unusedVariables false
set_option linter.unusedSimpArgs false
theorem eqIn_nil {P : Program} (w : World) (d : Nat) (t e : TypeId) (a : Option Addr) (n c n' c' : Nat) (h : P.underlying t = some (.slice e)) : (Op.equalIn (d + 1) t (.slice a n c) (.slice none n' c')).run P w = .ok a.isNone w := by
  cases a <;> simp [Op.equalIn, run_underlying h]
theorem eql_nil {P : Program} (w : World) (t e : TypeId) (a : Option Addr) (n c n' c' : Nat) (h : P.underlying t = some (.slice e)) : (binOp .eql t (.slice a n c) (.slice none n' c')).run P w = .ok (.bool a.isNone) w := by
  simp only [binOp]
  simp [Op.equal, Op.maxDepth, eqIn_nil w 9999 t e a n c n' c' h]
def api_Pair_37.f (l0 : List S26) : Option (List S26) := if l0.length < 4398046511104 then some l0 else none
set_option maxHeartbeats 8000000 in
set_option maxRecDepth 100000 in
theorem api_Pair_37.calls (A0 : Option Addr) (c0 : Nat) (l0 : List (S26)) (r : List (S26)) (w : World) (hr0 : Kd.C k26 w A0 l0.length l0) (hc0 : l0.length ≤ c0) (h : api_Pair_37.f l0 = some r) :
    Calls Try.prog 37 #[.slice A0 l0.length c0] w fun e w' => ∃ v0_ : Value, e = .returned (v0_) ∧ Kd.R k26 26 w' w.heap.size (fun _ => True) v0_ r ∧ Below w.heap.size w w' := by
  unfold api_Pair_37.f at h
  by_cases hl : l0.length < 4398046511104
  · rw [if_pos hl] at h
    obtain rfl := Option.some.inj h
    have hu26 := Try.underlying26
    cases A0 with
    | none =>
      obtain rfl : l0 = [] := by
        rcases Nat.eq_zero_or_pos l0.length with h0 | h0
        · exact List.eq_nil_of_length_eq_zero h0
        · obtain ⟨ad, e, _⟩ := hr0.2.2 h0
          cases e
      clear hr0
      have hq := fun W : World => eql_nil (P := Try.prog) W 22 26 none 0 c0 0 0 Try.underlying22
      simp only [Option.isNone_none] at hq
      go_enter Try.func37, Try.ntmps37
      go_wp2
      go_ret
      exact ⟨_, rfl, Kd.R_nil _ _ _ _ _, Below.refl _ _⟩
    | some ad =>
      have HR0 := Aside0.mk hr0
      have HC0 := Aside0.mk hc0
      have HL := Aside0.mk hl
      clear hr0 hc0 hl h
      have hq := fun W : World => eql_nil (P := Try.prog) W 22 26 (some ad) l0.length c0 0 0 Try.underlying22
      simp only [Option.isNone_some] at hq
      go_enter Try.func37, Try.ntmps37
      go_wp2_with (first | ((with_reducible refine gate_builtin (b := .append) (xs := #[.tmp 5, .tmp 6]) rfl ?_); at_builtin; refine Kd.R_append_rows k26 (w0 := w) w.heap.size rfl (.tmp 5) (.tmp 6) 22 26 (.agg #[(.string ⟨#[]⟩), (.string ⟨#[]⟩)]) 32 rfl Try.underlying22 info26 rfl (by decide) (by omega) v1 [] l0 _ _ _ (fun _ => True) (fun _ => False) rfl rfl ho1.out (Kd.C_below HR0.out hb1.out) (fun _ _ h => h) (fun _ h => h.elim) (fun _ _ => trivial) hb1.out hb1.out.size (by have := HL.out; simp only [List.length_nil]; omega) ?_; intro v2 w2 ho2 hb2 hg2 hat2; rw [List.nil_append] at ho2; have HO2 := Aside0.mk ho2; have HB2 := Aside0.mk hb2; clear ho2 hb2 hg2 hat2) | ((with_reducible refine gate_dst (N := 5) rfl ?_); refine Kd.R_lit k26 (w0 := w) _ 26 ?hg (N := 5) ?hd (xs := ([] : List S26)) (inner := []) (ok := fun _ => True) (okp := fun _ => True) ?hr ?hp (fun _ hk => hk) trivial (Below.refl _ _) (Nat.le_refl _) (by simp) ?_; (case hd => rfl); (case hg => rfl); (case hr => first | (go_simp; done) | (go_simp; rfl)); (case hp => exact (Reps.none _ _)); intro v1 w1 ho1' hb1' hg1 hn1; have ho1 := Aside0.mk ho1'; have hb1 := Aside0.mk hb1'; clear ho1' hb1' hg1 hn1))
      go_ret
      exact ⟨_, rfl, HO2.out, HB2.out⟩
  · rw [if_neg hl] at h
    cases h
end Go.Proofs.Ytffaggckhneakaa.Pr
end
section
namespace Go.Proofs.Ytffaggckhneakaa.Rw
open Go.RowKit Go.Proofs.YtffaggckhneakaaW.PrintWords Go.Proofs.YtffaggckhneakaaW.PrintLast Go.Proofs.YtffaggckhneakaaW.PrintMore Go.Proofs.Ytffaggckhneakaa.Pr
set_option linter.unusedVariables false
set_option linter.unusedSimpArgs false
abbrev E := S26
def cells2 (e : E) : List Value := [.string e.f0, .string e.f1]
def flat (xs : List E) : List Value := xs.flatMap cells2
theorem flat_cons (e : E) (xs : List E) : flat (e :: xs) = cells2 e ++ flat xs := rfl
theorem flat_append (a b : List E) : flat (a ++ b) = flat a ++ flat b := by unfold flat; rw [List.flatMap_append]
theorem flat_len : ∀ xs : List E, (flat xs).length = xs.length * 2
  | [] => rfl
  | e :: xs => by rw [flat_cons, List.length_append, flat_len xs, List.length_cons]; simp [cells2]; omega
theorem flat_take : ∀ (xs : List E) (n : Nat), flat (xs.take n) = (flat xs).take (n * 2)
  | [], n => by simp [flat]
  | e :: xs, 0 => by simp [flat]
  | e :: xs, n + 1 => by
    rw [List.take_succ_cons, flat_cons, flat_cons, flat_take xs n, show (n + 1) * 2 = (cells2 e).length + n * 2 by simp [cells2]; omega, List.take_length_add_append]
theorem flat_drop : ∀ (xs : List E) (n : Nat), flat (xs.drop n) = (flat xs).drop (n * 2)
  | [], n => by simp [flat]
  | e :: xs, 0 => by simp
  | e :: xs, n + 1 => by
    rw [List.drop_succ_cons, flat_cons, flat_drop xs n, show (n + 1) * 2 = (cells2 e).length + n * 2 by simp [cells2]; omega, List.drop_length_add_append]
theorem flat_of : ∀ (xs : List E) (inner : List Value), inner.length = xs.length * 2 → (∀ j p, xs[j]? = some p → (inner.drop (j * 2)).take 2 = cells2 p) → inner = flat xs
  | [], inner, hl, _ => List.eq_nil_of_length_eq_zero (by simpa using hl)
  | e :: xs, inner, hl, h => by
    have h0 := h 0 e rfl
    rw [Nat.zero_mul, List.drop_zero] at h0
    have hr := flat_of xs (inner.drop 2) (by rw [List.length_drop, hl, List.length_cons]; omega) (fun j p hj => by
      have := h (j + 1) p (by simpa using hj)
      rw [List.drop_drop, show 2 + j * 2 = (j + 1) * 2 by omega]
      exact this)
    rw [flat_cons, ← h0, ← hr, List.take_append_drop]
theorem flat_at : ∀ (xs : List E) (j : Nat) (p : E), xs[j]? = some p → ((flat xs).drop (j * 2)).take 2 = cells2 p
  | e :: xs, 0, p, h => by
    simp only [List.getElem?_cons_zero, Option.some.injEq] at h
    subst h
    rw [Nat.zero_mul, List.drop_zero, flat_cons, List.take_append_of_le_length (by simp [cells2]), List.take_of_length_le (by simp [cells2])]
  | e :: xs, j + 1, p, h => by
    rw [← flat_drop, List.drop_succ_cons, flat_drop]
    exact flat_at xs j p (by simpa using h)
theorem flat_one : ∀ (xs : List E), ∀ v ∈ flat xs, v.oneCell' = true := by
  intro xs v hv
  obtain ⟨e, _, h⟩ := List.mem_flatMap.1 hv
  simp only [cells2, List.mem_cons, List.not_mem_nil, or_false] at h
  rcases h with rfl | rfl <;> rfl
theorem R_flat {w : World} {base : Nat} {ok : Nat → Prop} {v : Value} {xs : List E} (h : Kd.R k26 26 w base ok v xs) : w.ownsRow base 26 2 v xs.length (flat xs) := by
  obtain ⟨h0, inner, ho, hr⟩ := h
  have : inner = flat xs := flat_of xs inner hr.1 (fun j p hj => k26_openM (hr.2 j p hj))
  rw [← this]; exact ho
theorem flat_R {w : World} {base : Nat} {ok : Nat → Prop} {v : Value} {xs : List E} (ho : w.ownsRow base 26 2 v xs.length (flat xs)) (hok : ∀ k, v.ownBlock = some k → ok k) : Kd.R k26 26 w base ok v xs :=
  ⟨hok, flat xs, ho, flat_len xs, fun j p hj => by rw [show k26.sz = 2 from rfl, flat_at xs j p hj]; exact k26_mkM _ _ _ p⟩
theorem run_copy_cells {P : Program} (w : World) (dT sT ty elem : TypeId) (g o dLen dCap : Nat) (a : Addr) (sLen sCap : Nat) (cur : Array Value) (t : TypeId) (cs : List Value) (n sz : Nat)
    (hu : P.underlying dT = some (.slice elem)) (hs : (P.info? elem).map (·.size) = some sz)
    (hg : w.heap[g]? = some (.cells cur t (0, 0))) (hn : n = Nat.min sLen dLen) (hcl : cs.length = n * sz)
    (hsrc : ∀ j v, cs[j]? = some v → w.cell? (a.add j) = some v) (hfit : o + cs.length ≤ cur.size) (h1 : ∀ v ∈ cs, v.oneCell' = true) :
    (Builtin.copy_ #[dT, sT] ty #[.slice (some ⟨g, o, none⟩) dLen dCap, .slice (some a) sLen sCap]).run P w =
      .ok (goInt n) (w.setRow g (cur.toList.take o ++ cs ++ cur.toList.drop (o + cs.length)).toArray) := by
  have hl := run_loadCells_list (P := P) w a cs hsrc
  have hst := run_storeCells_at P g o t cs 0 cur w hg (by simpa using hfit) h1
  cases hq : P.info? elem with
  | none => simp [hq] at hs
  | some i =>
    have hi : i.size = sz := by simpa [hq] using hs
    rw [hcl] at hl
    simp [Builtin.copy_, run_underlying hu, Builtin.lenOf, Builtin.firstCells, sizeOf, typeInfo, hq, hi, ← hn, hl, hst]
section
variable {P : Program} {ops : Array Oper} {rest : List Oper} {o : Oper} {a : Act} {Q : Exit → Act → World → Prop} {Kc : Act → World → Prop}
theorem copy_step (w : World) (hw : Region.wanted o (yielded ops a.tmps) = true) (d s : Operand) (t t' : TypeId) (ho : o.op = .call { callee := .builtin .copy, args := #[d, s], argTypes := #[t, t'] }) (v u : Value) (hd : a.eval d = v) (hs : a.eval s = u) {v' : Value} {w' : World}
    (hr : (Builtin.copy_ #[t, t'] o.type #[v, u]).run P w = .ok v' w') (h : Kc (a.put o.dst v') w') : if Region.wanted o (yielded ops a.tmps) = true then Oper.wp P o a w Kc Q else Kc (a.put o.dst undef) w := by
  rw [if_pos hw]
  unfold Oper.wp execOp
  simp only [ho, resolve, invoke, builtin, Sem.run_bind, Sem.run_pure, Result.andThen_ok, List.map_toArray, List.map_cons, List.map_nil, hd, hs, hr]
  exact h
theorem append_ev (w : World) (hgd : o.guard = none) (d s : Operand) (t t' : TypeId) (ho : o.op = .call { callee := .builtin .append, args := #[d, s], argTypes := #[t, t'] }) (v u : Value) (hd : a.eval d = v) (hs : a.eval s = u) {v' : Value} {w' : World}
    (hr : (Builtin.append_ #[t, t'] o.type #[v, u]).run P w = .ok v' w') (h : wpList P ops Q rest (a.put o.dst v') w') : wpList P ops Q (o :: rest) a w := by
  refine wpList_plain hgd fun K hK => ?_
  unfold Oper.wp execOp
  simp only [ho, resolve, invoke, builtin, Sem.run_bind, Sem.run_pure, Result.andThen_ok, List.map_toArray, List.map_cons, List.map_nil, hd, hs, hr]
  exact hK _ _ h
end
theorem own_open {w : World} {base : Nat} {v : Value} {n : Nat} {cs : List Value} {e sz : Nat} (ho : w.ownsRow base e sz v n cs) (hp : 0 < n) :
    ∃ g cap cur, v = .slice (some ⟨g, 0, none⟩) n cap ∧ base ≤ g ∧ w.heap[g]? = some (.cells cur e (0, 0)) ∧ n ≤ cap ∧ cap ≤ maxLen ∧ cur.size = cap * sz ∧ cur.toList.take (n * sz) = cs := by
  rcases ho.2 with ⟨_, h0⟩ | h
  · omega
  · exact h
theorem below_turn {B g : Nat} {w0 w : World} (hb : Below B w0 w) (hBg : B ≤ g) (cs : Array Value) : Below B w0 (w.setRow g cs) :=
  hb.trans ⟨rfl, rfl, rfl, by simp [World.setRow], fun k hk => setRow_other w g k cs (by omega)⟩
theorem zero_len (q : Nat) : (Builtin.zeroCells (Value.agg #[(.string ⟨#[]⟩), (.string ⟨#[]⟩)]).cells q).size = q * 2 := by simp [Builtin.zeroCells, Value.cells]
end Go.Proofs.Ytffaggckhneakaa.Rw
end
section
namespace Go.Proofs.Ytffaggckhneakaa.Pr
open Go.RowKit Go.Proofs.YtffaggckhneakaaW.PrintWords Go.Proofs.YtffaggckhneakaaW.PrintLast Go.Proofs.YtffaggckhneakaaW.PrintMore
attribute [local go_sem] max2_int min2_int max_two min_two max_three min_three max_four min_four
attribute [local go_sem] Go.Proofs.Ytffaggckhneakaa.Hl.str_geq Go.Proofs.Ytffaggckhneakaa.Hl.str_gtr Go.Proofs.Ytffaggckhneakaa.Hl.str_leq
set_option linter.unusedVariables false
set_option linter.unusedSimpArgs false
theorem ins_row (W : World) (vb : Nat) (p : S26) (hV : W.heap[vb]? = some (.cells #[.string p.f0, .string p.f1] 26 (0, 0))) : Kd.C k26 W (some ⟨vb, 0, none⟩) 1 [p] := by
  refine ⟨rfl, by simp, fun _ => ⟨_, rfl, fun j q hj => ?_⟩⟩
  cases j with
  | zero =>
    simp only [List.getElem?_cons_zero, Option.some.injEq] at hj
    subst hj
    refine ⟨[.string p.f0, .string p.f1], rfl, k26_mk _ p, fun i u hu => ?_⟩
    rw [add_plain]
    have e : 0 * k26.sz + i = i := by rw [show k26.sz = 2 from rfl]; omega
    rw [e, blk_cell hV i]
    simpa using hu
  | succ j => simp at hj
def flat2 (xs : List S26) (i : Nat) : List Value := (Rw.flat xs).drop (i * 2)
set_option maxHeartbeats 8000000 in
set_option maxRecDepth 100000 in
theorem ins_calls (W : World) (base : Nat) (v : Value) (xs : List S26) (p : S26) (vb i n : Nat) (hn : xs.length = n) (hO : Kd.R k26 26 W base (fun _ => True) v xs) (hV : W.heap[vb]? = some (.cells #[.string p.f0, .string p.f1] 26 (0, 0)))
    (hne : ∀ g, v.ownBlock = some g → g ≠ vb) (hbase : base ≤ W.heap.size) (hi : i ≤ n) (hl : n < 4398046511103) :
    Calls Try.prog 39 #[v, .int .i64 i, .slice (some ⟨vb, 0, none⟩) 1 1] W fun e w' => ∃ v', e = .returned v' ∧ Kd.R k26 26 w' base (fun _ => True) v' (xs.take i ++ p :: xs.drop i) ∧ Below base W w' := by
  have hw : ∀ z : Int, 0 ≤ z → z < 9223372036854775807 → wrap64 z = z := fun z _ _ => by unfold wrap64; omega
  have hu26 := Try.underlying26
  have hi26 := info26
  obtain ⟨A, c, rfl⟩ := Kd.R_slice hO
  rw [hn] at hO
  by_cases hin : i = n
  · subst hin
    have HO := Aside0.mk hO
    have HL := Aside0.mk hl
    have HN := Aside0.mk hn
    have hCV := Aside0.mk (ins_row W vb p hV)
    have h0 : (0 : Int) ≤ (i : Int) := by omega
    have h1 : (i : Int) ≤ (i : Int) := by omega
    rw [hn]
    clear hO hl hn hV hne hw
    cases A with
    | none =>
      obtain ⟨rfl, rfl⟩ : i = 0 ∧ c = 0 := by
        rcases (Rw.R_flat HO.out).2 with ⟨h, _⟩ | ⟨g', c', cur', h, _⟩
        · injection h with h1 h2 h3
          exact ⟨h2, h3⟩
        · cases h
      go_enter Try.func39, Try.ntmps39
      go_wp2_with ((with_reducible refine gate_builtin (b := .append) (xs := #[.tmp 23, .tmp 24]) rfl ?_); at_builtin; refine Kd.R_append_rows k26 (w0 := W) base rfl (.tmp 23) (.tmp 24) 22 26 (.agg #[(.string ⟨#[]⟩), (.string ⟨#[]⟩)]) 32 rfl Try.underlying22 info26 rfl (by decide) (by omega) _ xs [p] _ _ _ (fun _ => True) (fun _ => False) rfl rfl HO.out hCV.out (fun _ _ h => h) (fun _ h => h.elim) (fun _ _ => trivial) (Below.refl _ _) hbase (by have := HL.out; have := HN.out; omega) ?_; intro v2 w2 ho2 hb2 hg2 hat2; have HO2 := Aside0.mk ho2; have HB2 := Aside0.mk hb2; clear ho2 hb2 hg2 hat2)
      go_ret
      have e1 : ∀ j, xs.length = j → xs.take j ++ p :: xs.drop j = xs ++ [p] := fun j h => by rw [List.take_of_length_le (by omega), List.drop_of_length_le (by omega)]
      rw [e1 _ HN.out]
      exact ⟨_, rfl, HO2.out, HB2.out⟩
    | some ad =>
      by_cases hci : c = i
      · subst hci
        go_enter Try.func39, Try.ntmps39
        go_wp2_with ((with_reducible refine gate_builtin (b := .append) (xs := #[.tmp 23, .tmp 24]) rfl ?_); at_builtin; refine Kd.R_append_rows k26 (w0 := W) base rfl (.tmp 23) (.tmp 24) 22 26 (.agg #[(.string ⟨#[]⟩), (.string ⟨#[]⟩)]) 32 rfl Try.underlying22 info26 rfl (by decide) (by omega) _ xs [p] _ _ _ (fun _ => True) (fun _ => False) rfl rfl HO.out hCV.out (fun _ _ h => h) (fun _ h => h.elim) (fun _ _ => trivial) (Below.refl _ _) hbase (by have := HL.out; have := HN.out; omega) ?_; intro v2 w2 ho2 hb2 hg2 hat2; have HO2 := Aside0.mk ho2; have HB2 := Aside0.mk hb2; clear ho2 hb2 hg2 hat2)
        go_ret
        have e1 : ∀ j, xs.length = j → xs.take j ++ p :: xs.drop j = xs ++ [p] := fun j h => by rw [List.take_of_length_le (by omega), List.drop_of_length_le (by omega)]
        rw [e1 _ HN.out]
        exact ⟨_, rfl, HO2.out, HB2.out⟩
      · skip
        go_enter Try.func39, Try.ntmps39
        go_wp2_with ((with_reducible refine gate_builtin (b := .append) (xs := #[.tmp 23, .tmp 24]) rfl ?_); at_builtin; refine Kd.R_append_rows k26 (w0 := W) base rfl (.tmp 23) (.tmp 24) 22 26 (.agg #[(.string ⟨#[]⟩), (.string ⟨#[]⟩)]) 32 rfl Try.underlying22 info26 rfl (by decide) (by omega) _ xs [p] _ _ _ (fun _ => True) (fun _ => False) rfl rfl HO.out hCV.out (fun _ _ h => h) (fun _ h => h.elim) (fun _ _ => trivial) (Below.refl _ _) hbase (by have := HL.out; have := HN.out; omega) ?_; intro v2 w2 ho2 hb2 hg2 hat2; have HO2 := Aside0.mk ho2; have HB2 := Aside0.mk hb2; clear ho2 hb2 hg2 hat2)
        go_ret
        have e1 : ∀ j, xs.length = j → xs.take j ++ p :: xs.drop j = xs ++ [p] := fun j h => by rw [List.take_of_length_le (by omega), List.drop_of_length_le (by omega)]
        rw [e1 _ HN.out]
        exact ⟨_, rfl, HO2.out, HB2.out⟩
  · have hlt : i < n := by omega
    have hp0 : 0 < xs.length := by omega
    have h0 : (0 : Int) ≤ (i : Int) := by omega
    have h1 : (i : Int) ≤ (n : Int) := by omega
    have hne1 : ((i : Int) == (n : Int)) = false := beq_eq_false_iff_ne.2 (by omega)
    have hn63 : (n : Int) + 1 < 9223372036854775807 := by omega
    have hi63 : (i : Int) + 1 < 9223372036854775807 := by omega
    have HW1 := Aside0.mk (hw ((n : Int) + 1) (by omega) hn63)
    have HW3 := Aside0.mk (hw ((i : Int) + 1) (by omega) hi63)
    have hXl : (flat2 xs i).length = (n - i) * 2 := by unfold flat2; rw [List.length_drop, Rw.flat_len, hn]; omega
    have hflen : (xs.take i ++ p :: xs.drop i).length = n + 1 := by rw [List.length_append, List.length_cons, List.length_take, List.length_drop, hn]; omega
    have HW4 := Aside0.mk ((hw ((n : Int) + 1 - (i : Int)) (by omega) (by omega)).trans (by omega : (n : Int) + 1 - (i : Int) = ((n + 1 - i : Nat) : Int)))
    clear hw hn63 hi63
    obtain ⟨g, c', cur, hv, hbg, hg, hnc, hcm, hcs, htk⟩ := Rw.own_open (Rw.R_flat hO) hp0
    have HCM := Aside0.mk hcm
    clear hcm
    injection hv with hv1 hv2 hv3
    subst hv1
    subst hv3
    clear hv2
    rw [hn] at hnc htk ⊢
    have hgv : g ≠ vb := hne g rfl
    have hglt : g < W.heap.size := blk_lt hg
    have hvlt : vb < W.heap.size := blk_lt hV
    have hcl : cur.toList.length = c * 2 := by rw [Array.length_toList, hcs]
    have hci : ¬ (c = i) := fun e => absurd hlt (by rw [← e]; exact Nat.not_lt.2 hnc)
    have hcells : ∀ j u, (flat2 xs i)[j]? = some u → W.cell? ⟨g, i * 2 + j, none⟩ = some u := by
      intro j u hj
      rw [blk_cell hg, ← Array.getElem?_toList]
      unfold flat2 at hj
      rw [List.getElem?_drop, ← htk, List.getElem?_take] at hj
      split at hj
      · exact hj
      · cases hj
    have hadd : ∀ b o j : Nat, (⟨b, o, none⟩ : Addr).add j = ⟨b, o + j, none⟩ := fun b o j => by unfold Addr.add; split <;> simp_all
    have hfl1 : ∀ v ∈ flat2 xs i, v.oneCell' = true := fun v hv => Rw.flat_one xs v (List.mem_of_mem_drop hv)
    have hpl1 : ∀ v ∈ Rw.cells2 p, v.oneCell' = true := by intro v hv; simp only [Rw.cells2, List.mem_cons, List.not_mem_nil, or_false] at hv; rcases hv with rfl | rfl <;> rfl
    have hfin : Rw.flat (xs.take i ++ p :: xs.drop i) = (Rw.flat xs).take (i * 2) ++ Rw.cells2 p ++ flat2 xs i := by
      rw [Rw.flat_append, Rw.flat_cons, Rw.flat_take, Rw.flat_drop, ← List.append_assoc]; rfl
    by_cases hcap : (n : Int) + 1 > (c : Int)
    ·
      obtain ⟨i0, hi0, hz3⟩ := Option.map_eq_some_iff.1 info26
      simp only [Prod.mk.injEq] at hz3
      obtain ⟨kk, hkk⟩ : ∃ kk, kk = n + 1 - i := ⟨_, rfl⟩
      have hol : ((Rw.flat xs).take (i * 2)).length = i * 2 := by rw [List.length_take, Rw.flat_len, hn]; omega
      have hocell : ∀ j u, ((Rw.flat xs).take (i * 2))[j]? = some u → W.cell? ⟨g, 0 + j, none⟩ = some u := by
        intro j u hj
        rw [Nat.zero_add, blk_cell hg, ← Array.getElem?_toList]
        rw [List.getElem?_take] at hj
        split at hj
        · rw [← htk, List.getElem?_take] at hj
          split at hj
          · exact hj
          · cases hj
        · cases hj
      have hap := Lib.run_append_grow_zeros (P := Try.prog) W 22 3 22 26 i0 (.agg #[(.string ⟨#[]⟩), (.string ⟨#[]⟩)]) .i64 .i64 Try.underlying22 Try.underlying3 hi0 hz3.1 (some ⟨g, 0, none⟩) i c ((Rw.flat xs).take (i * 2)) (by
          have h := run_loadCells_list (P := Try.prog) W.drew ⟨g, 0, none⟩ ((Rw.flat xs).take (i * 2)) (fun j u hj => by rw [hadd]; exact hocell j u hj)
          rw [hol] at h
          rw [hz3.2.1]
          exact h) kk (by omega) (by rw [hz3.2.1]; decide) (by omega) (by omega) (by rw [hz3.2.2]; omega) (by rw [hz3.2.2]; exact growslice_fits_wide (by omega) (by omega))
      have hsum : i + kk = n + 1 := by omega
      rw [hsum] at hap
      obtain ⟨C2, hC2⟩ : ∃ C2, C2 = grownCap W (n + 1) c 26 := ⟨_, rfl⟩
      have hC2n : n + 1 ≤ C2 := by rw [hC2]; exact grownCap_ge _ _ _ _
      have hC2m : C2 ≤ maxLen := by rw [hC2]; exact grownCap_le_maxLen _ _ _ _ (by unfold maxLen; omega)
      rw [← hC2] at hap
      obtain ⟨N0, hN0⟩ : ∃ N0 : Array Value, N0 = ((Rw.flat xs).take (i * 2)).toArray ++ Builtin.zeroCells (Value.agg #[(.string ⟨#[]⟩), (.string ⟨#[]⟩)]).cells kk ++ Builtin.zeroCells (Value.agg #[(.string ⟨#[]⟩), (.string ⟨#[]⟩)]).cells (C2 - (n + 1)) := ⟨_, rfl⟩
      rw [← hN0] at hap
      have hN0s : N0.size = C2 * 2 := by rw [hN0, Array.size_append, Array.size_append, List.size_toArray, hol, Rw.zero_len, Rw.zero_len]; omega
      have hN0l : N0.toList.length = C2 * 2 := by rw [Array.length_toList, hN0s]
      have hN0t : N0.toList.take (i * 2) = (Rw.flat xs).take (i * 2) := by
        rw [hN0, Array.toList_append, Array.toList_append, List.toList_toArray, List.append_assoc, List.take_append_of_le_length (by rw [hol]; exact Nat.le_refl _), List.take_of_length_le (by rw [hol]; exact Nat.le_refl _)]
      have hb0 : (W.alloc (.cells N0 26)).drew.heap[W.heap.size]? = some (.cells N0 26 (0, 0)) := blk_drew (blk_new W _)
      have hl2 : (Rw.cells2 p).length = 2 := rfl
      obtain ⟨N1, hN1⟩ : ∃ N1 : Array Value, N1 = (N0.toList.take (i * 2) ++ Rw.cells2 p ++ N0.toList.drop (i * 2 + (Rw.cells2 p).length)).toArray := ⟨_, rfl⟩
      have hN1s : N1.size = C2 * 2 := by rw [hN1]; simp only [List.size_toArray, List.length_append, List.length_take, List.length_drop, hN0l, hl2]; omega
      have hN1l : N1.toList.length = C2 * 2 := by rw [Array.length_toList, hN1s]
      have hr1 := Rw.run_copy_cells (P := Try.prog) (W.alloc (.cells N0 26)).drew 22 22 3 26 W.heap.size (i * 2) (n + 1 - i) (C2 - i) ⟨vb, 0, none⟩ 1 1 N0 26 (Rw.cells2 p) 1 2 Try.underlying22 (by kernel_rfl) hb0 (by show 1 = min _ _; omega) rfl (fun j u hj => by
          rw [hadd, Nat.zero_add, blk_cell (blk_drew (blk_alloc hV _))]
          simpa [Rw.cells2] using hj) (by rw [hN0s, hl2]; omega) hpl1
      rw [← hN1] at hr1
      obtain ⟨N2, hN2⟩ : ∃ N2 : Array Value, N2 = (N1.toList.take ((i + 1) * 2) ++ flat2 xs i ++ N1.toList.drop ((i + 1) * 2 + (flat2 xs i).length)).toArray := ⟨_, rfl⟩
      have hN2s : N2.size = C2 * 2 := by rw [hN2]; simp only [List.size_toArray, List.length_append, List.length_take, List.length_drop, hN1l, hXl]; omega
      have hgne : g ≠ W.heap.size := by omega
      have hb1 : ((W.alloc (.cells N0 26)).drew.setRow W.heap.size N1).heap[W.heap.size]? = some (.cells N1 26 (0, 0)) := setRow_heap _ _ N0 _ 26 (0, 0) hb0
      have hg1 : ((W.alloc (.cells N0 26)).drew.setRow W.heap.size N1).heap[g]? = some (.cells cur 26 (0, 0)) := by
        rw [setRow_other _ _ _ _ hgne]; exact blk_drew (blk_alloc hg _)
      have hr2 := Rw.run_copy_cells (P := Try.prog) ((W.alloc (.cells N0 26)).drew.setRow W.heap.size N1).drew 22 22 3 26 W.heap.size ((i + 1) * 2) (n - i) (C2 - (i + 1)) ⟨g, i * 2, none⟩ (n - i) (c - i) N1 26 (flat2 xs i) (n - i) 2 Try.underlying22 (by kernel_rfl) (blk_drew hb1) (by show n - i = min _ _; omega) hXl (fun j u hj => by
          rw [hadd, blk_cell (blk_drew hg1), ← blk_cell hg]
          exact hcells j u hj) (by rw [hN1s, hXl]; omega) hfl1
      rw [← hN2] at hr2
      have e1 : N1.toList.take ((i + 1) * 2) = (Rw.flat xs).take (i * 2) ++ Rw.cells2 p := by
        have hl3 : ((Rw.flat xs).take (i * 2) ++ Rw.cells2 p).length = (i + 1) * 2 := by rw [List.length_append, hol, hl2]; omega
        rw [hN1, List.toList_toArray, hN0t, ← hl3, List.take_left]
      have hNew : N2.toList.take ((n + 1) * 2) = Rw.flat (xs.take i ++ p :: xs.drop i) := by
        have hln : ((Rw.flat xs).take (i * 2) ++ Rw.cells2 p ++ flat2 xs i).length = (n + 1) * 2 := by
          rw [List.length_append, List.length_append, hol, hXl, hl2]; omega
        rw [hN2, List.toList_toArray, e1, hfin, ← hln, List.take_left]
      have HFR := Aside0.mk (Rw.flat_R (w := ((W.alloc (.cells N0 26)).drew.setRow W.heap.size N1).drew.setRow W.heap.size N2) (base := base) (ok := fun _ => True) (v := .slice (some ⟨W.heap.size, 0, none⟩) (n + 1) C2) (xs := xs.take i ++ p :: xs.drop i) ⟨Rw.flat_len _, .inr ⟨W.heap.size, C2, N2, by rw [hflen], hbase, setRow_heap _ _ N1 _ 26 (0, 0) (blk_drew hb1), by rw [hflen]; exact hC2n, hC2m, hN2s, by rw [hflen]; exact hNew⟩⟩ (fun _ _ => trivial))
      have HBE := Aside0.mk (Rw.below_turn (below_drew1 (Rw.below_turn (below_drew1 ((Below.refl base W).alloc hbase (.cells N0 26))) hbase N1)) hbase N2)
      have hcb : decide ((c : Int) < (n : Int) + 1) = true := decide_eq_true (by omega)
      have hci2 : ¬ (C2 = i) := by omega
      have hci3 : ¬ (C2 = i + 1) := by omega
      have hic : i ≤ c := by omega
      have g3 : (0 : Int) ≤ (i : Int) + 1 := by omega
      have g4 : ((i : Int) + 1).toNat = i + 1 := by omega
      have g5 : (i : Int) + 1 ≤ (n : Int) + 1 := by omega
      have g6 : i ≤ n + 1 := by omega
      have g12 : (i : Int) ≤ (n : Int) + 1 := by omega
      have g8 := HW1.out
      have g9 := HW3.out
      have g13' : wrap64 ((n : Int) + 1 - (i : Int)) = (kk : Int) := by rw [hkk]; exact HW4.out
      have G13 := Aside0.mk g13'
      clear g13'
      have G11 := Aside0.mk hr2
      have HAP := Aside0.mk hap
      clear hap hr2 e1 hNew hN0 hN1 hN2 hN0s hN1s hN2s hN0l hN1l hN0t hb0 hb1 hg1 hgne hl2 hcap hfin hflen hXl hfl1 hpl1 hadd hcells hcl hcs htk hg hV hO hne hl hlt hp0 hi hn hin hnc hglt hvlt hgv hbg hC2 hC2n hC2m hsum hkk hol hocell hi0 hz3
      go_enter Try.func39, Try.ntmps39
      go_wp2_with ((with_reducible refine gate_builtin (b := .append) (xs := #[.tmp 34, .tmp 39]) rfl ?_); at_builtin; refine Rw.append_ev W rfl (.tmp 34) (.tmp 39) 22 3 rfl (.slice (some ⟨g, 0, none⟩) i c) (.int .i64 (kk : Int)) rfl (congrArg (Value.int .i64) G13.out) HAP.out ?_)
      refine start_ (n := 9) (S := fun w' => True) (ds := []) #[false, false, false, false, false, false, false, false, false] (by kernel_rfl) rfl rfl trivial (fun hHeld => ?_)
      refine pure_ (i := 0) (N := some 46) (v := ?_) (a' := ?_) #[true, false, false, false, false, false, false, false, false] rfl rfl (by kernel_rfl) (fun _ _ _ h => h) (Or.inl ⟨by rfl, ?_⟩) ?_ ?_
      rotate_left
      · intro w'
        go_simp
        with_reducible rfl
      rotate_left
      · simp only [Act.put, List.setIfInBounds_toArray, List.set_cons_zero, List.set_cons_succ, i64_w, i32_w]
        rfl
      refine pure_ (i := 1) (N := some 47) (v := ?_) (a' := ?_) #[true, true, false, false, false, false, false, false, false] rfl rfl (by kernel_rfl) (fun _ _ _ h => h) (Or.inl ⟨by rfl, ?_⟩) ?_ ?_
      rotate_left
      · intro w'
        go_simp
        with_reducible rfl
      rotate_left
      · simp only [Act.put, List.setIfInBounds_toArray, List.set_cons_zero, List.set_cons_succ, i64_w, i32_w]
        rfl
      refine pure_ (i := 2) (N := some 48) (v := ?_) (a' := ?_) #[true, true, true, false, false, false, false, false, false] rfl rfl (by kernel_rfl) (fun _ _ _ h => h) (Or.inl ⟨by rfl, ?_⟩) ?_ ?_
      rotate_left
      · intro w'
        go_simp
        with_reducible rfl
      rotate_left
      · simp only [Act.put, List.setIfInBounds_toArray, List.set_cons_zero, List.set_cons_succ, i64_w, i32_w]
        rfl
      refine pure_ (i := 3) (N := some 49) (v := ?_) (a' := ?_) #[true, true, true, true, false, false, false, false, false] rfl rfl (by kernel_rfl) (fun _ _ _ h => h) (Or.inl ⟨by rfl, ?_⟩) ?_ ?_
      rotate_left
      · intro w'
        go_simp
        with_reducible rfl
      rotate_left
      · simp only [Act.put, List.setIfInBounds_toArray, List.set_cons_zero, List.set_cons_succ, i64_w, i32_w]
        rfl
      refine pure_ (i := 4) (N := some 50) (v := ?_) (a' := ?_) #[true, true, true, true, true, false, false, false, false] rfl rfl (by kernel_rfl) (fun _ _ _ h => h) (Or.inl ⟨by rfl, ?_⟩) ?_ ?_
      rotate_left
      · intro w'
        go_simp
        with_reducible rfl
      rotate_left
      · simp only [Act.put, List.setIfInBounds_toArray, List.set_cons_zero, List.set_cons_succ, i64_w, i32_w]
        rfl
      refine pure_ (i := 5) (N := some 51) (v := ?_) (a' := ?_) #[true, true, true, true, true, true, false, false, false] rfl rfl (by kernel_rfl) (fun _ _ _ h => h) (Or.inl ⟨by rfl, ?_⟩) ?_ ?_
      rotate_left
      · intro w'
        go_simp
        with_reducible rfl
      rotate_left
      · simp only [Act.put, List.setIfInBounds_toArray, List.set_cons_zero, List.set_cons_succ, i64_w, i32_w]
        rfl
      refine pure_ (i := 6) (N := some 52) (v := ?_) (a' := ?_) #[true, true, true, true, true, true, true, false, false] rfl rfl (by kernel_rfl) (fun _ _ _ h => h) (Or.inl ⟨by rfl, ?_⟩) ?_ ?_
      rotate_left
      · intro w'
        go_simp
        with_reducible rfl
      rotate_left
      · simp only [Act.put, List.setIfInBounds_toArray, List.set_cons_zero, List.set_cons_succ, i64_w, i32_w]
        rfl
      refine pure_ (i := 7) (N := some 53) (v := ?_) (a' := ?_) #[true, true, true, true, true, true, true, true, false] rfl rfl (by kernel_rfl) (fun _ _ _ h => h) (Or.inl ⟨by rfl, ?_⟩) ?_ ?_
      rotate_left
      · intro w'
        go_simp
        with_reducible rfl
      rotate_left
      · simp only [Act.put, List.setIfInBounds_toArray, List.set_cons_zero, List.set_cons_succ, i64_w, i32_w]
        rfl
      refine one_ (i := 8) (N := some 54) #[true, true, true, true, true, true, true, true, true] rfl rfl (by kernel_rfl) (by decide) (fun K hK => ?_)
      refine Rw.copy_step ((W.alloc (.cells N0 26)).drew.setRow W.heap.size N1).drew (by rfl) (.tmp 50) (.tmp 53) 22 22 rfl (.slice (some ⟨W.heap.size, (i + 1) * 2, none⟩) (n - i) (C2 - (i + 1))) (.slice (some ⟨g, i * 2, none⟩) (n - i) (c - i)) rfl rfl (v' := goInt ((n - i : Nat) : Int)) (w' := ((W.alloc (.cells N0 26)).drew.setRow W.heap.size N1).drew.setRow W.heap.size N2) G11.out ?_
      refine hK.out _ _ trivial (fun hHeld => ?_)
      clear hK K
      refine norm_ (a' := ?_) ?_ ?_
      rotate_left
      · show Act.put _ (some 54) _ = _
        simp only [Act.put, List.setIfInBounds_toArray, List.set_cons_zero, List.set_cons_succ, i64_w, i32_w]
        rfl
      refine done_ (by kernel_rfl) ?_
      go_wp2
      go_ret
      exact ⟨_, rfl, HFR.out, HBE.out⟩
    · have hcap' : n + 1 ≤ c := by omega
      obtain ⟨N1, hN1⟩ : ∃ N1 : Array Value, N1 = (cur.toList.take ((i + 1) * 2) ++ flat2 xs i ++ cur.toList.drop ((i + 1) * 2 + (flat2 xs i).length)).toArray := ⟨_, rfl⟩
      have hN1s : N1.size = cur.size := by rw [hN1]; simp only [List.size_toArray, List.length_append, List.length_take, List.length_drop, hXl, hcl, hcs]; omega
      have hN1l : N1.toList.length = c * 2 := by rw [Array.length_toList, hN1s, hcs]
      have hr1 : ∀ W2 : World, W2.heap = W.heap → ∀ c1 c2, (Builtin.copy_ #[22, 22] 3 #[.slice (some ⟨g, (i + 1) * 2, none⟩) (n - i) c1, .slice (some ⟨g, i * 2, none⟩) (n + 1 - i) c2]).run Try.prog W2 = .ok (goInt ((n - i : Nat) : Int)) (W2.setRow g N1) := by
        intro W2 hW2 c1 c2
        have h := Rw.run_copy_cells (P := Try.prog) W2 22 22 3 26 g ((i + 1) * 2) (n - i) c1 ⟨g, i * 2, none⟩ (n + 1 - i) c2 cur 26 (flat2 xs i) (n - i) 2 Try.underlying22 (by kernel_rfl) (by rw [hW2]; exact hg) (by show n - i = min _ _; omega) hXl (fun j u hj => by
          rw [hadd]
          have := hcells j u hj
          unfold World.cell? at this ⊢
          rw [hW2]; exact this) (by rw [hXl, hcs]; omega) hfl1
        rw [← hN1] at h
        exact h
      obtain ⟨N2, hN2⟩ : ∃ N2 : Array Value, N2 = (N1.toList.take (i * 2) ++ Rw.cells2 p ++ N1.toList.drop (i * 2 + (Rw.cells2 p).length)).toArray := ⟨_, rfl⟩
      have hN2s : N2.size = cur.size := by rw [hN2]; simp only [List.size_toArray, List.length_append, List.length_take, List.length_drop, hN1l, hcs]; simp only [Rw.cells2, List.length_cons, List.length_nil]; omega
      have hr2 : ∀ W2 : World, W2.heap = W.heap → ∀ c1, (Builtin.copy_ #[22, 22] 3 #[.slice (some ⟨g, i * 2, none⟩) (n + 1 - i) c1, .slice (some ⟨vb, 0, none⟩) 1 1]).run Try.prog (W2.setRow g N1) = .ok (goInt 1) ((W2.setRow g N1).setRow g N2) := by
        intro W2 hW2 c1
        have h := Rw.run_copy_cells (P := Try.prog) (W2.setRow g N1) 22 22 3 26 g (i * 2) (n + 1 - i) c1 ⟨vb, 0, none⟩ 1 1 N1 26 (Rw.cells2 p) 1 2 Try.underlying22 (by kernel_rfl) (setRow_heap _ _ cur _ 26 (0, 0) (by rw [hW2]; exact hg)) (by show 1 = min _ _; omega) rfl (fun j u hj => by
          rw [hadd]
          have hv2 : (W2.setRow g N1).heap[vb]? = some (.cells #[.string p.f0, .string p.f1] 26 (0, 0)) := by rw [setRow_other _ _ _ _ (fun e => hgv e.symm), hW2]; exact hV
          rw [Nat.zero_add, blk_cell hv2]
          simpa [Rw.cells2] using hj) (by rw [hN1s, hcs]; simp only [Rw.cells2, List.length_cons, List.length_nil]; omega) hpl1
        rw [← hN2] at h
        exact h
      have e1 : N1.toList.take (i * 2) = (Rw.flat xs).take (i * 2) := by
        rw [hN1, List.toList_toArray, List.append_assoc, List.take_append_of_le_length (by rw [List.length_take, hcl]; omega), List.take_take, Nat.min_eq_left (by omega), ← htk, List.take_take, Nat.min_eq_left (by omega)]
      have e2 : N1.toList.drop (i * 2 + 2) = flat2 xs i ++ cur.toList.drop ((i + 1) * 2 + (flat2 xs i).length) := by
        have hl2 : (cur.toList.take ((i + 1) * 2)).length = i * 2 + 2 := by rw [List.length_take, hcl]; omega
        rw [hN1, List.toList_toArray, List.append_assoc, ← hl2, List.drop_left]
      have hNew : N2.toList.take ((n + 1) * 2) = Rw.flat (xs.take i ++ p :: xs.drop i) := by
        have hln : ((Rw.flat xs).take (i * 2) ++ Rw.cells2 p ++ flat2 xs i).length = (n + 1) * 2 := by
          rw [List.length_append, List.length_append, List.length_take, Rw.flat_len, hXl, hn, show (Rw.cells2 p).length = 2 from rfl]; omega
        rw [hN2, List.toList_toArray, e1, show (Rw.cells2 p).length = 2 from rfl, e2, ← List.append_assoc, hfin, ← hln, List.take_left]
      have hov : ∀ lb cb, (callFunc 61 #[.slice (some ⟨vb, 0, none⟩) 1 1, .slice (some ⟨g, (i + 1) * 2, none⟩) lb cb]).run Try.prog W = .ok (.value (.bool false)) W := fun lb cb => by
        rw [run_callFunc_extern Try.func61 (by kernel_rfl) (by kernel_rfl) (by kernel_rfl) (e := Extern.SlicesOverlaps.overlaps #[22, 22] #[4]) (by kernel_rfl),
          Lib.run_overlaps_apart W 22 4 26 Try.underlying22 2 Try.sizeOf26 ⟨vb, 0, none⟩ ⟨g, (i + 1) * 2, none⟩ 1 1 lb cb (fun e => hgv e.symm) 26 26 2 cur.size (by simp [World.shape?, hV]) (by simp [World.shape?, hg]) (by rw [hcs]; omega) (blk_frozen hV 0) (blk_frozen hV 2)]
        rfl
      have HFR := Aside0.mk (Rw.flat_R (w := (W.drew.setRow g N1).setRow g N2) (base := base) (ok := fun _ => True) (v := .slice (some ⟨g, 0, none⟩) (n + 1) c) (xs := xs.take i ++ p :: xs.drop i) ⟨Rw.flat_len _, .inr ⟨g, c, N2, by rw [hflen], hbg, setRow_heap _ _ N1 _ 26 (0, 0) (setRow_heap _ _ cur _ 26 (0, 0) hg), by rw [hflen]; exact hcap', HCM.out, by rw [hN2s, hcs], by rw [hflen]; exact hNew⟩⟩ (fun _ _ => trivial))
      have HBE := Aside0.mk (Rw.below_turn (Rw.below_turn (below_drew1 (Below.refl base W)) hbg N1) hbg N2)
      have hcb : decide ((c : Int) < (n : Int) + 1) = false := decide_eq_false (by omega)
      have hci1 : ¬ (c = i + 1) := by omega
      have g1 : (0 : Int) ≤ (n : Int) + 1 := by omega
      have g2 : ((n : Int) + 1).toNat = n + 1 := by omega
      have g3 : (0 : Int) ≤ (i : Int) + 1 := by omega
      have g4 : ((i : Int) + 1).toNat = i + 1 := by omega
      have g5 : (i : Int) + 1 ≤ (n : Int) + 1 := by omega
      have g6 : i ≤ n + 1 := by omega
      have g12 : (i : Int) ≤ (n : Int) + 1 := by omega
      have g7 : (n : Int) + 1 ≤ (c : Int) := by omega
      have g8 := HW1.out
      have g9 := HW3.out
      have g10 := hr1 W.drew rfl
      have g11 := hr2 W.drew rfl
      clear e1 e2 hNew hN1 hN2 hN1s hN2s hN1l hr1 hr2 hcap hfin hflen hXl hfl1 hpl1 hadd hcells hcl hcs htk hg hV hO hne hl hlt hp0 hi hn hin hnc hglt hvlt hgv hbg
      go_enter Try.func39, Try.ntmps39
      go_wp2
      have G10 := Aside0.mk g10
      have G11 := Aside0.mk g11
      clear g10 g11
      refine start_ (n := 9) (S := fun w' => True) (ds := []) #[false, false, false, false, false, false, false, false, false] (by kernel_rfl) rfl rfl trivial (fun hHeld => ?_)
      refine pure_ (i := 0) (N := some 69) (v := ?_) (a' := ?_) #[true, false, false, false, false, false, false, false, false] rfl rfl (by kernel_rfl) (fun _ _ _ h => h) (Or.inl ⟨by rfl, ?_⟩) ?_ ?_
      rotate_left
      · intro w'
        go_simp
        with_reducible rfl
      rotate_left
      · simp only [Act.put, List.setIfInBounds_toArray, List.set_cons_zero, List.set_cons_succ, i64_w, i32_w]
        rfl
      refine pure_ (i := 1) (N := some 70) (v := ?_) (a' := ?_) #[true, true, false, false, false, false, false, false, false] rfl rfl (by kernel_rfl) (fun _ _ _ h => h) (Or.inl ⟨by rfl, ?_⟩) ?_ ?_
      rotate_left
      · intro w'
        go_simp
        with_reducible rfl
      rotate_left
      · simp only [Act.put, List.setIfInBounds_toArray, List.set_cons_zero, List.set_cons_succ, i64_w, i32_w]
        rfl
      refine pure_ (i := 2) (N := some 71) (v := ?_) (a' := ?_) #[true, true, true, false, false, false, false, false, false] rfl rfl (by kernel_rfl) (fun _ _ _ h => h) (Or.inl ⟨by rfl, ?_⟩) ?_ ?_
      rotate_left
      · intro w'
        go_simp
        with_reducible rfl
      rotate_left
      · simp only [Act.put, List.setIfInBounds_toArray, List.set_cons_zero, List.set_cons_succ, i64_w, i32_w]
        rfl
      refine pure_ (i := 3) (N := some 72) (v := ?_) (a' := ?_) #[true, true, true, true, false, false, false, false, false] rfl rfl (by kernel_rfl) (fun _ _ _ h => h) (Or.inl ⟨by rfl, ?_⟩) ?_ ?_
      rotate_left
      · intro w'
        go_simp
        with_reducible rfl
      rotate_left
      · simp only [Act.put, List.setIfInBounds_toArray, List.set_cons_zero, List.set_cons_succ, i64_w, i32_w]
        rfl
      refine pure_ (i := 4) (N := some 73) (v := ?_) (a' := ?_) #[true, true, true, true, true, false, false, false, false] rfl rfl (by kernel_rfl) (fun _ _ _ h => h) (Or.inl ⟨by rfl, ?_⟩) ?_ ?_
      rotate_left
      · intro w'
        go_simp
        with_reducible rfl
      rotate_left
      · simp only [Act.put, List.setIfInBounds_toArray, List.set_cons_zero, List.set_cons_succ, i64_w, i32_w]
        rfl
      refine pure_ (i := 5) (N := some 74) (v := ?_) (a' := ?_) #[true, true, true, true, true, true, false, false, false] rfl rfl (by kernel_rfl) (fun _ _ _ h => h) (Or.inl ⟨by rfl, ?_⟩) ?_ ?_
      rotate_left
      · intro w'
        go_simp
        with_reducible rfl
      rotate_left
      · simp only [Act.put, List.setIfInBounds_toArray, List.set_cons_zero, List.set_cons_succ, i64_w, i32_w]
        rfl
      refine pure_ (i := 6) (N := some 75) (v := ?_) (a' := ?_) #[true, true, true, true, true, true, true, false, false] rfl rfl (by kernel_rfl) (fun _ _ _ h => h) (Or.inl ⟨by rfl, ?_⟩) ?_ ?_
      rotate_left
      · intro w'
        go_simp
        with_reducible rfl
      rotate_left
      · simp only [Act.put, List.setIfInBounds_toArray, List.set_cons_zero, List.set_cons_succ, i64_w, i32_w]
        rfl
      refine pure_ (i := 7) (N := some 76) (v := ?_) (a' := ?_) #[true, true, true, true, true, true, true, true, false] rfl rfl (by kernel_rfl) (fun _ _ _ h => h) (Or.inl ⟨by rfl, ?_⟩) ?_ ?_
      rotate_left
      · intro w'
        go_simp
        with_reducible rfl
      rotate_left
      · simp only [Act.put, List.setIfInBounds_toArray, List.set_cons_zero, List.set_cons_succ, i64_w, i32_w]
        rfl
      refine one_ (i := 8) (N := some 77) #[true, true, true, true, true, true, true, true, true] rfl rfl (by kernel_rfl) (by decide) (fun K hK => ?_)
      refine Rw.copy_step W.drew (by rfl) (.tmp 73) (.tmp 76) 22 22 rfl (.slice (some ⟨g, (i + 1) * 2, none⟩) (n - i) (c - (i + 1))) (.slice (some ⟨g, i * 2, none⟩) (n + 1 - i) (c - i)) rfl rfl (v' := goInt ((n - i : Nat) : Int)) (w' := W.drew.setRow g N1) (G10.out _ _) ?_
      refine hK.out _ _ trivial (fun hHeld => ?_)
      clear hK K
      refine norm_ (a' := ?_) ?_ ?_
      rotate_left
      · show Act.put _ (some 77) _ = _
        simp only [Act.put, List.setIfInBounds_toArray, List.set_cons_zero, List.set_cons_succ, i64_w, i32_w]
        rfl
      refine done_ (by kernel_rfl) ?_
      have g11 := G11.out
      go_wp2
      go_ret
      exact ⟨_, rfl, HFR.out, HBE.out⟩
end Go.Proofs.Ytffaggckhneakaa.Pr
end
section
namespace Go.Proofs.Ytffaggckhneakaa.Pr
open Go.RowKit Go.Proofs.YtffaggckhneakaaW.PrintWords Go.Proofs.YtffaggckhneakaaW.PrintLast Go.Proofs.YtffaggckhneakaaW.PrintMore
attribute [local go_sem] max2_int min2_int max_two min_two max_three min_three max_four min_four
attribute [local go_sem] Go.Proofs.Ytffaggckhneakaa.Hl.str_geq Go.Proofs.Ytffaggckhneakaa.Hl.str_gtr Go.Proofs.Ytffaggckhneakaa.Hl.str_leq
set_option linter.unusedVariables false
set_option linter.unusedSimpArgs false
theorem own_lt {w : World} {base : Nat} {ok : Nat → Prop} {v : Value} {xs : List S26} (h : Kd.R k26 26 w base ok v xs) : ∀ g, v.ownBlock = some g → g < w.heap.size := by
  intro g hg
  rcases (Rw.R_flat h).2 with ⟨rfl, _⟩ | ⟨g', c', cur', rfl, _, hh, _⟩
  · cases hg
  · injection hg with hg
    subst hg
    exact blk_lt hh
def attr_Set.fin (k : Nat) (m : List S26) : Option (List S26 × Int) := (attr_check.f k m).bind fun t => (if t.1 = true then some (m, 0) else some ([], 15))
def attr_Set.f (k : Nat) (l0 : List S26) (a1_0 a1_1 : ByteArray) : Option (List S26 × Int) := (attr_check.f k l0).bind fun t => (if t.2 = 0 then ((attr_may.f a1_0 a1_1).bind fun q => (if q = true then ((attr_find.f k l0 a1_0).bind fun u => (if u.2 = true then (if 0 ≤ u.1 ∧ u.1 < (l0.length : Int) then attr_Set.fin k (l0.set u.1.toNat ⟨a1_0, a1_1⟩) else none) else (if 0 ≤ u.1 ∧ u.1 ≤ (l0.length : Int) ∧ l0.length < 4398046511103 then attr_Set.fin k (l0.take u.1.toNat ++ (⟨a1_0, a1_1⟩ : S26) :: l0.drop u.1.toNat) else none))) else some ([], 1))) else some ([], 1))
set_option maxHeartbeats 8000000 in
set_option maxRecDepth 100000 in
theorem attr_Set.calls (k : Nat) (A0 : Option Addr) (c0 : Nat) (l0 : List (S26)) (a1_0 : ByteArray) (a1_1 : ByteArray) (r1 : List (S26)) (r2 : Int) (w : World) (hr0 : Kd.C k26 w A0 l0.length l0) (hc0 : l0.length ≤ c0) (h : attr_Set.f k l0 a1_0 a1_1 = some (r1, r2)) :
    Calls Try.prog 14 #[.slice A0 l0.length c0, .agg #[.string a1_0, .string a1_1]] w fun e w' => ∃ v0_ : Value, e = .returned (.tuple #[v0_, .int .i64 r2]) ∧ Kd.R k26 26 w' w.heap.size (fun _ => True) v0_ r1 ∧ Below w.heap.size w w' := by
  unfold attr_Set.f at h
  have hu26 := Try.underlying26
  have hi26 := info26
  obtain ⟨⟨t1, t2⟩, ht, h⟩ := Option.bind_eq_some_iff.1 h
  simp only [] at h
  have HR0 := Aside0.mk hr0
  have HC0 := Aside0.mk hc0
  have HT := Aside0.mk ht
  have HBA := Aside0.mk ((Below.refl w.heap.size w).alloc (Nat.le_refl _) (.cells #[.string a1_0, .string a1_1] 26))
  clear hr0 hc0 ht
  by_cases h2 : t2 = 0
  · subst h2
    rw [if_pos rfl] at h
    obtain ⟨q, hq, h⟩ := Option.bind_eq_some_iff.1 h
    have HQ := Aside0.mk hq
    clear hq
    by_cases hqt : q = true
    · subst hqt
      rw [if_pos rfl] at h
      obtain ⟨⟨u1, u2⟩, hu, h⟩ := Option.bind_eq_some_iff.1 h
      simp only [] at h
      have hlen : l0.length < 4398046511104 := by
        unfold attr_find.f at hu
        by_cases hl : l0.length < 4398046511104
        · exact hl
        · rw [if_neg hl] at hu; cases hu
      have HU := Aside0.mk hu
      have HL := Aside0.mk hlen
      clear hu
      by_cases hu2 : u2 = true
      · subst hu2
        rw [if_pos rfl] at h
        by_cases hb : 0 ≤ u1 ∧ u1 < (l0.length : Int)
        · rw [if_pos hb] at h
          obtain ⟨i, rfl⟩ : ∃ i : Nat, u1 = (i : Int) := ⟨u1.toNat, by omega⟩
          rw [Int.toNat_natCast] at h
          have hi0 : (0 : Int) ≤ (i : Int) := hb.1
          have hi1 : (i : Int) < (l0.length : Int) := hb.2
          have HI := Aside0.mk (show i < l0.length by omega)
          clear hb hlen
          obtain ⟨M, hM⟩ : ∃ M : List S26, M = l0.set i ⟨a1_0, a1_1⟩ := ⟨_, rfl⟩
          have hML : M.length = l0.length := by rw [hM, List.length_set]
          have HM := Aside0.mk hM
          have HML := Aside0.mk hML
          rw [← hM] at h
          clear hM hML
          unfold attr_Set.fin at h
          obtain ⟨⟨s1, s2⟩, hs, h⟩ := Option.bind_eq_some_iff.1 h
          simp only [] at h
          have HS := Aside0.mk hs
          clear hs
          by_cases hs1 : s1 = true
          · subst hs1
            rw [if_pos rfl] at h
            obtain ⟨rfl, rfl⟩ := Prod.mk.inj (Option.some.inj h)
            clear h
            go_enter Try.func14, Try.ntmps14
            go_wp2_with (first | (go_at_call 35; have hck := attr_check.calls k (some ⟨g3, 0, none⟩) c3 M _ s2 w5 HR6.out HC6.out HS.out; rw [HML.out] at hck; refine hck.mono ?_; rintro e w7 ⟨rfl, hb7⟩; have HO7 := Aside0.mk (Kd.R_below HO5.out hb7); have HB7 := Aside0.mk (HB5.out.trans (hb7.mono HB5.out.size)); clear hb7 hck) | ((with_reducible refine gate_store (p := 38) rfl ?_); refine Kd.R_store k26 (w0 := w) w.heap.size rfl rfl 26 (.tmp 38) (.tmp 37) rfl 26 (i : Int) 0 l0 (⟨a1_0, a1_1⟩ : S26) (.agg #[.string a1_0, .string a1_1]) [.string a1_0, .string a1_1] _ (fun _ => True) (fun _ => False) rfl (by first | rfl | (rw [show k26.sz = 2 from rfl]; omega)) rfl rfl (by kernel_rfl) (by simp [Value.oneCell']) HO4.out hi0 hi1 rfl HCC.out (show 2 ≤ 2 from by decide) (k26_mkM _ _ _ (⟨a1_0, a1_1⟩ : S26)) (fun _ h => h.elim) HB4.out ?_; intro w5 ho5 hb5 hg5; rw [Int.toNat_natCast, ← HM.out] at ho5; obtain ⟨A6, c6, e6, hc6, hr6⟩ := Kd.R_reads ho5; rw [HML.out] at e6; injection e6 with e6a e6b e6c; subst e6a; subst e6c; have HO5 := Aside0.mk ho5; have HB5 := Aside0.mk hb5; have HR6 := Aside0.mk hr6; have HC6 := Aside0.mk hc6; clear ho5 hb5 hg5 hr6 hc6 e6b) | (go_at_call 38; refine (attr_find.calls k A0 c0 l0 a1_0 (i : Int) true _ (Kd.C_below HR0.out HB3.out) HC0.out HU.out).mono ?_; rintro e w4 ⟨rfl, hb4⟩; have HBK4 := Aside0.mk (blk_below HBK3.out hb4); have hc40 := (blk_cell HBK4.out 0).trans rfl; have hc41 := (blk_cell HBK4.out 1).trans rfl; have HO4 := Aside0.mk (Kd.R_below HO3.out hb4); have HB4 := Aside0.mk (HB3.out.trans (hb4.mono HB3.out.size)); clear hb4; obtain ⟨ce, hcl, hM, hcc, hfr⟩ := Kd.R_elem HO4.out z26 (i : Int) hi0 hi1; obtain rfl := k26_openM hM; have HCC := Aside0.mk hcc; clear hcl hM hcc hfr) | (go_at_call 37; refine (api_Pair_37.calls A0 c0 l0 l0 _ (Kd.C_below HR0.out HB2.out) HC0.out (by unfold api_Pair_37.f; rw [if_pos HL.out])).mono ?_; rintro e w3 ⟨v3, rfl, ho3, hb3⟩; obtain ⟨g3, c3, -, rfl, -⟩ := Rw.own_open (Rw.R_flat ho3) (by have := HI.out; omega); have HBK3 := Aside0.mk (blk_below HBK2.out hb3); have hc30 := (blk_cell HBK3.out 0).trans rfl; have hc31 := (blk_cell HBK3.out 1).trans rfl; have HO3 := Aside0.mk (Kd.R_lower ho3 HB2.out.size); have HB3 := Aside0.mk (HB2.out.trans (hb3.mono HB2.out.size)); clear ho3 hb3) | (go_at_call 36; refine (attr_may.calls a1_0 a1_1 true _ HQ.out).mono ?_; rintro e w2 ⟨rfl, hb2⟩; have HBK2 := Aside0.mk (blk_below HBK1.out hb2); have HB2 := Aside0.mk (HB1.out.trans (hb2.mono HB1.out.size)); clear hb2) | (go_at_call 35; refine (attr_check.calls k A0 c0 l0 t1 0 _ (Kd.C_alloc HR0.out _) HC0.out HT.out).mono ?_; rintro e w1 ⟨rfl, hb1⟩; have HBK1 := Aside0.mk (blk_below (blk_new w _) hb1); have hc10 := (blk_cell HBK1.out 0).trans rfl; have hc11 := (blk_cell HBK1.out 1).trans rfl; have HB1 := Aside0.mk (HBA.out.trans (hb1.mono HBA.out.size)); clear hb1))
            go_ret2
            exact ⟨_, rfl, HO7.out, HB7.out⟩
          · obtain rfl : s1 = false := by simpa using hs1
            rw [if_neg (by decide)] at h
            obtain ⟨rfl, rfl⟩ := Prod.mk.inj (Option.some.inj h)
            clear h hs1
            go_enter Try.func14, Try.ntmps14
            go_wp2_with (first | (go_at_call 35; have hck := attr_check.calls k (some ⟨g3, 0, none⟩) c3 M _ s2 w5 HR6.out HC6.out HS.out; rw [HML.out] at hck; refine hck.mono ?_; rintro e w7 ⟨rfl, hb7⟩; have HO7 := Aside0.mk (Kd.R_below HO5.out hb7); have HB7 := Aside0.mk (HB5.out.trans (hb7.mono HB5.out.size)); clear hb7 hck) | ((with_reducible refine gate_store (p := 38) rfl ?_); refine Kd.R_store k26 (w0 := w) w.heap.size rfl rfl 26 (.tmp 38) (.tmp 37) rfl 26 (i : Int) 0 l0 (⟨a1_0, a1_1⟩ : S26) (.agg #[.string a1_0, .string a1_1]) [.string a1_0, .string a1_1] _ (fun _ => True) (fun _ => False) rfl (by first | rfl | (rw [show k26.sz = 2 from rfl]; omega)) rfl rfl (by kernel_rfl) (by simp [Value.oneCell']) HO4.out hi0 hi1 rfl HCC.out (show 2 ≤ 2 from by decide) (k26_mkM _ _ _ (⟨a1_0, a1_1⟩ : S26)) (fun _ h => h.elim) HB4.out ?_; intro w5 ho5 hb5 hg5; rw [Int.toNat_natCast, ← HM.out] at ho5; obtain ⟨A6, c6, e6, hc6, hr6⟩ := Kd.R_reads ho5; rw [HML.out] at e6; injection e6 with e6a e6b e6c; subst e6a; subst e6c; have HO5 := Aside0.mk ho5; have HB5 := Aside0.mk hb5; have HR6 := Aside0.mk hr6; have HC6 := Aside0.mk hc6; clear ho5 hb5 hg5 hr6 hc6 e6b) | (go_at_call 38; refine (attr_find.calls k A0 c0 l0 a1_0 (i : Int) true _ (Kd.C_below HR0.out HB3.out) HC0.out HU.out).mono ?_; rintro e w4 ⟨rfl, hb4⟩; have HBK4 := Aside0.mk (blk_below HBK3.out hb4); have hc40 := (blk_cell HBK4.out 0).trans rfl; have hc41 := (blk_cell HBK4.out 1).trans rfl; have HO4 := Aside0.mk (Kd.R_below HO3.out hb4); have HB4 := Aside0.mk (HB3.out.trans (hb4.mono HB3.out.size)); clear hb4; obtain ⟨ce, hcl, hM, hcc, hfr⟩ := Kd.R_elem HO4.out z26 (i : Int) hi0 hi1; obtain rfl := k26_openM hM; have HCC := Aside0.mk hcc; clear hcl hM hcc hfr) | (go_at_call 37; refine (api_Pair_37.calls A0 c0 l0 l0 _ (Kd.C_below HR0.out HB2.out) HC0.out (by unfold api_Pair_37.f; rw [if_pos HL.out])).mono ?_; rintro e w3 ⟨v3, rfl, ho3, hb3⟩; obtain ⟨g3, c3, -, rfl, -⟩ := Rw.own_open (Rw.R_flat ho3) (by have := HI.out; omega); have HBK3 := Aside0.mk (blk_below HBK2.out hb3); have hc30 := (blk_cell HBK3.out 0).trans rfl; have hc31 := (blk_cell HBK3.out 1).trans rfl; have HO3 := Aside0.mk (Kd.R_lower ho3 HB2.out.size); have HB3 := Aside0.mk (HB2.out.trans (hb3.mono HB2.out.size)); clear ho3 hb3) | (go_at_call 36; refine (attr_may.calls a1_0 a1_1 true _ HQ.out).mono ?_; rintro e w2 ⟨rfl, hb2⟩; have HBK2 := Aside0.mk (blk_below HBK1.out hb2); have HB2 := Aside0.mk (HB1.out.trans (hb2.mono HB1.out.size)); clear hb2) | (go_at_call 35; refine (attr_check.calls k A0 c0 l0 t1 0 _ (Kd.C_alloc HR0.out _) HC0.out HT.out).mono ?_; rintro e w1 ⟨rfl, hb1⟩; have HBK1 := Aside0.mk (blk_below (blk_new w _) hb1); have hc10 := (blk_cell HBK1.out 0).trans rfl; have hc11 := (blk_cell HBK1.out 1).trans rfl; have HB1 := Aside0.mk (HBA.out.trans (hb1.mono HBA.out.size)); clear hb1))
            go_ret2
            exact ⟨_, rfl, Kd.R_nil _ _ _ _ _, HB7.out⟩
        · rw [if_neg hb] at h
          cases h
      · obtain rfl : u2 = false := by simpa using hu2
        rw [if_neg (by decide)] at h
        by_cases hb : 0 ≤ u1 ∧ u1 ≤ (l0.length : Int) ∧ l0.length < 4398046511103
        · rw [if_pos hb] at h
          obtain ⟨i, rfl⟩ : ∃ i : Nat, u1 = (i : Int) := ⟨u1.toNat, by omega⟩
          rw [Int.toNat_natCast] at h
          have HI := Aside0.mk (show i ≤ l0.length by omega)
          have HL2 := Aside0.mk hb.2.2
          clear hb hlen hu2
          obtain ⟨M, hM⟩ : ∃ M : List S26, M = l0.take i ++ ⟨a1_0, a1_1⟩ :: l0.drop i := ⟨_, rfl⟩
          have HM := Aside0.mk hM
          rw [← hM] at h
          clear hM
          unfold attr_Set.fin at h
          obtain ⟨⟨s1, s2⟩, hs, h⟩ := Option.bind_eq_some_iff.1 h
          simp only [] at h
          have HS := Aside0.mk hs
          clear hs
          by_cases hs1 : s1 = true
          · subst hs1
            rw [if_pos rfl] at h
            obtain ⟨rfl, rfl⟩ := Prod.mk.inj (Option.some.inj h)
            clear h
            go_enter Try.func14, Try.ntmps14
            go_wp2_with (first | (go_at_call 35; refine (attr_check.calls k A6 c6 M _ s2 w5 HR6.out HC6.out HS.out).mono ?_; rintro e w7 ⟨rfl, hb7⟩; have HO7 := Aside0.mk (Kd.R_below HO5.out hb7); have HB7 := Aside0.mk (HB5.out.trans (hb7.mono HB5.out.size)); clear hb7) | (go_at_call 39; refine (ins_calls (w4.alloc (.cells #[.string a1_0, .string a1_1] 26)) w.heap.size v3 l0 (⟨a1_0, a1_1⟩ : S26) w4.heap.size i l0.length rfl (Kd.R_alloc HO4.out _) (blk_new w4 _) (fun g hg => by have := own_lt HO4.out g hg; omega) (HB4.out.alloc HB4.out.size _).size HI.out HL2.out).mono ?_; rintro e w5 ⟨v5, rfl, ho5, hb5⟩; rw [← HM.out] at ho5; obtain ⟨A6, c6, rfl, hc6, hr6⟩ := Kd.R_reads ho5; have HO5 := Aside0.mk ho5; have HB5 := Aside0.mk ((HB4.out.alloc HB4.out.size (.cells #[.string a1_0, .string a1_1] 26)).trans hb5); have HR6 := Aside0.mk hr6; have HC6 := Aside0.mk hc6; clear ho5 hb5 hr6 hc6) | (go_at_call 38; refine (attr_find.calls k A0 c0 l0 a1_0 (i : Int) false _ (Kd.C_below HR0.out HB3.out) HC0.out HU.out).mono ?_; rintro e w4 ⟨rfl, hb4⟩; have HBK4 := Aside0.mk (blk_below HBK3.out hb4); have hc40 := (blk_cell HBK4.out 0).trans rfl; have hc41 := (blk_cell HBK4.out 1).trans rfl; have HO4 := Aside0.mk (Kd.R_below HO3.out hb4); have HB4 := Aside0.mk (HB3.out.trans (hb4.mono HB3.out.size)); clear hb4) | (go_at_call 37; refine (api_Pair_37.calls A0 c0 l0 l0 _ (Kd.C_below HR0.out HB2.out) HC0.out (by unfold api_Pair_37.f; rw [if_pos HL.out])).mono ?_; rintro e w3 ⟨v3, rfl, ho3, hb3⟩; have HBK3 := Aside0.mk (blk_below HBK2.out hb3); have hc30 := (blk_cell HBK3.out 0).trans rfl; have hc31 := (blk_cell HBK3.out 1).trans rfl; have HO3 := Aside0.mk (Kd.R_lower ho3 HB2.out.size); have HB3 := Aside0.mk (HB2.out.trans (hb3.mono HB2.out.size)); clear ho3 hb3) | (go_at_call 36; refine (attr_may.calls a1_0 a1_1 true _ HQ.out).mono ?_; rintro e w2 ⟨rfl, hb2⟩; have HBK2 := Aside0.mk (blk_below HBK1.out hb2); have HB2 := Aside0.mk (HB1.out.trans (hb2.mono HB1.out.size)); clear hb2) | (go_at_call 35; refine (attr_check.calls k A0 c0 l0 t1 0 _ (Kd.C_alloc HR0.out _) HC0.out HT.out).mono ?_; rintro e w1 ⟨rfl, hb1⟩; have HBK1 := Aside0.mk (blk_below (blk_new w _) hb1); have hc10 := (blk_cell HBK1.out 0).trans rfl; have hc11 := (blk_cell HBK1.out 1).trans rfl; have HB1 := Aside0.mk (HBA.out.trans (hb1.mono HBA.out.size)); clear hb1))
            go_ret2
            exact ⟨_, rfl, HO7.out, HB7.out⟩
          · obtain rfl : s1 = false := by simpa using hs1
            rw [if_neg (by decide)] at h
            obtain ⟨rfl, rfl⟩ := Prod.mk.inj (Option.some.inj h)
            clear h hs1
            go_enter Try.func14, Try.ntmps14
            go_wp2_with (first | (go_at_call 35; refine (attr_check.calls k A6 c6 M _ s2 w5 HR6.out HC6.out HS.out).mono ?_; rintro e w7 ⟨rfl, hb7⟩; have HO7 := Aside0.mk (Kd.R_below HO5.out hb7); have HB7 := Aside0.mk (HB5.out.trans (hb7.mono HB5.out.size)); clear hb7) | (go_at_call 39; refine (ins_calls (w4.alloc (.cells #[.string a1_0, .string a1_1] 26)) w.heap.size v3 l0 (⟨a1_0, a1_1⟩ : S26) w4.heap.size i l0.length rfl (Kd.R_alloc HO4.out _) (blk_new w4 _) (fun g hg => by have := own_lt HO4.out g hg; omega) (HB4.out.alloc HB4.out.size _).size HI.out HL2.out).mono ?_; rintro e w5 ⟨v5, rfl, ho5, hb5⟩; rw [← HM.out] at ho5; obtain ⟨A6, c6, rfl, hc6, hr6⟩ := Kd.R_reads ho5; have HO5 := Aside0.mk ho5; have HB5 := Aside0.mk ((HB4.out.alloc HB4.out.size (.cells #[.string a1_0, .string a1_1] 26)).trans hb5); have HR6 := Aside0.mk hr6; have HC6 := Aside0.mk hc6; clear ho5 hb5 hr6 hc6) | (go_at_call 38; refine (attr_find.calls k A0 c0 l0 a1_0 (i : Int) false _ (Kd.C_below HR0.out HB3.out) HC0.out HU.out).mono ?_; rintro e w4 ⟨rfl, hb4⟩; have HBK4 := Aside0.mk (blk_below HBK3.out hb4); have hc40 := (blk_cell HBK4.out 0).trans rfl; have hc41 := (blk_cell HBK4.out 1).trans rfl; have HO4 := Aside0.mk (Kd.R_below HO3.out hb4); have HB4 := Aside0.mk (HB3.out.trans (hb4.mono HB3.out.size)); clear hb4) | (go_at_call 37; refine (api_Pair_37.calls A0 c0 l0 l0 _ (Kd.C_below HR0.out HB2.out) HC0.out (by unfold api_Pair_37.f; rw [if_pos HL.out])).mono ?_; rintro e w3 ⟨v3, rfl, ho3, hb3⟩; have HBK3 := Aside0.mk (blk_below HBK2.out hb3); have hc30 := (blk_cell HBK3.out 0).trans rfl; have hc31 := (blk_cell HBK3.out 1).trans rfl; have HO3 := Aside0.mk (Kd.R_lower ho3 HB2.out.size); have HB3 := Aside0.mk (HB2.out.trans (hb3.mono HB2.out.size)); clear ho3 hb3) | (go_at_call 36; refine (attr_may.calls a1_0 a1_1 true _ HQ.out).mono ?_; rintro e w2 ⟨rfl, hb2⟩; have HBK2 := Aside0.mk (blk_below HBK1.out hb2); have HB2 := Aside0.mk (HB1.out.trans (hb2.mono HB1.out.size)); clear hb2) | (go_at_call 35; refine (attr_check.calls k A0 c0 l0 t1 0 _ (Kd.C_alloc HR0.out _) HC0.out HT.out).mono ?_; rintro e w1 ⟨rfl, hb1⟩; have HBK1 := Aside0.mk (blk_below (blk_new w _) hb1); have hc10 := (blk_cell HBK1.out 0).trans rfl; have hc11 := (blk_cell HBK1.out 1).trans rfl; have HB1 := Aside0.mk (HBA.out.trans (hb1.mono HBA.out.size)); clear hb1))
            go_ret2
            exact ⟨_, rfl, Kd.R_nil _ _ _ _ _, HB7.out⟩
        · rw [if_neg hb] at h
          cases h
    · obtain rfl : q = false := by simpa using hqt
      rw [if_neg (by decide)] at h
      obtain ⟨rfl, rfl⟩ := Prod.mk.inj (Option.some.inj h)
      clear h hqt
      go_enter Try.func14, Try.ntmps14
      go_wp2_with (first | (go_at_call 36; refine (attr_may.calls a1_0 a1_1 false _ HQ.out).mono ?_; rintro e w2 ⟨rfl, hb2⟩; have HBK2 := Aside0.mk (blk_below HBK1.out hb2); have HB2 := Aside0.mk (HB1.out.trans (hb2.mono HB1.out.size)); clear hb2) | (go_at_call 35; refine (attr_check.calls k A0 c0 l0 t1 0 _ (Kd.C_alloc HR0.out _) HC0.out HT.out).mono ?_; rintro e w1 ⟨rfl, hb1⟩; have HBK1 := Aside0.mk (blk_below (blk_new w _) hb1); have hc10 := (blk_cell HBK1.out 0).trans rfl; have hc11 := (blk_cell HBK1.out 1).trans rfl; have HB1 := Aside0.mk (HBA.out.trans (hb1.mono HBA.out.size)); clear hb1))
      go_ret2
      exact ⟨_, rfl, Kd.R_nil _ _ _ _ _, HB2.out⟩
  · rw [if_neg h2] at h
    obtain ⟨rfl, rfl⟩ := Prod.mk.inj (Option.some.inj h)
    have heb : (t2 != 0) = true := bne_iff_ne.2 h2
    clear h
    go_enter Try.func14, Try.ntmps14
    go_wp2_with (go_at_call 35; refine (attr_check.calls k A0 c0 l0 t1 t2 _ (Kd.C_alloc HR0.out _) HC0.out HT.out).mono ?_; rintro e w1 ⟨rfl, hb1⟩; have HB1 := Aside0.mk (HBA.out.trans (hb1.mono HBA.out.size)); clear hb1)
    go_ret2
    exact ⟨_, rfl, Kd.R_nil _ _ _ _ _, HB1.out⟩
end Go.Proofs.Ytffaggckhneakaa.Pr
end
section
namespace Go.Proofs.Ytffaggckhneakaa.Pr
open Go.RowKit Go.Proofs.YtffaggckhneakaaW.PrintWords Go.Proofs.YtffaggckhneakaaW.PrintLast Go.Proofs.YtffaggckhneakaaW.PrintMore
attribute [local go_sem] max2_int min2_int max_two min_two max_three min_three max_four min_four
attribute [local go_sem] Go.Proofs.Ytffaggckhneakaa.Hl.str_geq Go.Proofs.Ytffaggckhneakaa.Hl.str_gtr Go.Proofs.Ytffaggckhneakaa.Hl.str_leq
set_option linter.unusedVariables false
set_option linter.unusedSimpArgs false
def attr_Get.f (k : Nat) (l0 : List (S26)) (a1 : ByteArray) : Option (ByteArray × Int) := (attr_check.f k l0).bind fun bt329 => (if bt329.2 = 0 then ((attr_find.f k l0 a1).bind fun bt331 => (if bt331.2 = true then (if 0 ≤ bt331.1 then (if bt331.1 < (l0.length : Int) then (some ((rd_T26 l0 bt331.1).f1, 0)) else (none)) else (none)) else (some ((⟨#[]⟩ : ByteArray), 15)))) else (some ((⟨#[]⟩ : ByteArray), bt329.2)))
set_option maxHeartbeats 8000000 in
set_option maxRecDepth 100000 in
theorem attr_Get.calls (k : Nat) (A0 : Option Addr) (c0 : Nat) (l0 : List (S26)) (a1 : ByteArray) (r1 : ByteArray) (r2 : Int) (w : World) (hr0 : Kd.C k26 w A0 l0.length l0) (hc0 : l0.length ≤ c0) (h : attr_Get.f k l0 a1 = some (r1, r2)) :
    Calls Try.prog 19 #[.slice A0 l0.length c0, .string a1] w fun e w' => e = .returned (.tuple #[.string r1, .int .i64 r2]) ∧ Below w.heap.size w w' := by
  have HR0 := Aside0.mk hr0
  have HC0 := Aside0.mk hc0
  clear hr0 hc0
  have HB := Aside0.mk (Below.refl w.heap.size w)
  have H : ((attr_check.f k l0).bind fun bt329 => (if bt329.2 = 0 then ((attr_find.f k l0 a1).bind fun bt331 => (if bt331.2 = true then (if 0 ≤ bt331.1 then (if bt331.1 < (l0.length : Int) then (some ((rd_T26 l0 bt331.1).f1, 0)) else (none)) else (none)) else (some ((⟨#[]⟩ : ByteArray), 15)))) else (some ((⟨#[]⟩ : ByteArray), bt329.2)))) = some (r1, r2) := h
  clear h
  replace H := Option.bind_eq_some_iff.mp H
  obtain ⟨⟨t329, t330⟩, A30, H⟩ := H
  replace H : (if t330 = 0 then ((attr_find.f k l0 a1).bind fun bt331 => (if bt331.2 = true then (if 0 ≤ bt331.1 then (if bt331.1 < (l0.length : Int) then (some ((rd_T26 l0 bt331.1).f1, 0)) else (none)) else (none)) else (some ((⟨#[]⟩ : ByteArray), 15)))) else (some ((⟨#[]⟩ : ByteArray), t330))) = some (r1, r2) := H
  have A3 := Aside0.mk A30
  clear A30
  by_cases c4 : t330 = 0
  · rw [if_pos c4] at H
    have c4b0 : (t330 == 0) = true := beq_iff_eq.mpr c4
    have c4b1 : (t330 != 0) = false := bne_eq_false_iff_eq.mpr c4
    clear c4
    replace H := Option.bind_eq_some_iff.mp H
    obtain ⟨⟨t331, t332⟩, A50, H⟩ := H
    replace H : (if t332 = true then (if 0 ≤ t331 then (if t331 < (l0.length : Int) then (some ((rd_T26 l0 t331).f1, 0)) else (none)) else (none)) else (some ((⟨#[]⟩ : ByteArray), 15))) = some (r1, r2) := H
    have A5 := Aside0.mk A50
    clear A50
    by_cases c6 : t332 = true
    · subst c6
      have H1 : (if 0 ≤ t331 then (if t331 < (l0.length : Int) then (some ((rd_T26 l0 t331).f1, 0)) else (none)) else (none)) = some (r1, r2) := by rw [if_pos rfl] at H; exact H
      clear H
      have H := H1
      clear H1
      by_cases c7 : 0 ≤ t331
      · rw [if_pos c7] at H
        have c7b0 : decide (0 ≤ t331) = true := decide_eq_true c7
        clear c7
        by_cases c8 : t331 < (l0.length : Int)
        · rw [if_pos c8] at H
          have c8b0 : decide (t331 < (l0.length : Int)) = true := decide_eq_true c8
          clear c8
          simp only [Option.some.injEq, Prod.mk.injEq] at H
          obtain ⟨rfl, rfl⟩ := H
          go_enter Try.func19, Try.ntmps19
          go_wp2_with (first | ((with_reducible refine gate_callee (f := 35) rfl ?_); refine goesL_ (some 12) rfl rfl Try.func35 (by kernel_rfl) rfl #[.slice A0 l0.length c0] rfl (by (try simp only [List.map_toArray, List.map_cons, List.map_nil]); first | done | rfl | (simp only [List.length_drop, List.length_take]; rfl)) ?_; (with_reducible refine (attr_check.calls k _ _ l0 t329 t330 _ ?side1 ?side2 A3.out).mono ?_); (case side1 => repeat (first | exact HR0.out | (with_reducible refine Kd.C_alloc ?_ _) | (with_reducible refine Kd.C_drewN ?_ _) | (with_reducible refine Kd.C_drew ?_))); (case side2 => exact HC0.out); rintro e w9 ⟨rfl, hb⟩; refine ⟨_, rfl, ?_⟩; have n0_ := Aside0.mk (below_step (by repeat (first | (with_reducible first | exact HB.out | apply below_alloc | apply pw_below_drewN | apply below_drew1) | exact HB.out)) hb); clear HB; have HB := n0_; clear n0_; (try clear hb); (try clear hb2); (try clear hk); (try clear hi)) | ((with_reducible refine gate_callee (f := 38) rfl ?_); refine goesL_ (some 21) rfl rfl Try.func38 (by kernel_rfl) rfl #[.slice A0 l0.length c0, .string a1] rfl (by (try simp only [List.map_toArray, List.map_cons, List.map_nil]); first | done | rfl | (simp only [List.length_drop, List.length_take]; rfl)) ?_; (with_reducible refine (attr_find.calls k _ _ l0 a1 t331 true _ ?side1 ?side2 A5.out).mono ?_); (case side1 => repeat (first | exact (Kd.C_below HR0.out HB.out) | (with_reducible refine Kd.C_alloc ?_ _) | (with_reducible refine Kd.C_drewN ?_ _) | (with_reducible refine Kd.C_drew ?_))); (case side2 => exact HC0.out); rintro e w10 ⟨rfl, hb⟩; refine ⟨_, rfl, ?_⟩; have n0_ := Aside0.mk (below_step (by repeat (first | (with_reducible first | exact HB.out | apply below_alloc | apply pw_below_drewN | apply below_drew1) | exact HB.out)) hb); clear HB; have HB := n0_; clear n0_; (try clear hb); (try clear hb2); (try clear hk); (try clear hi); have p333 : 0 ≤ (t331 : Int) := of_decide_eq_true (by first | (with_reducible assumption) | assumption); have q333 : t331 < (l0.length : Int) := of_decide_eq_true (by first | (with_reducible assumption) | assumption); obtain ⟨ad333, e333, hx333_0, hx333_1⟩ := at_T26 HR0.out t331 p333 q333; cases e333; replace hx333_0 := (HB.out.cell (World.block_lt_of_cell? w _ hx333_0)).trans hx333_0; replace hx333_1 := (HB.out.cell (World.block_lt_of_cell? w _ hx333_1)).trans hx333_1; replace p333 := eq_true p333; replace q333 := eq_true q333))
          go_ret2
          exact ⟨by first | rfl | (simp [errW_none, errW_some] <;> rfl) | (simp [*, errW_none, errW_some] <;> rfl), by repeat (first | (with_reducible first | exact HB.out | apply below_alloc | apply pw_below_drewN | apply below_drew1) | exact HB.out)⟩
        · rw [if_neg c8] at H
          exact absurd H (by simp)
      · rw [if_neg c7] at H
        exact absurd H (by simp)
    · replace c6 := Bool.eq_false_iff.mpr c6
      subst c6
      have H1 : (some ((⟨#[]⟩ : ByteArray), 15)) = some (r1, r2) := by rw [if_neg (show ¬ (false = true) by decide)] at H; exact H
      clear H
      have H := H1
      clear H1
      simp only [Option.some.injEq, Prod.mk.injEq] at H
      obtain ⟨rfl, rfl⟩ := H
      go_enter Try.func19, Try.ntmps19
      go_wp2_with (first | ((with_reducible refine gate_callee (f := 35) rfl ?_); refine goesL_ (some 12) rfl rfl Try.func35 (by kernel_rfl) rfl #[.slice A0 l0.length c0] rfl (by (try simp only [List.map_toArray, List.map_cons, List.map_nil]); first | done | rfl | (simp only [List.length_drop, List.length_take]; rfl)) ?_; (with_reducible refine (attr_check.calls k _ _ l0 t329 t330 _ ?side1 ?side2 A3.out).mono ?_); (case side1 => repeat (first | exact HR0.out | (with_reducible refine Kd.C_alloc ?_ _) | (with_reducible refine Kd.C_drewN ?_ _) | (with_reducible refine Kd.C_drew ?_))); (case side2 => exact HC0.out); rintro e w11 ⟨rfl, hb⟩; refine ⟨_, rfl, ?_⟩; have n0_ := Aside0.mk (below_step (by repeat (first | (with_reducible first | exact HB.out | apply below_alloc | apply pw_below_drewN | apply below_drew1) | exact HB.out)) hb); clear HB; have HB := n0_; clear n0_; (try clear hb); (try clear hb2); (try clear hk); (try clear hi)) | ((with_reducible refine gate_callee (f := 38) rfl ?_); refine goesL_ (some 21) rfl rfl Try.func38 (by kernel_rfl) rfl #[.slice A0 l0.length c0, .string a1] rfl (by (try simp only [List.map_toArray, List.map_cons, List.map_nil]); first | done | rfl | (simp only [List.length_drop, List.length_take]; rfl)) ?_; (with_reducible refine (attr_find.calls k _ _ l0 a1 t331 false _ ?side1 ?side2 A5.out).mono ?_); (case side1 => repeat (first | exact (Kd.C_below HR0.out HB.out) | (with_reducible refine Kd.C_alloc ?_ _) | (with_reducible refine Kd.C_drewN ?_ _) | (with_reducible refine Kd.C_drew ?_))); (case side2 => exact HC0.out); rintro e w12 ⟨rfl, hb⟩; refine ⟨_, rfl, ?_⟩; have n0_ := Aside0.mk (below_step (by repeat (first | (with_reducible first | exact HB.out | apply below_alloc | apply pw_below_drewN | apply below_drew1) | exact HB.out)) hb); clear HB; have HB := n0_; clear n0_; (try clear hb); (try clear hb2); (try clear hk); (try clear hi)))
      go_ret2
      exact ⟨by first | rfl | (simp [errW_none, errW_some] <;> rfl) | (simp [*, errW_none, errW_some] <;> rfl), by repeat (first | (with_reducible first | exact HB.out | apply below_alloc | apply pw_below_drewN | apply below_drew1) | exact HB.out)⟩
  · rw [if_neg c4] at H
    have c4b0 : (t330 == 0) = false := beq_eq_false_iff_ne.mpr c4
    have c4b1 : (t330 != 0) = true := bne_iff_ne.mpr c4
    simp only [Option.some.injEq, Prod.mk.injEq] at H
    obtain ⟨rfl, rfl⟩ := H
    go_enter Try.func19, Try.ntmps19
    go_wp2_with (first | ((with_reducible refine gate_callee (f := 35) rfl ?_); refine goesL_ (some 12) rfl rfl Try.func35 (by kernel_rfl) rfl #[.slice A0 l0.length c0] rfl (by (try simp only [List.map_toArray, List.map_cons, List.map_nil]); first | done | rfl | (simp only [List.length_drop, List.length_take]; rfl)) ?_; (with_reducible refine (attr_check.calls k _ _ l0 t329 t330 _ ?side1 ?side2 A3.out).mono ?_); (case side1 => repeat (first | exact HR0.out | (with_reducible refine Kd.C_alloc ?_ _) | (with_reducible refine Kd.C_drewN ?_ _) | (with_reducible refine Kd.C_drew ?_))); (case side2 => exact HC0.out); rintro e w13 ⟨rfl, hb⟩; refine ⟨_, rfl, ?_⟩; have n0_ := Aside0.mk (below_step (by repeat (first | (with_reducible first | exact HB.out | apply below_alloc | apply pw_below_drewN | apply below_drew1) | exact HB.out)) hb); clear HB; have HB := n0_; clear n0_; (try clear hb); (try clear hb2); (try clear hk); (try clear hi)))
    go_ret2
    exact ⟨by first | rfl | (simp [errW_none, errW_some] <;> rfl) | (simp [*, errW_none, errW_some] <;> rfl), by repeat (first | (with_reducible first | exact HB.out | apply below_alloc | apply pw_below_drewN | apply below_drew1) | exact HB.out)⟩
end Go.Proofs.Ytffaggckhneakaa.Pr
end
section
namespace Go.Proofs.Ytffaggckhneakaa.Pr
open Go.RowKit Go.Proofs.YtffaggckhneakaaW.PrintWords Go.Proofs.YtffaggckhneakaaW.PrintLast Go.Proofs.YtffaggckhneakaaW.PrintMore
attribute [local go_sem] max2_int min2_int max_two min_two max_three min_three max_four min_four
attribute [local go_sem] Go.Proofs.Ytffaggckhneakaa.Hl.str_geq Go.Proofs.Ytffaggckhneakaa.Hl.str_gtr Go.Proofs.Ytffaggckhneakaa.Hl.str_leq
set_option linter.unusedVariables false
set_option linter.unusedSimpArgs false
def attr_Encode.l0 : Nat → List Int → List (S26) → Int → Int → Option (List Int × Int)
  | 0, _, _, _, _ => none
  | k + 1, x6, x23, x24, x25 => if x25 < x24 then (if 0 ≤ x25 then (if x25 < (x23.length : Int) then ((some (([((((rd_T26 x23 x25).f0).size : Int)) % 256, ((((rd_T26 x23 x25).f1).size : Int)) % 256] : List Int) : List Int)).bind fun y345 => (if x6.length + y345.length < 140737488355328 then ((some (x6 ++ y345 : List Int)).bind fun y348 => (if y348.length + ((rd_T26 x23 x25).f0).size < 140737488355328 then ((some (y348 ++ bytesOf ((rd_T26 x23 x25).f0) : List Int)).bind fun y351 => (if y351.length + ((rd_T26 x23 x25).f1).size < 140737488355328 then (attr_Encode.l0 k (y351 ++ bytesOf ((rd_T26 x23 x25).f1)) x23 x24 (wrap64 (x25 + 1))) else (none))) else (none))) else (none))) else (none)) else (none)) else (if 0 ≤ (wrap64 (252 - (x6.length : Int))) then (if x6.length + (wrap64 (252 - (x6.length : Int)) : Int).toNat < 140737488355328 then ((some (x6 ++ List.replicate (wrap64 (252 - (x6.length : Int)) : Int).toNat 0 : List Int)).bind fun y357 => ((crc_Sum.f k y357).bind fun t360 => ((crc_Bytes.f k (IntKind.u64.wrap (t360)) 4).bind fun t361 => (if y357.length + t361.length < 140737488355328 then (some ((y357 ++ t361), 0)) else (none))))) else (none)) else (none))
def attr_Encode.f (k : Nat) (l0 : List (S26)) : Option (List Int × Int) := (attr_check.f k l0).bind fun bt338 => (if bt338.2 = 0 then (if bt338.1 = true then ((crc_Bytes.f k (IntKind.u64.wrap ((l0.length : Int))) 2).bind fun t340 => (attr_Encode.l0 k t340 l0 (l0.length : Int) 0)) else (some (([] : List Int), 15))) else (some (([] : List Int), bt338.2)))
def attr_Encode.T11 : Bool × List (List Nat × List Nat) := (true, [([], []), ([], []), ([1], [1]), ([0, 2], [0, 2]), ([], []), ([4], [4]), ([3, 5, 3], [3, 5]), ([6, 6, 0, 1, 2, 3, 4, 5, 6], [0, 6])])
def attr_Encode.B11 : List Nat := [0, 0, 2, 7, 0, 16, 63, 127]
theorem attr_Encode.tab11 : rtab .any (opsOf Try.f21 11) = attr_Encode.T11 := by kernel_rfl
theorem attr_Encode.bits11 : waitsOk attr_Encode.T11.2 attr_Encode.B11 = true := by kernel_rfl
set_option maxHeartbeats 8000000 in
set_option maxRecDepth 100000 in
theorem attr_Encode.calls (k : Nat) (A0 : Option Addr) (c0 : Nat) (l0 : List (S26)) (r1 : List Int) (r2 : Int) (w : World) (hr0 : Kd.C k26 w A0 l0.length l0) (hc0 : l0.length ≤ c0) (h : attr_Encode.f k l0 = some (r1, r2)) :
    Calls Try.prog 21 #[.slice A0 l0.length c0] w fun e w' => ∃ v0_ : Value, e = .returned (.tuple #[v0_, .int .i64 r2]) ∧ Kd.R (Kd.int .u8) 5 w' w.heap.size (fun _ => True) v0_ r1 ∧ Below w.heap.size w w' := by
  have hu26 := Try.underlying26
  have HR0 := Aside0.mk hr0
  have HC0 := Aside0.mk hc0
  clear hr0 hc0
  have HB := Aside0.mk (Below.refl w.heap.size w)
  have H : ((attr_check.f k l0).bind fun bt338 => (if bt338.2 = 0 then (if bt338.1 = true then ((crc_Bytes.f k (IntKind.u64.wrap ((l0.length : Int))) 2).bind fun t340 => (attr_Encode.l0 k t340 l0 (l0.length : Int) 0)) else (some (([] : List Int), 15))) else (some (([] : List Int), bt338.2)))) = some (r1, r2) := h
  clear h
  replace H := Option.bind_eq_some_iff.mp H
  obtain ⟨⟨t338, t339⟩, A20, H⟩ := H
  replace H : (if t339 = 0 then (if t338 = true then ((crc_Bytes.f k (IntKind.u64.wrap ((l0.length : Int))) 2).bind fun t340 => (attr_Encode.l0 k t340 l0 (l0.length : Int) 0)) else (some (([] : List Int), 15))) else (some (([] : List Int), t339))) = some (r1, r2) := H
  have A2 := Aside0.mk A20
  clear A20
  by_cases c3 : t339 = 0
  · rw [if_pos c3] at H
    have c3b0 : (t339 == 0) = true := beq_iff_eq.mpr c3
    have c3b1 : (t339 != 0) = false := bne_eq_false_iff_eq.mpr c3
    clear c3
    by_cases c4 : t338 = true
    · subst c4
      have H1 : ((crc_Bytes.f k (IntKind.u64.wrap ((l0.length : Int))) 2).bind fun t340 => (attr_Encode.l0 k t340 l0 (l0.length : Int) 0)) = some (r1, r2) := by rw [if_pos rfl] at H; exact H
      clear H
      have H := H1
      clear H1
      replace H := Option.bind_eq_some_iff.mp H
      obtain ⟨t340, A50, H⟩ := H
      replace H : (attr_Encode.l0 k t340 l0 (l0.length : Int) 0) = some (r1, r2) := H
      have A5 := Aside0.mk A50
      clear A50
      have H' := Aside0.mk H
      clear H
      go_enter Try.func21, Try.ntmps21
      go_wp2_with (first | ((with_reducible refine gate_callee (f := 35) rfl ?_); refine goesL_ (some 11) rfl rfl Try.func35 (by kernel_rfl) rfl #[.slice A0 l0.length c0] rfl (by (try simp only [List.map_toArray, List.map_cons, List.map_nil]); first | done | rfl | (simp only [List.length_drop, List.length_take]; rfl)) ?_; (with_reducible refine (attr_check.calls k _ _ l0 true t339 _ ?side1 ?side2 A2.out).mono ?_); (case side1 => repeat (first | exact HR0.out | (with_reducible refine Kd.C_alloc ?_ _) | (with_reducible refine Kd.C_drewN ?_ _) | (with_reducible refine Kd.C_drew ?_))); (case side2 => exact HC0.out); rintro e w6 ⟨rfl, hb⟩; refine ⟨_, rfl, ?_⟩; have n0_ := Aside0.mk (below_step (by repeat (first | (with_reducible first | exact HB.out | apply below_alloc | apply pw_below_drewN | apply below_drew1) | exact HB.out)) hb); clear HB; have HB := n0_; clear n0_; (try clear hb); (try clear hb2); (try clear hk); (try clear hi)) | ((with_reducible refine gate_callee (f := 45) rfl ?_); refine goesL_ (some 22) rfl rfl Try.func45 (by kernel_rfl) rfl #[.int .u64 (IntKind.u64.wrap ((l0.length : Int))), .int .i64 2] rfl (by (try simp only [List.map_toArray, List.map_cons, List.map_nil]); first | done | rfl | (simp only [List.length_drop, List.length_take]; rfl)) ?_; (with_reducible refine (crc_Bytes.calls k (IntKind.u64.wrap ((l0.length : Int))) 2 t340 _ A5.out).mono ?_); rintro e w7 ⟨v341, rfl, ho0, hb⟩; refine ⟨_, rfl, ?_⟩; have n0_ := Aside0.mk (Kd.R_lower ho0 (below_size (by repeat (first | (with_reducible first | exact HB.out | apply below_alloc | apply pw_below_drewN | apply below_drew1) | exact HB.out)))); have n1_ := Aside0.mk (below_step (by repeat (first | (with_reducible first | exact HB.out | apply below_alloc | apply pw_below_drewN | apply below_drew1) | exact HB.out)) hb); clear HB; have HO342 := n0_; have HB := n1_; clear n0_ n1_; (try clear hb); (try clear hb2); (try clear hk); (try clear hi); (try clear ho0)))
      go_loopg [6, 25] k (fun kq v6 v25 w' => ∃ (x6_1 : List Int) (x25_1 : Int), v25 = .int .i64 x25_1 ∧ Aside0 (attr_Encode.l0 kq x6_1 l0 (l0.length : Int) x25_1 = some (r1, r2)) ∧ Aside0 (kq ≤ k) ∧ Aside0 (Kd.R (Kd.int .u8) 5 w' w.heap.size (fun _ => True) v6 x6_1) ∧ Aside0 (Below w.heap.size w w'))
      case atStart => exact ⟨(t340), (0), (by first | rfl | (simp; done) | (simp [*]; done)), H', ⟨Nat.le_refl _⟩, ⟨by (with_reducible repeat (first | apply Kd.R_alloc | apply Kd.R_drewN | apply Kd.R_drew)); exact HO342.out⟩, ⟨by repeat (first | (with_reducible first | exact HB.out | apply below_alloc | apply pw_below_drewN | apply below_drew1) | exact HB.out)⟩⟩
      case round =>
        clear H'
        try clear c2
        try clear p2
        try clear c3
        try clear c3b0
        try clear c3b1
        try clear c4
        obtain ⟨x6_1, x25_1, rfl, HA, HK1, HO_6, HB⟩ := hrel
        cases gk with
        | zero => exact absurd HA.out (by intro h_; cases h_)
        | succ k1 =>
          have H := HA.out
          clear HA
          simp only [attr_Encode.l0] at H
          by_cases c8 : x25_1 < (l0.length : Int)
          · rw [if_pos c8] at H
            have c8b0 : decide (x25_1 < (l0.length : Int)) = true := decide_eq_true c8
            clear c8
            by_cases c9 : 0 ≤ x25_1
            · rw [if_pos c9] at H
              have c9b0 : decide (0 ≤ x25_1) = true := decide_eq_true c9
              clear c9
              by_cases c10 : x25_1 < (l0.length : Int)
              · rw [if_pos c10] at H
                have c10b0 : decide (x25_1 < (l0.length : Int)) = true := decide_eq_true c10
                clear c10
                obtain ⟨y345, hy345⟩ : ∃ y_ : List Int, y_ = (([((((rd_T26 l0 x25_1).f0).size : Int)) % 256, ((((rd_T26 l0 x25_1).f1).size : Int)) % 256] : List Int)) := ⟨_, rfl⟩
                replace H : (if x6_1.length + y345.length < 140737488355328 then ((some (x6_1 ++ y345 : List Int)).bind fun y348 => (if y348.length + ((rd_T26 l0 x25_1).f0).size < 140737488355328 then ((some (y348 ++ bytesOf ((rd_T26 l0 x25_1).f0) : List Int)).bind fun y351 => (if y351.length + ((rd_T26 l0 x25_1).f1).size < 140737488355328 then (attr_Encode.l0 k1 (y351 ++ bytesOf ((rd_T26 l0 x25_1).f1)) l0 (l0.length : Int) (wrap64 (x25_1 + 1))) else (none))) else (none))) else (none)) = some (r1, r2) := by first | (rw [hy345]; with_reducible exact H) | (have H2_ := (Option.bind_some _ _).symm.trans H; rw [hy345]; with_reducible exact H2_) | (have H2_ := (Option.bind_some _ _).symm.trans H; with_reducible exact H2_) | with_reducible exact H | (rw [hy345]; exact H) | exact H
                have Ny345 := Aside0.mk hy345
                clear hy345
                by_cases c11 : x6_1.length + y345.length < 140737488355328
                · rw [if_pos c11] at H
                  have LMc11 := Aside0.mk c11
                  clear c11
                  obtain ⟨y348, hy348⟩ : ∃ y_ : List Int, y_ = (x6_1 ++ y345) := ⟨_, rfl⟩
                  replace H : (if y348.length + ((rd_T26 l0 x25_1).f0).size < 140737488355328 then ((some (y348 ++ bytesOf ((rd_T26 l0 x25_1).f0) : List Int)).bind fun y351 => (if y351.length + ((rd_T26 l0 x25_1).f1).size < 140737488355328 then (attr_Encode.l0 k1 (y351 ++ bytesOf ((rd_T26 l0 x25_1).f1)) l0 (l0.length : Int) (wrap64 (x25_1 + 1))) else (none))) else (none)) = some (r1, r2) := by first | (rw [hy348]; with_reducible exact H) | (have H2_ := (Option.bind_some _ _).symm.trans H; rw [hy348]; with_reducible exact H2_) | (have H2_ := (Option.bind_some _ _).symm.trans H; with_reducible exact H2_) | with_reducible exact H | (rw [hy348]; exact H) | exact H
                  have Ny348 := Aside0.mk hy348
                  clear hy348
                  by_cases c12 : y348.length + ((rd_T26 l0 x25_1).f0).size < 140737488355328
                  · rw [if_pos c12] at H
                    have LMc12 := Aside0.mk c12
                    clear c12
                    obtain ⟨y351, hy351⟩ : ∃ y_ : List Int, y_ = (y348 ++ bytesOf ((rd_T26 l0 x25_1).f0)) := ⟨_, rfl⟩
                    replace H : (if y351.length + ((rd_T26 l0 x25_1).f1).size < 140737488355328 then (attr_Encode.l0 k1 (y351 ++ bytesOf ((rd_T26 l0 x25_1).f1)) l0 (l0.length : Int) (wrap64 (x25_1 + 1))) else (none)) = some (r1, r2) := by first | (rw [hy351]; with_reducible exact H) | (have H2_ := (Option.bind_some _ _).symm.trans H; rw [hy351]; with_reducible exact H2_) | (have H2_ := (Option.bind_some _ _).symm.trans H; with_reducible exact H2_) | with_reducible exact H | (rw [hy351]; exact H) | exact H
                    have Ny351 := Aside0.mk hy351
                    clear hy351
                    by_cases c13 : y351.length + ((rd_T26 l0 x25_1).f1).size < 140737488355328
                    · rw [if_pos c13] at H
                      have LMc13 := Aside0.mk c13
                      clear c13
                      obtain ⟨y354, hy354⟩ : ∃ y_ : List Int, y_ = (y351 ++ bytesOf ((rd_T26 l0 x25_1).f1)) := ⟨_, rfl⟩
                      replace H : (attr_Encode.l0 k1 y354 l0 (l0.length : Int) (wrap64 (x25_1 + 1))) = some (r1, r2) := by first | (rw [hy354]; with_reducible exact H) | (have H2_ := (Option.bind_some _ _).symm.trans H; rw [hy354]; with_reducible exact H2_) | (have H2_ := (Option.bind_some _ _).symm.trans H; with_reducible exact H2_) | with_reducible exact H | (rw [hy354]; exact H) | exact H
                      have Ny354 := Aside0.mk hy354
                      clear hy354
                      have H' := Aside0.mk H
                      clear H
                      have p343 : 0 ≤ (x25_1 : Int) := of_decide_eq_true (by first | (with_reducible assumption) | assumption)
                      have q343 : x25_1 < (l0.length : Int) := of_decide_eq_true (by first | (with_reducible assumption) | assumption)
                      obtain ⟨ad343, e343, hx343_0, hx343_1⟩ := at_T26 HR0.out x25_1 p343 q343
                      cases e343
                      replace hx343_0 := (HB.out.cell (World.block_lt_of_cell? w _ hx343_0)).trans hx343_0
                      replace hx343_1 := (HB.out.cell (World.block_lt_of_cell? w _ hx343_1)).trans hx343_1
                      replace p343 := eq_true p343
                      replace q343 := eq_true q343
                      try go_wp2_with (first | ((with_reducible refine gate_dst (N := 8) rfl ?_); refine box_event ?hg (N := 8) ?hd (cs := #[.string (⟨#[]⟩ : ByteArray), .string (⟨#[]⟩ : ByteArray)]) (t := 26) ?hr ?_; (case hd => rfl); (case hg => rfl); (case hr => first | (go_simp; done) | (go_simp; rfl)); intro gb344 hg w14 hbox hb; have n0_ := Aside0.mk (Kd.R_below (by (with_reducible repeat (first | apply Kd.R_alloc | apply Kd.R_drewN | apply Kd.R_drew)); exact HO_6.out) hb); have n1_ := Aside0.mk (below_step (by repeat (first | (with_reducible first | exact HB.out | apply below_alloc | apply pw_below_drewN | apply below_drew1) | exact HB.out)) hb); have n2_ := Aside0.mk (hbox); have n3_ := Aside0.mk ((by rw [hg]; exact (below_size (by repeat (first | (with_reducible first | exact HB.out | apply below_alloc | apply pw_below_drewN | apply below_drew1) | exact HB.out))) : w.heap.size ≤ gb344)); have n4_ := Aside0.mk ((by rw [hg]; exact (below_size (by repeat (first | (with_reducible first | exact HB.out | apply below_alloc | apply pw_below_drewN | apply below_drew1) | exact HB.out))) : w.heap.size ≤ gb344)); clear HO_6; clear HB; have HO_6 := n0_; have HB := n1_; have BK344 := n2_; have GW344 := n3_; have GE344 := n4_; clear n0_ n1_ n2_ n3_ n4_; clear hb hbox hg; have hcz15_0 : w14.cell? ⟨gb344, 0, none⟩ = some (.string (⟨#[]⟩ : ByteArray)) := (blk_cell BK344.out 0).trans rfl; have hcz15_1 : w14.cell? ⟨gb344, 1, none⟩ = some (.string (⟨#[]⟩ : ByteArray)) := (blk_cell BK344.out 1).trans rfl; have hfz15_0 := blk_frozen BK344.out 0; have hfz15_1 := blk_frozen BK344.out 1) | ((with_reducible refine gate_dst (N := 38) rfl ?_); refine Kd.R_lit (Kd.int .u8) _ 5 ?hg (N := 38) ?hd (xs := ([((((rd_T26 l0 x25_1).f0).size : Int)) % 256, ((((rd_T26 l0 x25_1).f1).size : Int)) % 256] : List Int)) (inner := [.int .u8 (((((rd_T26 l0 x25_1).f0).size : Int)) % 256), .int .u8 (((((rd_T26 l0 x25_1).f1).size : Int)) % 256)]) (ok := fun _ => True) (okp := fun _ => True) ?hr ?hp (fun _ hk => hk) trivial (Below.refl _ _) (Nat.le_refl _) (by simp) ?_; (case hd => rfl); (case hg => rfl); (case hr => first | (go_simp; done) | (go_simp; rfl)); (case hp => exact (Reps.one (show Kd.M (Kd.int .u8) _ _ _ (((((rd_T26 l0 x25_1).f0).size : Int)) % 256) [.int .u8 (((((rd_T26 l0 x25_1).f0).size : Int)) % 256)] from rfl) (Reps.one (show Kd.M (Kd.int .u8) _ _ _ (((((rd_T26 l0 x25_1).f1).size : Int)) % 256) [.int .u8 (((((rd_T26 l0 x25_1).f1).size : Int)) % 256)] from rfl) (Reps.none _ _)))); intro v346 w16 ho17 hb hg_ hnew_; clear hg_ hnew_; (first | rw [← Ny345.out] at ho17 | (simp only [Int.reduceToNat] at ho17; rw [← Ny345.out] at ho17)); have n0_ := Aside0.mk (Kd.R_elder' (by (with_reducible repeat (first | apply Kd.R_alloc | apply Kd.R_drewN | apply Kd.R_drew)); exact (Kd.R_mono (Kd.R_far (p := ⟨gb344, 1, none⟩) (Kd.R_far (p := ⟨gb344, 0, none⟩) (Kd.R_types HO_6.out BK344.out (by decide)) (fun _ hk => hk.2) (.string ((rd_T26 l0 x25_1).f0))) (fun _ hk => hk.2) (.string ((rd_T26 l0 x25_1).f1))) (fun _ h_ => h_.1))) (Kd.R_base ho17) hb); have n1_ := Aside0.mk (Kd.R_lower (Kd.R_new' ho17 (Kd.R_lt (by (with_reducible repeat (first | apply Kd.R_alloc | apply Kd.R_drewN | apply Kd.R_drew)); exact (Kd.R_mono (Kd.R_far (p := ⟨gb344, 1, none⟩) (Kd.R_far (p := ⟨gb344, 0, none⟩) (Kd.R_types HO_6.out BK344.out (by decide)) (fun _ hk => hk.2) (.string ((rd_T26 l0 x25_1).f0))) (fun _ hk => hk.2) (.string ((rd_T26 l0 x25_1).f1))) (fun _ h_ => h_.1))))) (below_size (by repeat (first | (with_reducible first | exact HB.out | apply below_alloc | apply pw_below_drewN | apply below_drew1 | refine below_set ?_ GE344.out) | exact HB.out)))); have n2_ := Aside0.mk (blk_below (g := gb344) (o := .cells #[.string ((rd_T26 l0 x25_1).f0), .string ((rd_T26 l0 x25_1).f1)] 26 (0, 0)) (by (with_reducible repeat (first | refine blk_drewN ?_ _ | refine blk_drew ?_ | refine blk_alloc ?_ _)); refine blk_put (cs := #[.string ((rd_T26 l0 x25_1).f0), .string (⟨#[]⟩ : ByteArray)]) ?_ 1 _ rfl; (with_reducible repeat (first | refine blk_drewN ?_ _ | refine blk_drew ?_ | refine blk_alloc ?_ _)); refine blk_put (cs := #[.string (⟨#[]⟩ : ByteArray), .string (⟨#[]⟩ : ByteArray)]) ?_ 0 _ rfl; (with_reducible repeat (first | refine blk_drewN ?_ _ | refine blk_drew ?_ | refine blk_alloc ?_ _)); exact BK344.out) hb); have n3_ := Aside0.mk (below_step (by repeat (first | (with_reducible first | exact HB.out | apply below_alloc | apply pw_below_drewN | apply below_drew1 | refine below_set ?_ GE344.out) | exact HB.out)) hb); clear HO_6; clear BK344; clear HB; have HO_6 := n0_; have HO347 := n1_; have BK344 := n2_; have HB := n3_; clear n0_ n1_ n2_ n3_; clear hb ho17; obtain ⟨Ao19, co19, eo19⟩ := Kd.R_slice HO347.out; subst eo19) | ((with_reducible refine gate_builtin (b := .append) (xs := #[.tmp 29, .tmp 38]) rfl ?_); at_builtin; refine Kd.R_append_rows (Kd.int .u8) (w0 := w) w.heap.size rfl (.tmp 29) (.tmp 38) 37 5 (.int .u8 0) 1 rfl Try.underlying37 info5 rfl (by decide) (by omega) u6 x6_1 y345 _ _ _ (fun k_ => some k_ ≠ (.slice Ao19 y345.length co19 : Value).ownBlock) (fun _ => False) rfl rfl ?aO ?aR (fun _ _ h => h) (fun _ h => h.elim) ?aF ?aB ?aS ?aL ?_; (case aR => repeat (first | exact (Kd.R_reads' HO347.out).2.2 | (with_reducible refine Kd.C_alloc ?_ _) | (with_reducible refine Kd.C_drewN ?_ _) | (with_reducible refine Kd.C_drew ?_))); (case aB => exact (by repeat (first | (with_reducible first | exact HB.out | apply below_alloc | apply pw_below_drewN | apply below_drew1 | refine below_set ?_ GE344.out) | exact HB.out))); (case aF => exact (fun k_ hk => Kd.fresh' (Kd.R_lt (by (with_reducible repeat (first | apply Kd.R_alloc | apply Kd.R_drewN | apply Kd.R_drew)); exact HO347.out)) k_ hk)); (case aO => exact (by (with_reducible repeat (first | apply Kd.R_alloc | apply Kd.R_drewN | apply Kd.R_drew)); exact Kd.R_mono HO_6.out (fun _ hk => hk.2))); (case aS => exact (below_size (by repeat (first | (with_reducible first | exact HB.out | apply below_alloc | apply pw_below_drewN | apply below_drew1 | refine below_set ?_ GE344.out) | exact HB.out)))); (case aL => have := LMc11.out; omega); intro v349 w18 ho hb hg hat; rw [← Ny348.out] at ho; have n0_ := Aside0.mk (blk_grown (g := gb344) (o := .cells #[.string ((rd_T26 l0 x25_1).f0), .string ((rd_T26 l0 x25_1).f1)] 26 (0, 0)) (by (with_reducible repeat (first | refine blk_drewN ?_ _ | refine blk_drew ?_ | refine blk_alloc ?_ _)); exact BK344.out) hg (Kd.R_ne HO_6.out BK344.out (by decide))); have n1_ := Aside0.mk (Kd.R_after (ok := (fun _ => True)) (by (with_reducible repeat (first | apply Kd.R_alloc | apply Kd.R_drewN | apply Kd.R_drew)); exact HO347.out) hg hat); have n2_ := Aside0.mk (hb); have n3_ := Aside0.mk (ho); clear BK344; clear HO347; clear HB; clear HO_6; have BK344 := n0_; have HO347 := n1_; have HB := n2_; have HO350 := n3_; clear n0_ n1_ n2_ n3_; clear ho hb hg hat))
                      have n0_ := Aside0.mk (Kd.R_drew HO347.out)
                      have n1_ := Aside0.mk (Kd.R_drew HO350.out)
                      have n2_ := Aside0.mk (blk_drew BK344.out)
                      have n3_ := Aside0.mk (below_drew1 HB.out)
                      clear HO347
                      clear HO350
                      clear BK344
                      clear HB
                      have HO347 := n0_
                      have HO350 := n1_
                      have BK344 := n2_
                      have HB := n3_
                      clear n0_ n1_ n2_ n3_
                      refine start_ (n := 8) (S := fun w' => w'.cell? ⟨gb344, 0, none⟩ = some (.string ((rd_T26 l0 x25_1).f0)) ∧ w'.cell? ⟨gb344, 1, none⟩ = some (.string ((rd_T26 l0 x25_1).f1))) (ds := []) #[false, false, false, false, false, false, false, false] (by kernel_rfl) rfl rfl ⟨(blk_cell BK344.out 0).trans rfl, (blk_cell BK344.out 1).trans rfl⟩ (fun hHeld => ?_); refine with_tabW attr_Encode.tab11 attr_Encode.bits11 (fun HT_ HW_ => ?_)
                      generalize w18.drew = w20 at HO347 HO350 BK344 HB hHeld ⊢
                      refine pure_ (i := 0) (N := some 40) (v := ?_) (a' := ?_) #[true, false, false, false, false, false, false, false] rfl rfl (any_of HT_.out (by kernel_rfl)) (fun _ _ _ h => h) (Or.inl ⟨by rfl, ?_⟩) ?_ ?_
                      rotate_left
                      · intro w'
                        go_simp
                        with_reducible rfl
                      rotate_left
                      · simp only [Act.put, List.setIfInBounds_toArray, List.set_cons_zero, List.set_cons_succ, i64_w, i32_w]
                        rfl
                      refine pure_ (i := 1) (N := some 41) (v := ?_) (a' := ?_) #[true, true, false, false, false, false, false, false] rfl rfl (any_of HT_.out (by kernel_rfl)) (fun _ _ _ h => h) (Or.inl ⟨by rfl, ?_⟩) ?_ ?_
                      rotate_left
                      · intro w'
                        go_simp
                        with_reducible rfl
                      rotate_left
                      · simp only [Act.put, List.setIfInBounds_toArray, List.set_cons_zero, List.set_cons_succ, i64_w, i32_w]
                        rfl
                      refine pure_ (i := 4) (N := some 44) (v := ?_) (a' := ?_) #[true, true, false, false, true, false, false, false] rfl rfl (any_of HT_.out (by kernel_rfl)) (fun _ _ _ h => h) (Or.inl ⟨by rfl, ?_⟩) ?_ ?_
                      rotate_left
                      · intro w'
                        go_simp
                        with_reducible rfl
                      rotate_left
                      · simp only [Act.put, List.setIfInBounds_toArray, List.set_cons_zero, List.set_cons_succ, i64_w, i32_w]
                        rfl
                      refine take_ (i := 2) (N := some 42) (v := ?_) (a' := ?_) #[true, true, true, false, true, false, false, false] rfl rfl (take_ofW HT_.out HW_.out (by kernel_rfl)) (fun _ _ _ h => h) (Or.inl ⟨by rfl, ?_⟩) hHeld ?_ ?_
                      rotate_left
                      · rintro w' ⟨s0, s1⟩
                        go_simp
                        with_reducible rfl
                      rotate_left
                      · simp only [Act.put, List.setIfInBounds_toArray, List.set_cons_zero, List.set_cons_succ, i64_w, i32_w]
                        rfl
                      refine take_ (i := 5) (N := some 45) (v := ?_) (a' := ?_) #[true, true, true, false, true, true, false, false] rfl rfl (take_ofW HT_.out HW_.out (by kernel_rfl)) (fun _ _ _ h => h) (Or.inl ⟨by rfl, ?_⟩) hHeld ?_ ?_
                      rotate_left
                      · rintro w' ⟨s0, s1⟩
                        go_simp
                        with_reducible rfl
                      rotate_left
                      · simp only [Act.put, List.setIfInBounds_toArray, List.set_cons_zero, List.set_cons_succ, i64_w, i32_w]
                        rfl
                      refine one_ (i := 3) (N := some 43) #[true, true, true, true, true, true, false, false] rfl rfl (one_of HT_.out (by kernel_rfl)) (by decide) (fun K hK => ?_)
                      refine Go.Proofs.Ytffaggckhneakaa.Hs.R_append_str_step (w0 := w) w.heap.size (by rfl) (.tmp 40) _ 37 9 5 rfl Try.underlying37 Try.underlying9 info5 v349 y348 ((rd_T26 l0 x25_1).f0) (fun k_ => some k_ ≠ (.slice Ao19 y345.length co19 : Value).ownBlock) rfl rfl ?aO ?aF ?aB ?aS ?aL ?_
                      (case aB => exact (by repeat (first | (with_reducible first | exact HB.out | apply below_alloc | apply pw_below_drewN | apply below_drew1 | refine below_set ?_ GE344.out) | exact HB.out)))
                      (case aF => exact (fun k_ hk => Kd.fresh' (Kd.R_lt (by (with_reducible repeat (first | apply Kd.R_alloc | apply Kd.R_drewN | apply Kd.R_drew)); exact HO347.out)) k_ hk))
                      (case aO => exact (by (with_reducible repeat (first | apply Kd.R_alloc | apply Kd.R_drewN | apply Kd.R_drew)); exact HO350.out))
                      (case aS => exact (below_size (by repeat (first | (with_reducible first | exact HB.out | apply below_alloc | apply pw_below_drewN | apply below_drew1 | refine below_set ?_ GE344.out) | exact HB.out))))
                      (case aL => have := LMc12.out; omega)
                      intro v352 w21 ho hb hg hat
                      rw [← Ny351.out] at ho
                      have n0_ := Aside0.mk (blk_grown (g := gb344) (o := .cells #[.string ((rd_T26 l0 x25_1).f0), .string ((rd_T26 l0 x25_1).f1)] 26 (0, 0)) (by (with_reducible repeat (first | refine blk_drewN ?_ _ | refine blk_drew ?_ | refine blk_alloc ?_ _)); exact BK344.out) hg (Kd.R_ne HO350.out BK344.out (by decide)))
                      have n1_ := Aside0.mk (Kd.R_after (ok := (fun _ => True)) (by (with_reducible repeat (first | apply Kd.R_alloc | apply Kd.R_drewN | apply Kd.R_drew)); exact HO347.out) hg hat)
                      have n2_ := Aside0.mk (hb)
                      have n3_ := Aside0.mk (ho)
                      clear BK344
                      clear HO347
                      clear HB
                      clear HO350
                      have BK344 := n0_
                      have HO347 := n1_
                      have HB := n2_
                      have HO353 := n3_
                      clear n0_ n1_ n2_ n3_
                      clear ho hb hg hat
                      refine hK.out _ _ ⟨(blk_cell BK344.out 0).trans rfl, (blk_cell BK344.out 1).trans rfl⟩ (fun hHeld => ?_)
                      clear hK K
                      refine norm_ (a' := ?_) ?_ ?_
                      rotate_left
                      · show Act.put _ (some 43) _ = _
                        simp only [Act.put, List.setIfInBounds_toArray, List.set_cons_zero, List.set_cons_succ, i64_w, i32_w]
                        rfl
                      refine one_ (i := 6) (N := some 46) #[true, true, true, true, true, true, true, false] rfl rfl (one_of HT_.out (by kernel_rfl)) (by decide) (fun K hK => ?_)
                      refine Go.Proofs.Ytffaggckhneakaa.Hs.R_append_str_step (w0 := w) w.heap.size (by rfl) (.tmp 43) _ 37 9 5 rfl Try.underlying37 Try.underlying9 info5 v352 y351 ((rd_T26 l0 x25_1).f1) (fun k_ => some k_ ≠ (.slice Ao19 y345.length co19 : Value).ownBlock) rfl rfl ?aO ?aF ?aB ?aS ?aL ?_
                      (case aB => exact (by repeat (first | (with_reducible first | exact HB.out | apply below_alloc | apply pw_below_drewN | apply below_drew1 | refine below_set ?_ GE344.out) | exact HB.out)))
                      (case aF => exact (fun k_ hk => Kd.fresh' (Kd.R_lt (by (with_reducible repeat (first | apply Kd.R_alloc | apply Kd.R_drewN | apply Kd.R_drew)); exact HO347.out)) k_ hk))
                      (case aO => exact (by (with_reducible repeat (first | apply Kd.R_alloc | apply Kd.R_drewN | apply Kd.R_drew)); exact HO353.out))
                      (case aS => exact (below_size (by repeat (first | (with_reducible first | exact HB.out | apply below_alloc | apply pw_below_drewN | apply below_drew1 | refine below_set ?_ GE344.out) | exact HB.out))))
                      (case aL => have := LMc13.out; omega)
                      intro v355 w22 ho hb hg hat
                      rw [← Ny354.out] at ho
                      have n0_ := Aside0.mk (blk_grown (g := gb344) (o := .cells #[.string ((rd_T26 l0 x25_1).f0), .string ((rd_T26 l0 x25_1).f1)] 26 (0, 0)) (by (with_reducible repeat (first | refine blk_drewN ?_ _ | refine blk_drew ?_ | refine blk_alloc ?_ _)); exact BK344.out) hg (Kd.R_ne HO353.out BK344.out (by decide)))
                      have n1_ := Aside0.mk (Kd.R_after (ok := (fun _ => True)) (by (with_reducible repeat (first | apply Kd.R_alloc | apply Kd.R_drewN | apply Kd.R_drew)); exact HO347.out) hg hat)
                      have n2_ := Aside0.mk (hb)
                      have n3_ := Aside0.mk (ho)
                      clear BK344
                      clear HO347
                      clear HB
                      clear HO353
                      have BK344 := n0_
                      have HO347 := n1_
                      have HB := n2_
                      have HO356 := n3_
                      clear n0_ n1_ n2_ n3_
                      clear ho hb hg hat
                      refine hK.out _ _ ⟨(blk_cell BK344.out 0).trans rfl, (blk_cell BK344.out 1).trans rfl⟩ (fun hHeld => ?_)
                      clear hK K
                      refine norm_ (a' := ?_) ?_ ?_
                      rotate_left
                      · show Act.put _ (some 46) _ = _
                        simp only [Act.put, List.setIfInBounds_toArray, List.set_cons_zero, List.set_cons_succ, i64_w, i32_w]
                        rfl
                      refine pure_ (i := 7) (N := some 6) (v := ?_) (a' := ?_) #[true, true, true, true, true, true, true, true] rfl rfl (any_of HT_.out (by kernel_rfl)) (fun _ _ _ h => h) (Or.inl ⟨by rfl, ?_⟩) ?_ ?_
                      rotate_left
                      · intro w'
                        go_simp
                        with_reducible rfl
                      rotate_left
                      · simp only [Act.put, List.setIfInBounds_toArray, List.set_cons_zero, List.set_cons_succ, i64_w, i32_w]
                        rfl
                      refine done_ (done_of HT_.out (by kernel_rfl)) ?_
                      try go_wp2
                      go_roundg k1
                      case measure => have := HK1.out; omega
                      case rel => exact ⟨(y354), (wrap64 (x25_1 + 1)), (by first | rfl | (simp; done) | (simp [*]; done)), H', ⟨by have := HK1.out; omega⟩, ⟨by (with_reducible repeat (first | apply Kd.R_alloc | apply Kd.R_drewN | apply Kd.R_drew)); exact Kd.R_mono HO356.out (fun _ hk => trivial)⟩, ⟨by repeat (first | (with_reducible first | exact HB.out | apply below_alloc | apply pw_below_drewN | apply below_drew1 | refine below_set ?_ GE344.out) | exact HB.out)⟩⟩
                    · rw [if_neg c13] at H
                      exact absurd H (by simp)
                  · rw [if_neg c12] at H
                    exact absurd H (by simp)
                · rw [if_neg c11] at H
                  exact absurd H (by simp)
              · rw [if_neg c10] at H
                exact absurd H (by simp)
            · rw [if_neg c9] at H
              exact absurd H (by simp)
          · rw [if_neg c8] at H
            have c8b0 : decide (x25_1 < (l0.length : Int)) = false := decide_eq_false c8
            clear c8
            obtain ⟨ji23, hji23⟩ : ∃ j_ : Int, (wrap64 (252 - (x6_1.length : Int))) = j_ := ⟨_, rfl⟩
            replace H : (if 0 ≤ (ji23) then (if x6_1.length + (ji23 : Int).toNat < 140737488355328 then ((some (x6_1 ++ List.replicate (ji23 : Int).toNat 0 : List Int)).bind fun y357 => ((crc_Sum.f k1 y357).bind fun t360 => ((crc_Bytes.f k1 (IntKind.u64.wrap (t360)) 4).bind fun t361 => (if y357.length + t361.length < 140737488355328 then (some ((y357 ++ t361), 0)) else (none))))) else (none)) else (none)) = some (r1, r2) := by first | (rw [hji23] at H; exact H) | (simp only [hji23] at H ⊢; exact H)
            have hji23w : (IntKind.i64.wrap (252 - (x6_1.length : Int))) = ji23 := (i64_w _).trans hji23
            (try rw [hji23] at c3b0)
            (try rw [hji23] at c3b1)
            (try rw [hji23] at c8b0)
            by_cases c24 : 0 ≤ (ji23)
            · rw [if_pos c24] at H
              have c24b0 := eq_true c24
              have c24b1 : decide (0 ≤ (ji23)) = true := decide_eq_true c24
              clear c24
              by_cases c25 : x6_1.length + (ji23 : Int).toNat < 140737488355328
              · rw [if_pos c25] at H
                have LMc25 := Aside0.mk c25
                clear c25
                obtain ⟨y357, hy357⟩ : ∃ y_ : List Int, y_ = (x6_1 ++ List.replicate (ji23 : Int).toNat 0) := ⟨_, rfl⟩
                replace H : ((crc_Sum.f k1 y357).bind fun t360 => ((crc_Bytes.f k1 (IntKind.u64.wrap (t360)) 4).bind fun t361 => (if y357.length + t361.length < 140737488355328 then (some ((y357 ++ t361), 0)) else (none)))) = some (r1, r2) := by first | (rw [hy357]; with_reducible exact H) | (have H2_ := (Option.bind_some _ _).symm.trans H; rw [hy357]; with_reducible exact H2_) | (have H2_ := (Option.bind_some _ _).symm.trans H; with_reducible exact H2_) | with_reducible exact H | (rw [hy357]; exact H) | exact H
                have Ny357 := Aside0.mk hy357
                clear hy357
                replace H := Option.bind_eq_some_iff.mp H
                obtain ⟨t360, A260, H⟩ := H
                replace H : ((crc_Bytes.f k1 (IntKind.u64.wrap (t360)) 4).bind fun t361 => (if y357.length + t361.length < 140737488355328 then (some ((y357 ++ t361), 0)) else (none))) = some (r1, r2) := H
                have A26 := Aside0.mk A260
                clear A260
                replace H := Option.bind_eq_some_iff.mp H
                obtain ⟨t361, A270, H⟩ := H
                replace H : (if y357.length + t361.length < 140737488355328 then (some ((y357 ++ t361), 0)) else (none)) = some (r1, r2) := H
                have A27 := Aside0.mk A270
                clear A270
                by_cases c28 : y357.length + t361.length < 140737488355328
                · rw [if_pos c28] at H
                  have LMc28 := Aside0.mk c28
                  clear c28
                  obtain ⟨y364, hy364⟩ : ∃ y_ : List Int, y_ = (y357 ++ t361) := ⟨_, rfl⟩
                  replace H : (some (y364, 0)) = some (r1, r2) := by first | (rw [hy364]; with_reducible exact H) | (have H2_ := (Option.bind_some _ _).symm.trans H; rw [hy364]; with_reducible exact H2_) | (have H2_ := (Option.bind_some _ _).symm.trans H; with_reducible exact H2_) | with_reducible exact H | (rw [hy364]; exact H) | exact H
                  have Ny364 := Aside0.mk hy364
                  clear hy364
                  simp only [Option.some.injEq, Prod.mk.injEq] at H
                  obtain ⟨rfl, rfl⟩ := H
                  obtain ⟨Ao29, co29, eo29⟩ := Kd.R_slice HO_6.out
                  subst eo29
                  go_wp2_with (first | (at_builtin; refine Kd.R_append_zeros (Kd.int .u8) (w0 := w) w.heap.size rfl (.tmp 48) (.tmp 51) 37 3 5 (.int .u8 0) 1 rfl Try.underlying37 Try.underlying3 info5 rfl (by decide) (by omega) (.slice Ao29 x6_1.length co29) x6_1 0 (ji23 : Int) (fun _ => True) rfl rfl rfl ?aF ?aO (of_decide_eq_true (by first | (with_reducible assumption) | assumption)) ?aB ?aS ?aL ?_; (case aB => exact (by repeat (first | (with_reducible first | exact HB.out | apply below_alloc | apply pw_below_drewN | apply below_drew1) | exact HB.out))); (case aF => exact (fun _ _ => trivial)); (case aO => exact (by (with_reducible repeat (first | apply Kd.R_alloc | apply Kd.R_drewN | apply Kd.R_drew)); exact HO_6.out)); (case aS => exact (below_size (by repeat (first | (with_reducible first | exact HB.out | apply below_alloc | apply pw_below_drewN | apply below_drew1) | exact HB.out)))); (case aL => have := LMc25.out; omega); intro v358 w30 ho hb hg hat; rw [← Ny357.out] at ho; have n0_ := Aside0.mk (hb); have n1_ := Aside0.mk (ho); clear HB; clear HO_6; have HB := n0_; have HO359 := n1_; clear n0_ n1_; clear ho hb hg hat; obtain ⟨Ao31, co31, eo31⟩ := Kd.R_slice HO359.out; subst eo31) | ((with_reducible refine gate_callee (f := 46) rfl ?_); refine goesL_ (some 55) rfl rfl Try.func46 (by kernel_rfl) rfl #[.slice Ao31 y357.length co31] rfl (by (try simp only [List.map_toArray, List.map_cons, List.map_nil]); first | done | rfl | (simp only [List.length_drop, List.length_take]; rfl)) ?_; (with_reducible refine (crc_Sum.calls k1 _ _ y357 t360 _ ?side1 ?side2 A26.out).mono ?_); (case side1 => repeat (first | exact (Kd.R_reads' HO359.out).2.2 | (with_reducible refine Kd.C_alloc ?_ _) | (with_reducible refine Kd.C_drewN ?_ _) | (with_reducible refine Kd.C_drew ?_))); (case side2 => exact (Kd.R_reads' HO359.out).2.1); rintro e w32 ⟨rfl, hb⟩; refine ⟨_, rfl, ?_⟩; have n0_ := Aside0.mk (Kd.R_below (by (with_reducible repeat (first | apply Kd.R_alloc | apply Kd.R_drewN | apply Kd.R_drew)); exact HO359.out) hb); have n1_ := Aside0.mk (below_step (by repeat (first | (with_reducible first | exact HB.out | apply below_alloc | apply pw_below_drewN | apply below_drew1) | exact HB.out)) hb); clear HO359; clear HB; have HO359 := n0_; have HB := n1_; clear n0_ n1_; (try clear hb); (try clear hb2); (try clear hk); (try clear hi)) | ((with_reducible refine gate_callee (f := 45) rfl ?_); refine goesL_ (some 57) rfl rfl Try.func45 (by kernel_rfl) rfl #[.int .u64 (IntKind.u64.wrap (t360)), .int .i64 4] rfl (by (try simp only [List.map_toArray, List.map_cons, List.map_nil]); first | done | rfl | (simp only [List.length_drop, List.length_take]; rfl)) ?_; (with_reducible refine (crc_Bytes.calls k1 (IntKind.u64.wrap (t360)) 4 t361 _ A27.out).mono ?_); rintro e w33 ⟨v362, rfl, ho0, hb⟩; refine ⟨_, rfl, ?_⟩; have n0_ := Aside0.mk (Kd.R_elder' (by (with_reducible repeat (first | apply Kd.R_alloc | apply Kd.R_drewN | apply Kd.R_drew)); exact HO359.out) (Kd.R_base ho0) hb); have n1_ := Aside0.mk (Kd.R_lower (Kd.R_new' ho0 (Kd.R_lt (by (with_reducible repeat (first | apply Kd.R_alloc | apply Kd.R_drewN | apply Kd.R_drew)); exact HO359.out))) (below_size (by repeat (first | (with_reducible first | exact HB.out | apply below_alloc | apply pw_below_drewN | apply below_drew1) | exact HB.out)))); have n2_ := Aside0.mk (below_step (by repeat (first | (with_reducible first | exact HB.out | apply below_alloc | apply pw_below_drewN | apply below_drew1) | exact HB.out)) hb); clear HO359; clear HB; have HO359 := n0_; have HO363 := n1_; have HB := n2_; clear n0_ n1_ n2_; (try clear hb); (try clear hb2); (try clear hk); (try clear hi); (try clear ho0); obtain ⟨Ao35, co35, eo35⟩ := Kd.R_slice HO363.out; subst eo35) | ((with_reducible refine gate_builtin (b := .append) (xs := #[.tmp 53, .tmp 57]) rfl ?_); at_builtin; refine Kd.R_append_rows (Kd.int .u8) (w0 := w) w.heap.size rfl (.tmp 53) (.tmp 57) 37 5 (.int .u8 0) 1 rfl Try.underlying37 info5 rfl (by decide) (by omega) (.slice Ao31 y357.length co31) y357 t361 _ _ _ (fun k_ => some k_ ≠ (.slice Ao35 t361.length co35 : Value).ownBlock) (fun _ => False) rfl rfl ?aO ?aR (fun _ _ h => h) (fun _ h => h.elim) ?aF ?aB ?aS ?aL ?_; (case aR => repeat (first | exact (Kd.R_reads' HO363.out).2.2 | (with_reducible refine Kd.C_alloc ?_ _) | (with_reducible refine Kd.C_drewN ?_ _) | (with_reducible refine Kd.C_drew ?_))); (case aB => exact (by repeat (first | (with_reducible first | exact HB.out | apply below_alloc | apply pw_below_drewN | apply below_drew1) | exact HB.out))); (case aF => exact (fun k_ hk => Kd.fresh' (Kd.R_lt (by (with_reducible repeat (first | apply Kd.R_alloc | apply Kd.R_drewN | apply Kd.R_drew)); exact HO363.out)) k_ hk)); (case aO => exact (by (with_reducible repeat (first | apply Kd.R_alloc | apply Kd.R_drewN | apply Kd.R_drew)); exact Kd.R_mono HO359.out (fun _ hk => hk.2))); (case aS => exact (below_size (by repeat (first | (with_reducible first | exact HB.out | apply below_alloc | apply pw_below_drewN | apply below_drew1) | exact HB.out)))); (case aL => have := LMc28.out; omega); intro v365 w34 ho hb hg hat; rw [← Ny364.out] at ho; have n0_ := Aside0.mk (Kd.R_after (ok := (fun _ => True)) (by (with_reducible repeat (first | apply Kd.R_alloc | apply Kd.R_drewN | apply Kd.R_drew)); exact HO363.out) hg hat); have n1_ := Aside0.mk (hb); have n2_ := Aside0.mk (ho); clear HO363; clear HB; clear HO359; have HO363 := n0_; have HB := n1_; have HO366 := n2_; clear n0_ n1_ n2_; clear ho hb hg hat))
                  go_ret2
                  exact ⟨_, by first | rfl | (simp [errW_none, errW_some] <;> rfl) | (simp only [← hji23]; first | rfl | (simp [errW_none, errW_some] <;> rfl)) | (simp [*, errW_none, errW_some] <;> rfl), by (with_reducible repeat (first | apply Kd.R_alloc | apply Kd.R_drewN | apply Kd.R_drew)); exact Kd.R_mono HO366.out (fun _ hk => trivial), by repeat (first | (with_reducible first | exact HB.out | apply below_alloc | apply pw_below_drewN | apply below_drew1) | exact HB.out)⟩
                · rw [if_neg c28] at H
                  exact absurd H (by simp)
              · rw [if_neg c25] at H
                exact absurd H (by simp)
            · rw [if_neg c24] at H
              exact absurd H (by simp)
    · replace c4 := Bool.eq_false_iff.mpr c4
      subst c4
      have H1 : (some (([] : List Int), 15)) = some (r1, r2) := by rw [if_neg (show ¬ (false = true) by decide)] at H; exact H
      clear H
      have H := H1
      clear H1
      simp only [Option.some.injEq, Prod.mk.injEq] at H
      obtain ⟨rfl, rfl⟩ := H
      go_enter Try.func21, Try.ntmps21
      go_wp2_with (first | ((with_reducible refine gate_callee (f := 35) rfl ?_); refine goesL_ (some 11) rfl rfl Try.func35 (by kernel_rfl) rfl #[.slice A0 l0.length c0] rfl (by (try simp only [List.map_toArray, List.map_cons, List.map_nil]); first | done | rfl | (simp only [List.length_drop, List.length_take]; rfl)) ?_; (with_reducible refine (attr_check.calls k _ _ l0 false t339 _ ?side1 ?side2 A2.out).mono ?_); (case side1 => repeat (first | exact HR0.out | (with_reducible refine Kd.C_alloc ?_ _) | (with_reducible refine Kd.C_drewN ?_ _) | (with_reducible refine Kd.C_drew ?_))); (case side2 => exact HC0.out); rintro e w36 ⟨rfl, hb⟩; refine ⟨_, rfl, ?_⟩; have n0_ := Aside0.mk (below_step (by repeat (first | (with_reducible first | exact HB.out | apply below_alloc | apply pw_below_drewN | apply below_drew1) | exact HB.out)) hb); clear HB; have HB := n0_; clear n0_; (try clear hb); (try clear hb2); (try clear hk); (try clear hi)))
      go_ret2
      exact ⟨_, by first | rfl | (simp [errW_none, errW_some] <;> rfl) | (simp [*, errW_none, errW_some] <;> rfl), by first | exact Kd.R_nil _ _ _ _ _ | exact Kd.N_nil _ _ _ _ _ | exact Kd.V_nil _ _ _ _ _ | exact Kd.Q_nil _ _ _ _ _ | exact Kd.S_nil _ _ _ _ _, by repeat (first | (with_reducible first | exact HB.out | apply below_alloc | apply pw_below_drewN | apply below_drew1) | exact HB.out)⟩
  · rw [if_neg c3] at H
    have c3b0 : (t339 == 0) = false := beq_eq_false_iff_ne.mpr c3
    have c3b1 : (t339 != 0) = true := bne_iff_ne.mpr c3
    simp only [Option.some.injEq, Prod.mk.injEq] at H
    obtain ⟨rfl, rfl⟩ := H
    go_enter Try.func21, Try.ntmps21
    go_wp2_with (first | ((with_reducible refine gate_callee (f := 35) rfl ?_); refine goesL_ (some 11) rfl rfl Try.func35 (by kernel_rfl) rfl #[.slice A0 l0.length c0] rfl (by (try simp only [List.map_toArray, List.map_cons, List.map_nil]); first | done | rfl | (simp only [List.length_drop, List.length_take]; rfl)) ?_; (with_reducible refine (attr_check.calls k _ _ l0 t338 t339 _ ?side1 ?side2 A2.out).mono ?_); (case side1 => repeat (first | exact HR0.out | (with_reducible refine Kd.C_alloc ?_ _) | (with_reducible refine Kd.C_drewN ?_ _) | (with_reducible refine Kd.C_drew ?_))); (case side2 => exact HC0.out); rintro e w37 ⟨rfl, hb⟩; refine ⟨_, rfl, ?_⟩; have n0_ := Aside0.mk (below_step (by repeat (first | (with_reducible first | exact HB.out | apply below_alloc | apply pw_below_drewN | apply below_drew1) | exact HB.out)) hb); clear HB; have HB := n0_; clear n0_; (try clear hb); (try clear hb2); (try clear hk); (try clear hi)))
    go_ret2
    exact ⟨_, by first | rfl | (simp [errW_none, errW_some] <;> rfl) | (simp [*, errW_none, errW_some] <;> rfl), by first | exact Kd.R_nil _ _ _ _ _ | exact Kd.N_nil _ _ _ _ _ | exact Kd.V_nil _ _ _ _ _ | exact Kd.Q_nil _ _ _ _ _ | exact Kd.S_nil _ _ _ _ _, by repeat (first | (with_reducible first | exact HB.out | apply below_alloc | apply pw_below_drewN | apply below_drew1) | exact HB.out)⟩
end Go.Proofs.Ytffaggckhneakaa.Pr
end
section
namespace Go.Proofs.Ytffaggckhneakaa.At
open Go.RowKit Go.Proofs.YtffaggckhneakaaW.PrintWords Go.Proofs.YtffaggckhneakaaW.PrintMore Go.Proofs.Ytffaggckhneakaa.Pr Go.Proofs.Ytffaggckhneakaa.Od Go.Proofs.Ytffaggckhneakaa.Cr
set_option linter.unusedVariables false
set_option linter.unusedSimpArgs false
theorem fin_ev (m : List E) (hm : right none m = true) (hl : m.length < 4398046511104) : Ev (fun k => attr_Set.fin k m) (if sumL m ≤ 250 then (m, 0) else ([], 15)) := by
  unfold attr_Set.fin
  refine Ev.bind (check_ev m hl) ?_
  unfold checkR
  simp only [if_pos hm]
  by_cases h : sumL m ≤ 250
  · simp only [decide_eq_true h, if_true, if_pos h]
    exact Ev.now _
  · simp only [decide_eq_false h, Bool.false_eq_true, if_false, if_neg h]
    exact Ev.now _
theorem set_ev (l : List E) (x : E) (hl : l.length < 4398046511103) : Ev (fun k => attr_Set.f k l x.f0 x.f1) (setR l x) := by
  unfold attr_Set.f
  refine Ev.bind (check_ev l (by omega)) ?_
  unfold checkR setR
  by_cases hr : right none l = true
  · simp only [if_pos hr, if_true, may_some, Option.bind_some]
    by_cases hx : okE x = true
    · have hx' : mayB x.f0 x.f1 = true := hx
      simp only [hx', if_true, if_pos (show right none l = true ∧ okE x = true from ⟨hr, hx⟩)]
      have hpr := put_right hr hx
      have hpl : (put x l).length ≤ l.length + 1 := put_len
      obtain ⟨A, M, C, rfl, hA, hC, hM⟩ := split (nb x) l ((right_iff l none).1 hr).2.2
      have hput := put_split hA hC hM
      rw [hput] at hpr hpl
      have hfin := fin_ev (A ++ x :: C) hpr (by omega)
      refine Ev.bind (find_ev A M C x.f0 hA hC hM (by omega)) ?_
      have hlen : (A ++ (M ++ C)).length = A.length + (M.length + C.length) := by rw [List.length_append, List.length_append]
      simp only [hput]
      rcases hM with rfl | ⟨m, rfl, hm⟩
      · rw [show (decide (([] : List E) ≠ [])) = false from rfl]
        simp only [Bool.false_eq_true, if_false]
        simp only [if_pos (show 0 ≤ (A.length : Int) ∧ (A.length : Int) ≤ ((A ++ ([] ++ C)).length : Int) ∧ (A ++ ([] ++ C)).length < 4398046511103 by omega)]
        simp only [Int.toNat_natCast, List.nil_append, List.take_left, List.drop_left]
        exact hfin
      · rw [show (decide (([m] : List E) ≠ [])) = true from rfl]
        simp only [if_true]
        simp only [if_pos (show 0 ≤ (A.length : Int) ∧ (A.length : Int) < ((A ++ ([m] ++ C)).length : Int) by rw [hlen]; simp; omega)]
        have e : (A ++ ([m] ++ C)).set (A.length : Int).toNat (⟨x.f0, x.f1⟩ : E) = A ++ x :: C := by
          rw [Int.toNat_natCast, List.set_append_right _ _ (Nat.le_refl _), Nat.sub_self]; rfl
        simp only [e]
        exact hfin
    · have hx' : mayB x.f0 x.f1 = false := by simpa [okE] using hx
      simp only [hx', Bool.false_eq_true, if_false, if_neg (show ¬ (right none l = true ∧ okE x = true) from fun h => hx h.2)]
      exact Ev.now _
  · simp only [if_neg hr, if_neg (show ¬ ((1 : Int) = 0) by decide), if_neg (show ¬ (right none l = true ∧ okE x = true) from fun h => hr h.1)]
    exact Ev.now _
theorem get_ev (l : List E) (s : ByteArray) (hl : l.length < 4398046511104) : Ev (fun k => attr_Get.f k l s) (getR l s.data.toList) := by
  unfold attr_Get.f
  refine Ev.bind (check_ev l hl) ?_
  unfold checkR getR
  by_cases hr : right none l = true
  · simp only [if_pos hr, if_true]
    obtain ⟨A, M, C, rfl, hA, hC, hM⟩ := split s.data.toList l ((right_iff l none).1 hr).2.2
    refine Ev.bind (find_ev A M C s hA hC hM hl) ?_
    rw [get_split hA hC hM]
    rcases hM with rfl | ⟨m, rfl, hm⟩
    · rw [show (decide (([] : List E) ≠ [])) = false from rfl]
      simp only [Bool.false_eq_true, if_false, List.head?_nil]
      exact Ev.now _
    · rw [show (decide (([m] : List E) ≠ [])) = true from rfl]
      have hlt : A.length < (A ++ ([m] ++ C)).length := by simp
      simp only [if_true, List.head?_cons, if_pos (show (0 : Int) ≤ (A.length : Int) by omega), if_pos (show (A.length : Int) < ((A ++ ([m] ++ C)).length : Int) by omega), rdT_get hlt]
      have e : (A ++ ([m] ++ C))[A.length] = m := by simp
      simp only [e]
      exact Ev.now _
  · simp only [if_neg hr, if_neg (show ¬ ((1 : Int) = 0) by decide)]
    exact Ev.now _
def entB (e : E) : List Int := bytesN 1 e.f0.size ++ bytesN 1 e.f1.size ++ bytesOf e.f0 ++ bytesOf e.f1
def bodyL : List E → List Int
  | [] => []
  | e :: l => entB e ++ bodyL l
def headP (l : List E) : List Int := bytesN 2 l.length
def encP (l : List E) : List Int := headP l ++ bodyL l ++ List.replicate (252 - (2 + sumL l)) 0
def encR (l : List E) : List Int × Int := if right none l = true then (if sumL l > 250 then ([], 15) else (encP l ++ bytesN 4 (sumB (encP l)).toNat, 0)) else ([], 1)
theorem entB_len (e : E) : (entB e).length = 2 + e.f0.size + e.f1.size := by
  simp only [entB, List.length_append, bytesN_len, bytesOf_length]
theorem bodyL_len : ∀ l, (bodyL l).length = sumL l
  | [] => rfl
  | e :: l => by rw [bodyL, List.length_append, entB_len, bodyL_len l, sumL]
theorem headP_len (l : List E) : (headP l).length = 2 := by simp [headP, bytesN_len]
theorem encP_len {l : List E} (h : sumL l ≤ 250) : (encP l).length = 252 := by
  rw [encP, List.length_append, List.length_append, headP_len, bodyL_len, List.length_replicate]; omega
theorem encR_len {l : List E} (h : (encR l).2 = 0) : (encR l).1.length = 256 := by
  unfold encR at h ⊢
  by_cases hr : right none l = true
  · rw [if_pos hr] at h ⊢
    by_cases hs : sumL l > 250
    · rw [if_pos hs] at h; cases h
    · rw [if_neg hs, List.length_append, encP_len (by omega), bytesN_len]
  · rw [if_neg hr] at h; cases h
theorem encR_iff {l : List E} : (encR l).2 = 0 ↔ right none l = true ∧ sumL l ≤ 250 := by
  unfold encR
  by_cases hr : right none l = true
  · rw [if_pos hr]
    by_cases hs : sumL l > 250
    · rw [if_pos hs]
      constructor
      · intro h; cases h
      · intro h; omega
    · rw [if_neg hs]
      exact ⟨fun _ => ⟨hr, by omega⟩, fun _ => rfl⟩
  · rw [if_neg hr]
    constructor
    · intro h; cases h
    · intro h; exact absurd h.1 hr
theorem u64n (n : Nat) (h : n < 18446744073709551616) : IntKind.u64.wrap (n : Int) = (n : Int) := by rw [u64w]; omega
theorem two_bytes (a b : Nat) : [((a : Nat) : Int) % 256, ((b : Nat) : Int) % 256] = bytesN 1 a ++ bytesN 1 b := by simp [bytesN]
theorem enc_ev (l : List E) (hl : l.length < 4398046511104) : Ev (fun k => attr_Encode.f k l) (encR l) := by
  unfold attr_Encode.f
  refine Ev.bind (check_ev l hl) ?_
  unfold checkR encR
  by_cases hr : right none l = true
  · simp only [if_pos hr, if_true]
    by_cases hs : sumL l > 250
    · simp only [if_pos hs, decide_eq_false (show ¬ sumL l ≤ 250 by omega), Bool.false_eq_true, if_false]
      exact Ev.now _
    · simp only [if_neg hs, decide_eq_true (show sumL l ≤ 250 by omega), if_true, u64n l.length (by omega)]
      refine Ev.bind (crc_bytes_ev _ 2 (by decide)) ?_
      have hlen : (headP l ++ bodyL l).length = 2 + sumL l := by rw [List.length_append, headP_len, bodyL_len]
      have key : ∀ (n i : Nat) (b : List Int), i + n = l.length → b.length + sumL (l.drop i) ≤ 252 → b ++ bodyL (l.drop i) = headP l ++ bodyL l → Ev (fun k => attr_Encode.l0 k b l (l.length : Int) (i : Int)) (encP l ++ bytesN 4 (sumB (encP l)).toNat, 0) := by
        intro n
        induction n with
        | zero =>
          intro i b hi hb he
          refine Ev.succ ?_
          rw [List.drop_of_length_le (by omega), bodyL, List.append_nil] at he
          subst he
          have ew : wrap64 (252 - ((headP l ++ bodyL l).length : Int)) = ((252 - (2 + sumL l) : Nat) : Int) := by rw [hlen, w64 (by omega) (by omega)]; omega
          have el : (headP l ++ bodyL l).length + (252 - (2 + sumL l)) = 252 := by omega
          simp only [attr_Encode.l0, if_neg (show ¬((i : Int) < (l.length : Int)) by omega), ew, if_pos (show (0 : Int) ≤ ((252 - (2 + sumL l) : Nat) : Int) by omega), Int.toNat_natCast, el, if_pos (show 252 < 140737488355328 by decide), bs]
          refine Ev.bind (crc_sum_ev (encP l) (by rw [encP_len (by omega)]; decide)) ?_
          have hlt := (sumB (encP l)).isLt
          rw [u64n _ (by omega)]
          refine Ev.bind (crc_bytes_ev _ 4 (by decide)) ?_
          have e5 : (headP l ++ bodyL l ++ List.replicate (252 - (2 + sumL l)) 0).length = 252 := encP_len (by omega)
          simp only [bytesN_len, e5, if_pos (show 252 + 4 < 140737488355328 by decide)]
          exact Ev.now _
        | succ n ih =>
          intro i b hi hb he
          refine Ev.succ ?_
          have hil : i < l.length := by omega
          rw [List.drop_eq_getElem_cons hil] at hb he
          simp only [sumL] at hb
          simp only [attr_Encode.l0, if_pos (show ((i : Int) < (l.length : Int)) by omega), if_pos (show (0 : Int) ≤ (i : Int) by omega), rdT_get hil, bs, two_bytes, List.length_append, bytesN_len, bytesOf_length, if_pos (show b.length + (1 + 1) < 140737488355328 by omega), if_pos (show b.length + (1 + 1) + l[i].f0.size < 140737488355328 by omega), if_pos (show b.length + (1 + 1) + l[i].f0.size + l[i].f1.size < 140737488355328 by omega), w64 (show -9223372036854775808 ≤ (i : Int) + 1 by omega) (by omega)]
          refine ih (i + 1) _ (by omega) (by simp only [List.length_append, bytesN_len, bytesOf_length]; omega) ?_
          rw [← he]
          simp only [bodyL, entB, List.append_assoc]
      have := key l.length 0 (headP l) (by omega) (by rw [List.drop_zero, headP_len]; omega) (by rw [List.drop_zero])
      exact this
  · simp only [if_neg hr, if_neg (show ¬ ((1 : Int) = 0) by decide)]
    exact Ev.now _
end Go.Proofs.Ytffaggckhneakaa.At
end
