/- Ve: this session's texts for the one law, put together (part 2 of 2): what its program computes, function by function, and that this answers true; the row stands at the end of the last part. Conditions: those that each theorem names; the last theorem has none. -/
import Derived.Shelf.Strings.Builder1
import Derived.Shelf.Small.Utf8
import Derived.Shelf.Small.Strs
import Derived.Shelf.Small.Wraps
import Derived.Shelf.Strings.BuilderF
import Derived.Shelf.Strings.BuilderK
import Derived.Shelf.Strings.Search1
import Derived.Shelf.Strings.Search2
import Derived.Shelf.Strings.Search3
import Derived.Shelf.LaysM
import Derived.Shelf.Strings.Shaped
import Derived.Shelf.Strings.Prefix
import Derived.Shelf.Unicode.Decode
import Derived.Shelf.Strings.Runes
import Derived.Shelf.Strings.IndexAny
import Derived.Shelf.Strings.AsciiSet
import Derived.Shelf.Strings.IndexAnyAll
import Derived.Shelf.Unicode.DecodeSlow
import Derived.Shelf.Unicode.DecodeAny
import Derived.Shelf.Strings.BuilderCap
import Derived.Test.YtgcboobdaeeanaaDoorProg
import Derived.Shelf.Abstract
import Derived.Shelf.RegionOpen
import Derived.WalkKit
import Derived.OwnWalkIn
import Derived.TacticsInMore
import Derived.LoopNIn
import Derived.LoopIn
import Derived.Outline
import Derived.Below
import Derived.Deep.Draws
import Derived.Deep.AppendLies
import Derived.Maps.AppendAt
import Derived.OwnWalk
import Derived.Laws.BytesArg
import Derived.Laws.MakeOwn
import Derived.Laws.OwnMore
import Derived.Deep.OwnRows
import Derived.Tactics
import Derived.Lib.ConvBytes
import Derived.Laws.Slices
import Derived.KernelRfl
import Derived.RowKit3
import Derived.Deep.LoopGhost
import Derived.Deep.QuietTactic
import Derived.BigQuiet
import Derived.WideLaws
import Derived.Deep.DeepCutAuto
import Derived.Deep.CutBlock
import Derived.Deep.RegionHeld3
import Derived.Laws.Rows
import Derived.Lib.AppendStr
import Derived.ArgAppend
import Derived.Laws.IdiomCopy
import Derived.OrdersHeld
import Derived.Laws.BitsLemmas
import Derived.RowKit
import Derived.BigRegion
import Derived.Lib.IndexLaws
import Derived.Lib.OthersKept
import Derived.Laws.RangeAny
import Derived.LoopN
import Derived.WalkMore
import Derived.Laws.Runes
import Derived.Test.YtgcboobdaeeanaaDoorRows
import Derived.SliceStrings
import Derived.Deep.DeepHandedRow
import Derived.ProofKit
import Derived.OpenShut
import Derived.ShutString
import Derived.ChangeOld
import Derived.SizedLaws
import Derived.Carry
import Derived.Lib.SmallJoins
import Derived.JoinedCond
import Derived.Deep.CondSized
import Derived.LaidMore
import Derived.Lay
import Derived.SevenTiedAt
import Derived.Stop.Joined
import Derived.Deep.DeepWitnessRowRef
import Derived.Test.YtgcboobdaeeanaaDoorTie
import Derived.Test.YtgcboobdaeeanaaDoorCards
import Derived.Test.YtgcboobdaeeanaaDoorVeA
section
namespace Go.Proofs
open Go.Shelf
def Tryd.lays170_ren : Go.Shelf.Ren := ⟨fun | 170 => 21 | n => n, fun | 70 => 40 | 3 => 3 | 0 => 0 | 72 => 43 | 37 => 41 | 5 => 5 | n => n, fun | n => n⟩
theorem Tryd.lays170 : Go.Proofs.Lays.n170 Tryd.prog Tryd.lays170_ren := {
  mixed := by kernel_rfl
  f170 := Tryd.func21.trans (congrArg some (by kernel_rfl))
  t0 := Tryd.underlying0
  a0 := Tryd.isAgg0
  z0 := Tryd.sizeOf0
  v0 := Tryd.zeroValue0
  t3 := Tryd.underlying3
  a3 := Tryd.isAgg3
  z3 := Tryd.sizeOf3
  v3 := Tryd.zeroValue3
  t37 := Tryd.underlying41
  a37 := Tryd.isAgg41
  z37 := Tryd.sizeOf41
  v37 := Tryd.zeroValue41
  t70 := Tryd.underlying40
  a70 := Tryd.isAgg40
  z70 := Tryd.sizeOf40
  v70 := Tryd.zeroValue40
  t72 := Tryd.underlying43
  a72 := Tryd.isAgg43
  z72 := Tryd.sizeOf43
  v72 := Tryd.zeroValue43 }
open Go.RowKit in
theorem Tryd.Builder_Len (B b : Nat) (bs : List Value) (w : World) (h : Lib.IsBuilder 43 5 B b bs w) :
    Calls Tryd.prog 21 #[.pointer (some ⟨b, 0, none⟩)] w fun e w' => e = .returned (.int .i64 bs.length) ∧ w' = w := Any.Builder_Len Tryd.lays170 B b bs w h
def Tryd.lays169_ren : Go.Shelf.Ren := ⟨fun | 169 => 22 | n => n, fun | 70 => 40 | 9 => 9 | 0 => 0 | 72 => 43 | 37 => 41 | 127 => 51 | 3 => 3 | 5 => 5 | n => n, fun | n => n⟩
theorem Tryd.lays169 : Go.Proofs.Lays.n169 Tryd.prog Tryd.lays169_ren := {
  mixed := by kernel_rfl
  f169 := Tryd.func22.trans (congrArg some (by kernel_rfl))
  t0 := Tryd.underlying0
  a0 := Tryd.isAgg0
  z0 := Tryd.sizeOf0
  v0 := Tryd.zeroValue0
  t3 := Tryd.underlying3
  a3 := Tryd.isAgg3
  z3 := Tryd.sizeOf3
  v3 := Tryd.zeroValue3
  t9 := Tryd.underlying9
  a9 := Tryd.isAgg9
  z9 := Tryd.sizeOf9
  v9 := Tryd.zeroValue9
  t37 := Tryd.underlying41
  a37 := Tryd.isAgg41
  z37 := Tryd.sizeOf41
  v37 := Tryd.zeroValue41
  t70 := Tryd.underlying40
  a70 := Tryd.isAgg40
  z70 := Tryd.sizeOf40
  v70 := Tryd.zeroValue40
  t72 := Tryd.underlying43
  a72 := Tryd.isAgg43
  z72 := Tryd.sizeOf43
  v72 := Tryd.zeroValue43
  t127 := Tryd.underlying51
  a127 := Tryd.isAgg51
  z127 := Tryd.sizeOf51
  v127 := Tryd.zeroValue51 }
theorem Tryd.Builder_Extra_169 : Builder.Extra Tryd.prog Tryd.lays169_ren := {
  sizeBuilder := by kernel_rfl
  liesBuilder := by kernel_rfl
  t5 := Tryd.underlying5
  a5 := Tryd.isAgg5
  z5 := Tryd.sizeOf5
  v5 := Tryd.zeroValue5
  infoByte := by kernel_rfl
  cellsByte := by kernel_rfl
  sizeByte := by kernel_rfl
  neB5 := by decide }
open Go.RowKit in
theorem Tryd.Builder_String_any (B b : Nat) (l : List UInt8) (w : World) (h : Lib.IsBuilder 43 5 B b (Lib.byteCells l) w) (hBw : B ≤ w.heap.size) :
    Calls Tryd.prog 22 #[.pointer (some ⟨b, 0, none⟩)] w fun e w' => e = .returned (.string ⟨l.toArray⟩) ∧ Below B w w' := Any.Builder_String_any Tryd.lays169 Tryd.Builder_Extra_169 B b l w h hBw
def Tryd.lays119_ren : Go.Shelf.Ren := ⟨fun | 119 => 45 | n => n, fun | 21 => 21 | 4 => 4 | n => n, fun | n => n⟩
theorem Tryd.lays119 : Go.Proofs.Lays.n119 Tryd.prog Tryd.lays119_ren := {
  mixed := by kernel_rfl
  f119 := Tryd.func45.trans (congrArg some (by kernel_rfl))
  t4 := Tryd.underlying4
  a4 := Tryd.isAgg4
  z4 := Tryd.sizeOf4
  v4 := Tryd.zeroValue4
  t21 := Tryd.underlying21
  a21 := Tryd.isAgg21
  z21 := Tryd.sizeOf21
  v21 := Tryd.zeroValue21 }
theorem Tryd.utf8_ValidRune (r : Int) (w : World) :
    Calls Tryd.prog 45 #[.int .i32 r] w fun e w' => e = .returned (.bool (Lib.validRune r)) ∧ w' = w := Any.utf8_ValidRune Tryd.lays119 r w
def Tryd.lays137_ren : Go.Shelf.Ren := ⟨fun | 137 => 17 | 217 => 25 | 266 => 30 | n => n, fun | 9 => 9 | 5 => 5 | 3 => 3 | n => n, fun | n => n⟩
theorem Tryd.lays137 : Go.Proofs.Lays.n137 Tryd.prog Tryd.lays137_ren := {
  mixed := by kernel_rfl
  f137 := Tryd.func17.trans (congrArg some (by kernel_rfl))
  f217 := Tryd.func25.trans (congrArg some (by kernel_rfl))
  f266 := Tryd.func30.trans (congrArg some (by kernel_rfl))
  t3 := Tryd.underlying3
  a3 := Tryd.isAgg3
  z3 := Tryd.sizeOf3
  v3 := Tryd.zeroValue3
  t5 := Tryd.underlying5
  a5 := Tryd.isAgg5
  z5 := Tryd.sizeOf5
  v5 := Tryd.zeroValue5
  t9 := Tryd.underlying9
  a9 := Tryd.isAgg9
  z9 := Tryd.sizeOf9
  v9 := Tryd.zeroValue9 }
open Go.RowKit in
theorem Tryd.strings_IndexByte (s : ByteArray) (c : Int) (w : World) :
    Calls Tryd.prog 17 #[.string s, .int .u8 c] w fun e w' => e = .returned (.int .i64 (Lib.indexByte s.data.toList c.toNat.toUInt8)) ∧ w' = w := Any.strings_IndexByte Tryd.lays137 s c w
def Tryd.lays103_ren : Go.Shelf.Ren := ⟨fun | 103 => 16 | 210 => 24 | 206 => 29 | n => n, fun | 9 => 9 | 4 => 4 | 24 => 34 | 3 => 3 | n => n, fun | n => n⟩
theorem Tryd.lays103 : Go.Proofs.Lays.n103 Tryd.prog Tryd.lays103_ren := {
  mixed := by kernel_rfl
  f103 := Tryd.func16.trans (congrArg some (by kernel_rfl))
  f206 := Tryd.func29.trans (congrArg some (by kernel_rfl))
  f210 := Tryd.func24.trans (congrArg some (by kernel_rfl))
  t3 := Tryd.underlying3
  a3 := Tryd.isAgg3
  z3 := Tryd.sizeOf3
  v3 := Tryd.zeroValue3
  t4 := Tryd.underlying4
  a4 := Tryd.isAgg4
  z4 := Tryd.sizeOf4
  v4 := Tryd.zeroValue4
  t9 := Tryd.underlying9
  a9 := Tryd.isAgg9
  z9 := Tryd.sizeOf9
  v9 := Tryd.zeroValue9
  t24 := Tryd.underlying34
  a24 := Tryd.isAgg34
  z24 := Tryd.sizeOf34
  v24 := Tryd.zeroValue34 }
open Go.RowKit in
theorem Tryd.strings_CutPrefix (s p : ByteArray) (w : World) :
    Calls Tryd.prog 16 #[.string s, .string p] w fun e w' => e = .returned (.tuple #[.string ⟨(Lib.trimPrefix s.data.toList p.data.toList).toArray⟩, .bool (Lib.hasPrefix s.data.toList p.data.toList)]) ∧ w' = w := Any.strings_CutPrefix Tryd.lays103 s p w
def Tryd.lays143_ren : Go.Shelf.Ren := ⟨fun | 143 => 33 | 219 => 37 | 217 => 25 | 225 => 42 | 224 => 43 | 267 => 44 | 266 => 30 | 314 => 46 | n => n, fun | 9 => 9 | 3 => 3 | 4 => 4 | 5 => 5 | 46 => 65 | 146 => 73 | 51 => 72 | n => n, fun | 1 => 0 | n => n⟩
theorem Tryd.lays143 : Go.Proofs.Lays.n143 Tryd.prog Tryd.lays143_ren := {
  mixed := by kernel_rfl
  f143 := Tryd.func33.trans (congrArg some (by kernel_rfl))
  f217 := Tryd.func25.trans (congrArg some (by kernel_rfl))
  f219 := Tryd.func37.trans (congrArg some (by kernel_rfl))
  f224 := Tryd.func43.trans (congrArg some (by kernel_rfl))
  f225 := Tryd.func42.trans (congrArg some (by kernel_rfl))
  f266 := Tryd.func30.trans (congrArg some (by kernel_rfl))
  f267 := Tryd.func44.trans (congrArg some (by kernel_rfl))
  f314 := Tryd.func46.trans (congrArg some (by kernel_rfl))
  t3 := Tryd.underlying3
  a3 := Tryd.isAgg3
  z3 := Tryd.sizeOf3
  v3 := Tryd.zeroValue3
  t4 := Tryd.underlying4
  a4 := Tryd.isAgg4
  z4 := Tryd.sizeOf4
  v4 := Tryd.zeroValue4
  t5 := Tryd.underlying5
  a5 := Tryd.isAgg5
  z5 := Tryd.sizeOf5
  v5 := Tryd.zeroValue5
  t9 := Tryd.underlying9
  a9 := Tryd.isAgg9
  z9 := Tryd.sizeOf9
  v9 := Tryd.zeroValue9
  t46 := Tryd.underlying65
  a46 := Tryd.isAgg65
  z46 := Tryd.sizeOf65
  v46 := Tryd.zeroValue65
  t51 := Tryd.underlying72
  a51 := Tryd.isAgg72
  z51 := Tryd.sizeOf72
  v51 := Tryd.zeroValue72
  t146 := Tryd.underlying73
  a146 := Tryd.isAgg73
  z146 := Tryd.sizeOf73
  v146 := Tryd.zeroValue73
  g1 := by kernel_rfl }
open Go.RowKit Go.Lib in
theorem Tryd.strings_Index_one (s : ByteArray) (c : UInt8) (w : World) :
    Calls Tryd.prog 33 #[.string s, .string ⟨#[c]⟩] w fun e w' => e = .returned (.int .i64 (Lib.indexByte s.data.toList c)) ∧ w' = w := Any.strings_Index_one Tryd.lays143 s c w
def Tryd.lays152_ren : Go.Shelf.Ren := ⟨fun | 152 => 38 | 137 => 17 | 119 => 45 | 224 => 43 | 225 => 42 | 217 => 25 | 266 => 30 | n => n, fun | 9 => 9 | 21 => 21 | 3 => 3 | 4 => 4 | 5 => 5 | 0 => 0 | 46 => 65 | n => n, fun | n => n⟩
theorem Tryd.lays152 : Go.Proofs.Lays.n152 Tryd.prog Tryd.lays152_ren := {
  mixed := by kernel_rfl
  f119 := Tryd.func45.trans (congrArg some (by kernel_rfl))
  f137 := Tryd.func17.trans (congrArg some (by kernel_rfl))
  f152 := Tryd.func38.trans (congrArg some (by kernel_rfl))
  f217 := Tryd.func25.trans (congrArg some (by kernel_rfl))
  f224 := Tryd.func43.trans (congrArg some (by kernel_rfl))
  f225 := Tryd.func42.trans (congrArg some (by kernel_rfl))
  f266 := Tryd.func30.trans (congrArg some (by kernel_rfl))
  t0 := Tryd.underlying0
  a0 := Tryd.isAgg0
  z0 := Tryd.sizeOf0
  v0 := Tryd.zeroValue0
  t3 := Tryd.underlying3
  a3 := Tryd.isAgg3
  z3 := Tryd.sizeOf3
  v3 := Tryd.zeroValue3
  t4 := Tryd.underlying4
  a4 := Tryd.isAgg4
  z4 := Tryd.sizeOf4
  v4 := Tryd.zeroValue4
  t5 := Tryd.underlying5
  a5 := Tryd.isAgg5
  z5 := Tryd.sizeOf5
  v5 := Tryd.zeroValue5
  t9 := Tryd.underlying9
  a9 := Tryd.isAgg9
  z9 := Tryd.sizeOf9
  v9 := Tryd.zeroValue9
  t21 := Tryd.underlying21
  a21 := Tryd.isAgg21
  z21 := Tryd.sizeOf21
  v21 := Tryd.zeroValue21
  t46 := Tryd.underlying65
  a46 := Tryd.isAgg65
  z46 := Tryd.sizeOf65
  v46 := Tryd.zeroValue65 }
open Go.RowKit Go.Lib in
theorem Tryd.strings_IndexRune_ascii (s : ByteArray) (r : Int) (w : World) (h0 : 0 ≤ r) (h1 : r < 128) :
    Calls Tryd.prog 38 #[.string s, .int .i32 r] w fun e w' => e = .returned (.int .i64 (Lib.indexByte s.data.toList r.toNat.toUInt8)) ∧ w' = w := Any.strings_IndexRune_ascii Tryd.lays152 s r w h0 h1
def Tryd.lays226_ren : Go.Shelf.Ren := ⟨fun | 226 => 39 | n => n, fun | 3 => 3 | 4 => 4 | n => n, fun | n => n⟩
theorem Tryd.lays226 : Go.Proofs.Lays.n226 Tryd.prog Tryd.lays226_ren := {
  mixed := by kernel_rfl
  f226 := Tryd.func39.trans (congrArg some (by kernel_rfl))
  t3 := Tryd.underlying3
  a3 := Tryd.isAgg3
  z3 := Tryd.sizeOf3
  v3 := Tryd.zeroValue3
  t4 := Tryd.underlying4
  a4 := Tryd.isAgg4
  z4 := Tryd.sizeOf4
  v4 := Tryd.zeroValue4 }
open Go.RowKit Go.Lib in
theorem Tryd.strings_shouldUseASCIISet (n : Int) (w : World) :
    Calls Tryd.prog 39 #[.int .i64 n] w fun e w' => e = .returned (.bool (decide (8 < n))) ∧ w' = w := Any.strings_shouldUseASCIISet Tryd.lays226 n w
def Tryd.lays153_ren : Go.Shelf.Ren := ⟨fun | 153 => 34 | 152 => 38 | 226 => 39 | 227 => 40 | 228 => 41 | 137 => 17 | 119 => 45 | 224 => 43 | 225 => 42 | 217 => 25 | 266 => 30 | n => n, fun | 9 => 9 | 3 => 3 | 4 => 4 | 5 => 5 | 21 => 21 | 117 => 61 | 116 => 60 | 0 => 0 | 46 => 65 | 124 => 71 | n => n, fun | n => n⟩
theorem Tryd.lays153 : Go.Proofs.Lays.n153 Tryd.prog Tryd.lays153_ren := {
  mixed := by kernel_rfl
  f119 := Tryd.func45.trans (congrArg some (by kernel_rfl))
  f137 := Tryd.func17.trans (congrArg some (by kernel_rfl))
  f152 := Tryd.func38.trans (congrArg some (by kernel_rfl))
  f153 := Tryd.func34.trans (congrArg some (by kernel_rfl))
  f217 := Tryd.func25.trans (congrArg some (by kernel_rfl))
  f224 := Tryd.func43.trans (congrArg some (by kernel_rfl))
  f225 := Tryd.func42.trans (congrArg some (by kernel_rfl))
  f226 := Tryd.func39.trans (congrArg some (by kernel_rfl))
  f227 := Tryd.func40.trans (congrArg some (by kernel_rfl))
  f228 := Tryd.func41.trans (congrArg some (by kernel_rfl))
  f266 := Tryd.func30.trans (congrArg some (by kernel_rfl))
  t0 := Tryd.underlying0
  a0 := Tryd.isAgg0
  z0 := Tryd.sizeOf0
  v0 := Tryd.zeroValue0
  t3 := Tryd.underlying3
  a3 := Tryd.isAgg3
  z3 := Tryd.sizeOf3
  v3 := Tryd.zeroValue3
  t4 := Tryd.underlying4
  a4 := Tryd.isAgg4
  z4 := Tryd.sizeOf4
  v4 := Tryd.zeroValue4
  t5 := Tryd.underlying5
  a5 := Tryd.isAgg5
  z5 := Tryd.sizeOf5
  v5 := Tryd.zeroValue5
  t9 := Tryd.underlying9
  a9 := Tryd.isAgg9
  z9 := Tryd.sizeOf9
  v9 := Tryd.zeroValue9
  t21 := Tryd.underlying21
  a21 := Tryd.isAgg21
  z21 := Tryd.sizeOf21
  v21 := Tryd.zeroValue21
  t46 := Tryd.underlying65
  a46 := Tryd.isAgg65
  z46 := Tryd.sizeOf65
  v46 := Tryd.zeroValue65
  t116 := Tryd.underlying60
  a116 := Tryd.isAgg60
  z116 := Tryd.sizeOf60
  t117 := Tryd.underlying61
  a117 := Tryd.isAgg61
  z117 := Tryd.sizeOf61
  v117 := Tryd.zeroValue61
  t124 := Tryd.underlying71
  a124 := Tryd.isAgg71
  z124 := Tryd.sizeOf71
  v124 := Tryd.zeroValue71 }
open Go.RowKit Go.Lib in
theorem Tryd.strings_IndexAny_long (hv116 : ∀ w, (zeroValue 60).run Tryd.prog w = .ok (.agg (Array.replicate 256 (.bool false))) w) (s chars : ByteArray) (w : World) (h2 : 2 ≤ chars.size) (h8 : 8 < s.size) (hs : s.size < 4294967281) (hcs : chars.size < 4294967281) (hascii : ∀ (j : Nat) b, chars.data.toList[j]? = some b → b.toNat < 128) :
    Calls Tryd.prog 34 #[.string s, .string chars] w fun e w' => e = .returned (.int .i64 (Lib.indexAny s.data.toList chars.data.toList)) ∧ w' = ((w.alloc (.cells (Lib.setCells chars.data.toList) 60)).alloc (.cells (Lib.setCells chars.data.toList) 60)) := Any.strings_IndexAny_long Tryd.lays153 hv116 (by kernel_rfl) s chars w h2 h8 hs hcs hascii
def Tryd.lays150_ren : Go.Shelf.Ren := ⟨fun | 150 => 27 | 153 => 34 | 152 => 38 | 226 => 39 | 227 => 40 | 228 => 41 | 137 => 17 | 119 => 45 | 224 => 43 | 225 => 42 | 217 => 25 | 266 => 30 | n => n, fun | 9 => 9 | 4 => 4 | 3 => 3 | 5 => 5 | 21 => 21 | 117 => 61 | 116 => 60 | 0 => 0 | 46 => 65 | 124 => 71 | n => n, fun | n => n⟩
theorem Tryd.lays150 : Go.Proofs.Lays.n150 Tryd.prog Tryd.lays150_ren := {
  mixed := by kernel_rfl
  f119 := Tryd.func45.trans (congrArg some (by kernel_rfl))
  f137 := Tryd.func17.trans (congrArg some (by kernel_rfl))
  f150 := Tryd.func27.trans (congrArg some (by kernel_rfl))
  f152 := Tryd.func38.trans (congrArg some (by kernel_rfl))
  f153 := Tryd.func34.trans (congrArg some (by kernel_rfl))
  f217 := Tryd.func25.trans (congrArg some (by kernel_rfl))
  f224 := Tryd.func43.trans (congrArg some (by kernel_rfl))
  f225 := Tryd.func42.trans (congrArg some (by kernel_rfl))
  f226 := Tryd.func39.trans (congrArg some (by kernel_rfl))
  f227 := Tryd.func40.trans (congrArg some (by kernel_rfl))
  f228 := Tryd.func41.trans (congrArg some (by kernel_rfl))
  f266 := Tryd.func30.trans (congrArg some (by kernel_rfl))
  t0 := Tryd.underlying0
  a0 := Tryd.isAgg0
  z0 := Tryd.sizeOf0
  v0 := Tryd.zeroValue0
  t3 := Tryd.underlying3
  a3 := Tryd.isAgg3
  z3 := Tryd.sizeOf3
  v3 := Tryd.zeroValue3
  t4 := Tryd.underlying4
  a4 := Tryd.isAgg4
  z4 := Tryd.sizeOf4
  v4 := Tryd.zeroValue4
  t5 := Tryd.underlying5
  a5 := Tryd.isAgg5
  z5 := Tryd.sizeOf5
  v5 := Tryd.zeroValue5
  t9 := Tryd.underlying9
  a9 := Tryd.isAgg9
  z9 := Tryd.sizeOf9
  v9 := Tryd.zeroValue9
  t21 := Tryd.underlying21
  a21 := Tryd.isAgg21
  z21 := Tryd.sizeOf21
  v21 := Tryd.zeroValue21
  t46 := Tryd.underlying65
  a46 := Tryd.isAgg65
  z46 := Tryd.sizeOf65
  v46 := Tryd.zeroValue65
  t116 := Tryd.underlying60
  a116 := Tryd.isAgg60
  z116 := Tryd.sizeOf60
  t117 := Tryd.underlying61
  a117 := Tryd.isAgg61
  z117 := Tryd.sizeOf61
  v117 := Tryd.zeroValue61
  t124 := Tryd.underlying71
  a124 := Tryd.isAgg71
  z124 := Tryd.sizeOf71
  v124 := Tryd.zeroValue71 }
open Go.RowKit Go.Lib in
theorem Tryd.strings_ContainsAny (hv116 : ∀ w, (zeroValue 60).run Tryd.prog w = .ok (.agg (Array.replicate 256 (.bool false))) w) (s chars : ByteArray) (w : World) (hs : s.size < 4294967281) (hcs : chars.size < 4294967281) (has : ∀ (j : Nat) b, s.data.toList[j]? = some b → b.toNat < 128) (hac : ∀ (j : Nat) b, chars.data.toList[j]? = some b → b.toNat < 128) :
    Calls Tryd.prog 27 #[.string s, .string chars] w fun e w' => e = .returned (.bool (Lib.containsAny s.data.toList chars.data.toList)) ∧ Below w.heap.size w w' := Any.strings_ContainsAny Tryd.lays150 hv116 (by kernel_rfl) s chars w hs hcs has hac
end Go.Proofs
end
section
namespace Go.Proofs.YtgcboobdaeeanaaDoor.Sq
open Go Go.RowKit Go.Shelf
attribute [local go_sem] Oper.semAt_some
set_option linter.unusedVariables false
set_option linter.unusedSimpArgs false
def left (bs : Nat) (W : World) : Nat := match W.cell? ⟨bs, 0, none⟩ with | some (.string r) => r.size | _ => 0
theorem left_eq {bs : Nat} {W : World} {r : ByteArray} {t : TypeId} (h : Boxed W bs t (.string r)) : left bs W = r.size := by unfold left; rw [h.cell]
set_option maxRecDepth 100000 in
set_option maxHeartbeats 4000000 in
theorem seq_in (n : Nat) (hn : 1 ≤ n) (l bp bs bv : Nat) (hd1 : bp ≠ bs) (hd2 : bv ≠ bs) (s0 : ByteArray) (hs0 : s0.size ≤ 4611686018427387904) (I : List ByteArray → World → Prop) (R : World → Prop) (Ix : Code → List ByteArray → World → Prop) (Rx : Code → World → Prop) (Kp : World → World → Prop)
    (hIb : ∀ pre W v v', I pre W → Boxed W bs 9 v → I pre (W.setCell ⟨bs, 0, none⟩ v')) (hRb : ∀ W v', R W → R (W.setCell ⟨bs, 0, none⟩ v'))
    (hKp : ∀ W W', Kp W W' → W'.heap[bp]? = W.heap[bp]? ∧ W'.heap[bs]? = W.heap[bs]? ∧ W'.heap[bv]? = W.heap[bv]?)
    (hY : ∀ pre x W1, I pre W1 → R W1 → pre.length < (pieces s0).length → YieldAt Fence.wide (n - 1) Tryd.prog l #[.string x] W1 fun e W' =>
        (e = .returned (.bool true) ∧ I (pre ++ [x]) W' ∧ R W' ∧ Kp W1 W') ∨ (e = .returned (.bool false) ∧ ∃ c, Ix c (pre ++ [x]) W' ∧ Rx c W'))
    (W : World) (hp : Boxed W bp 9 (.string ⟨#[47]⟩)) (hs : Boxed W bs 9 (.string s0)) (hv : Boxed W bv 3 (.int .i64 0)) (h0 : I [] W) (hr0 : R W) :
    CallsIn Fence.wide n Tryd.prog 31 #[.func (.yield l) #[] #[], .pointer (some ⟨bp, 0, none⟩), .pointer (some ⟨bs, 0, none⟩), .pointer (some ⟨bv, 0, none⟩)] W fun e W' => (∃ v, e = .returned v) ∧
      ((∃ xs, xs = pieces s0 ∧ I xs W' ∧ R W') ∨ (∃ c pre, pre <+: pieces s0 ∧ Ix c pre W' ∧ Rx c W')) := by
  refine callsIn_of_wp Tryd.func31 rfl trivial ?_ rfl
  simp only [Tryd.ntmps31, List.size_toArray, List.length_cons, List.length_nil, Nat.reduceAdd, Nat.reduceSub, Array.replicate_succ, Array.replicate_zero, List.push_toArray, List.append_toArray, List.nil_append, List.cons_append]
  have hcp := hp.cell
  have hcs := hs.cell
  have hcv := hv.cell
  gi_wp2
  clear hcp hcs hcv
  gi_loopw [7] (fun _ wr => ∃ (pre : List ByteArray) (rest : ByteArray), pieces s0 = pre ++ pieces rest ∧ rest.size ≤ s0.size ∧ Boxed wr bp 9 (.string ⟨#[47]⟩) ∧ Boxed wr bs 9 (.string rest) ∧ Boxed wr bv 3 (.int .i64 0) ∧ I pre wr ∧ R wr)
    (fun _ wr => left bs wr)
  case atStart => exact ⟨[], s0, rfl, Nat.le_refl _, hp, hs, hv, h0, hr0⟩
  case round =>
    obtain ⟨pre, rest, hx, hsz, hbp, hbs, hbv, hi, hr⟩ := hrel
    obtain ⟨iv, hiv⟩ : ∃ iv, Lib.indexByte rest.data.toList 47 = iv := ⟨_, rfl⟩
    have hcp := hbp.cell
    have hcs := hbs.cell
    have hcv := hbv.cell
    have hfs := hbs.frozen
    by_cases hneg : iv < 0
    · have hnb : decide (iv < 0) = true := decide_eq_true hneg
      have hpc : pieces rest = [rest] := pieces_none (by rw [hiv]; exact hneg)
      obtain ⟨fn, tmps, assign, body, hy, hRd⟩ := hY pre rest wr hi hr (by rw [hx, hpc]; simp)
      gi_wp2_with (refine ⟨trivial, ?_⟩; gi_at_call 33; refine (callsIn_wide.2 (Tryd.strings_Index_one rest 47 _)).mono ?_; rintro e w' ⟨rfl, rfl⟩; rw [hiv])
      refine hRd.mono ?_
      rintro e W3 (⟨rfl, hi3, hr3, hk3⟩ | ⟨rfl, c, hx3, hrx3⟩)
      · gi_wp2
        go_end0
        exact ⟨⟨_, rfl⟩, .inl ⟨_, by rw [hx, hpc], hi3, hr3⟩⟩
      · gi_wp2
        go_end0
        exact ⟨⟨_, rfl⟩, .inr ⟨c, _, by rw [hx, hpc]; exact List.prefix_rfl, hx3, hrx3⟩⟩
    · have hnb : decide (iv < 0) = false := decide_eq_false hneg
      obtain ⟨i, rfl⟩ : ∃ i : Nat, iv = (i : Int) := ⟨iv.toNat, by omega⟩
      obtain ⟨hil, hpc⟩ := pieces_some hiv
      have hw0 : wrap64 (i : Int) = (i : Int) := by unfold wrap64; omega
      have hw1 : wrap64 ((i : Int) + 1) = (i : Int) + 1 := by unfold wrap64; omega
      obtain ⟨fr, hfr⟩ : ∃ fr, rest.extract 0 i = fr := ⟨_, rfl⟩
      obtain ⟨nx, hnx⟩ : ∃ nx, rest.extract (i + 1) rest.size = nx := ⟨_, rfl⟩
      have hnsz : nx.size = rest.size - (i + 1) := by rw [← hnx, ext_size]
      rw [hfr, hnx] at hpc
      obtain ⟨fn, tmps, assign, body, hy, hRd⟩ := hY pre fr wr hi hr (by rw [hx, hpc]; simp)
      gi_wp2_with (refine ⟨trivial, ?_⟩; gi_at_call 33; refine (callsIn_wide.2 (Tryd.strings_Index_one rest 47 _)).mono ?_; rintro e w' ⟨rfl, rfl⟩; rw [hiv])
      refine hRd.mono ?_
      clear hcp hcs hcv hfs
      rintro e W3 (⟨rfl, hi3, hr3, hk3⟩ | ⟨rfl, c, hx3, hrx3⟩)
      · obtain ⟨k1, k2, k3⟩ := hKp _ _ hk3
        have hbp3 : Boxed W3 bp 9 (.string ⟨#[47]⟩) := k1.trans hbp
        have hbs3 : Boxed W3 bs 9 (.string rest) := k2.trans hbs
        have hbv3 : Boxed W3 bv 3 (.int .i64 0) := k3.trans hbv
        have hcp := hbp3.cell
        have hcs := hbs3.cell
        have hcv := hbv3.cell
        have hfs := hbs3.frozen
        have hxl : (i : Int) + 1 ≤ (rest.size : Int) := by omega
        gi_wp2
        go_roundw
        case rel => exact ⟨pre ++ [fr], nx, by rw [hx, hpc]; simp, by omega, (Below.heap_setCell W3 ⟨bs, 0, none⟩ _ bp hd1).trans hbp3, hbs3.set _, (Below.heap_setCell W3 ⟨bs, 0, none⟩ _ bv hd2).trans hbv3, hIb _ _ _ _ hi3 hbs3, hRb _ _ hr3⟩
        case measure => rw [left_eq (hbs3.set _), left_eq hbs]; omega
      · gi_wp2
        refine bodyPost_ret (results_none rfl _ _ _) rfl ?_
        exact ⟨⟨_, rfl⟩, .inr ⟨c, _, ⟨pieces nx, by rw [hx, hpc]; simp⟩, hx3, hrx3⟩⟩
end Go.Proofs.YtgcboobdaeeanaaDoor.Sq
end
section
namespace Go.Proofs.YtgcboobdaeeanaaDoor.Pr
open Go.RowKit Go.Proofs.YtgcboobdaeeanaaDoorW.PrintWords Go.Proofs.YtgcboobdaeeanaaDoorW.PrintLast Go.Proofs.YtgcboobdaeeanaaDoorW.PrintMore
attribute [local go_sem] max2_int min2_int max_two min_two max_three min_three max_four min_four
attribute [local go_sem] Go.Proofs.YtgcboobdaeeanaaDoor.Hl.str_geq Go.Proofs.YtgcboobdaeeanaaDoor.Hl.str_gtr Go.Proofs.YtgcboobdaeeanaaDoor.Hl.str_leq
set_option linter.unusedVariables false
set_option linter.unusedSimpArgs false
def errW : Option Int → Value
  | none => .nilIface
  | some c => .iface 0 (.int .i64 c)
theorem errW_none : errW none = .nilIface := rfl
theorem errW_some (c : Int) : errW (some c) = .iface 0 (.int .i64 c) := rfl
theorem info9 : (Tryd.prog.info? 9).map (fun i => (i.zero, i.size, i.bytes)) = some (some (.string ⟨#[]⟩), 1, 16) := by kernel_rfl
end Go.Proofs.YtgcboobdaeeanaaDoor.Pr
end
section
namespace Go.Proofs.YtgcboobdaeeanaaDoor.Sq
open Go Go.RowKit Go.Shelf Go.Proofs.YtgcboobdaeeanaaDoorW.PrintWords
set_option linter.unusedVariables false
set_option linter.unusedSimpArgs false
structure M (n0 : Nat) (w : World) (vp : Value) (dv : Bool) (ps : List ByteArray) (W : World) : Prop where
  b2 : Boxed W n0 23 (.slice none 0 0)
  b3 : Boxed W (n0 + 1) 4 (.bool false)
  b4 : Boxed W (n0 + 1 + 1) 24 (.int .i64 0)
  bp : Boxed W (n0 + 1 + 1 + 1) 23 vp
  bd : Boxed W (n0 + 1 + 1 + 1 + 1) 4 (.bool dv)
  row : W.ownsRow (n0 + 8) 9 1 vp ps.length (ps.map Value.string)
  bel : Below n0 w W
  sz : n0 + 8 ≤ W.heap.size
theorem own_ge {W : World} {base : Nat} {e : TypeId} {size : Nat} {v : Value} {k : Nat} {xs : List Value} (h : W.ownsRow base e size v k xs) : ∀ g, v.ownBlock = some g → base ≤ g := by
  intro g hg
  rcases h.2 with ⟨rfl, _⟩ | ⟨g', cap, cur, rfl, hb, _⟩
  · simp [Value.ownBlock] at hg
  · have : g' = g := by simpa [Value.ownBlock] using hg
    omega
theorem own_keep {W W' : World} {base : Nat} {e : TypeId} {size : Nat} {v : Value} {k : Nat} {xs : List Value} (h : W.ownsRow base e size v k xs) {row : Option Nat} (hg : W.grownBy W' row) (hne : ∀ g, v.ownBlock = some g → row ≠ some g) : W'.ownsRow base e size v k xs := by
  refine h.kept hg ?_
  rcases h.2 with ⟨rfl, _⟩ | ⟨g, cap, cur, rfl, hb, _⟩
  · exact .inl rfl
  · exact .inr (fun e' => hne g (by simp [Value.ownBlock]) (by rw [← e']; simp [Value.ownBlock]))
theorem M.grown {n0 : Nat} {w : World} {vp : Value} {dv : Bool} {ps : List ByteArray} {W W' : World} (h : M n0 w vp dv ps W) {row : Option Nat} (hg : W.grownBy W' row) (hr : ∀ r, row = some r → n0 + 5 ≤ r ∧ vp.ownBlock ≠ some r) : M n0 w vp dv ps W' := by
  have bx : ∀ {k t v}, k < n0 + 5 → Boxed W k t v → Boxed W' k t v := fun hk hb => hb.kept hg (fun e => by have := (hr _ e.symm).1; omega)
  exact ⟨bx (by omega) h.b2, bx (by omega) h.b3, bx (by omega) h.b4, bx (by omega) h.bp, bx (by omega) h.bd, own_keep h.row hg (fun g hv e => (hr g e).2 hv), h.bel.grown hg (by have := h.sz; omega) (fun k e => by have := (hr k e).1; omega), Nat.le_trans h.sz hg.size⟩
theorem M.box {n0 : Nat} {w : World} {vp : Value} {dv : Bool} {ps : List ByteArray} {W : World} (h : M n0 w vp dv ps W) (b : Nat) (v : Value) (h1 : n0 + 5 ≤ b) (h2 : b < n0 + 8) : M n0 w vp dv ps (W.setCell ⟨b, 0, none⟩ v) :=
  h.grown (grownBy_setCell' W b v) (fun r e => by cases e; exact ⟨h1, fun e => by have := own_ge h.row _ e; omega⟩)
theorem other {W : World} {k b : Nat} {t : TypeId} {u : Value} (h : Boxed W k t u) (hne : k ≠ b) (v : Value) : Boxed (W.setCell ⟨b, 0, none⟩ v) k t u := (Below.heap_setCell W ⟨b, 0, none⟩ v k hne).trans h
theorem M.dir {n0 : Nat} {w : World} {vp : Value} {dv : Bool} {ps : List ByteArray} {W : World} (h : M n0 w vp dv ps W) (dv' : Bool) : M n0 w vp dv' ps (W.setCell ⟨n0 + 1 + 1 + 1 + 1, 0, none⟩ (.bool dv')) :=
  ⟨other h.b2 (by omega) _, other h.b3 (by omega) _, other h.b4 (by omega) _, other h.bp (by omega) _, h.bd.set _, own_keep h.row (grownBy_setCell' W _ _) (fun g hv e => by have := own_ge h.row g hv; have := Option.some.inj e; omega), h.bel.setCell (p := ⟨n0 + 1 + 1 + 1 + 1, 0, none⟩) (show n0 ≤ n0 + 1 + 1 + 1 + 1 by omega) _, by have := h.sz; simpa [World.setCell] using this⟩
theorem M.app {n0 : Nat} {w : World} {vp v' : Value} {dv : Bool} {ps : List ByteArray} {x : ByteArray} {W w1 : World} {tmp : Obj} (h : M n0 w vp dv ps W) (hown' : w1.ownsRow (n0 + 8) 9 1 v' (ps.length + 1) (ps.map Value.string ++ [.string x])) (hgrow : (W.alloc tmp).grownBy w1 vp.ownBlock) :
    Boxed w1 (n0 + 1 + 1 + 1) 23 vp ∧ M n0 w v' dv (ps ++ [x]) (w1.setCell ⟨n0 + 1 + 1 + 1, 0, none⟩ v') := by
  have bx : ∀ {k t v}, k < n0 + 5 → Boxed W k t v → Boxed w1 k t v := fun hk hb => (hb.alloc tmp).kept hgrow (fun e => by have := own_ge h.row _ e.symm; omega)
  have hrow2 : w1.ownsRow (n0 + 8) 9 1 v' (ps ++ [x]).length ((ps ++ [x]).map Value.string) := by
    rw [List.length_append, List.length_singleton, List.map_append]; exact hown'
  have hbel : Below n0 w w1 := (h.bel.alloc (by have := h.sz; omega) tmp).grown hgrow (by have := h.sz; simp; omega) (fun k e => by have := own_ge h.row _ e; omega)
  have hsz : n0 + 8 ≤ w1.heap.size := Nat.le_trans h.sz (Nat.le_trans (by simp) hgrow.size)
  exact ⟨bx (by omega) h.bp, other (bx (by omega) h.b2) (by omega) _, other (bx (by omega) h.b3) (by omega) _, other (bx (by omega) h.b4) (by omega) _, (bx (by omega) h.bp).set _, other (bx (by omega) h.bd) (by omega) _,
    own_keep hrow2 (grownBy_setCell' w1 _ _) (fun g hv e => by have := own_ge hrow2 g hv; have := Option.some.inj e; omega), hbel.setCell (p := ⟨n0 + 1 + 1 + 1, 0, none⟩) (show n0 ≤ n0 + 1 + 1 + 1 by omega) _, by simpa [World.setCell] using hsz⟩
def Kp (n0 : Nat) (W W' : World) : Prop := W'.heap[n0 + 1 + 1 + 1 + 1 + 1]? = W.heap[n0 + 1 + 1 + 1 + 1 + 1]? ∧ W'.heap[n0 + 1 + 1 + 1 + 1 + 1 + 1]? = W.heap[n0 + 1 + 1 + 1 + 1 + 1 + 1]? ∧ W'.heap[n0 + 1 + 1 + 1 + 1 + 1 + 1 + 1]? = W.heap[n0 + 1 + 1 + 1 + 1 + 1 + 1 + 1]?
theorem Kp.trans {n0 : Nat} {A B C : World} (h : Kp n0 A B) (k : Kp n0 B C) : Kp n0 A C := ⟨k.1.trans h.1, k.2.1.trans h.2.1, k.2.2.trans h.2.2⟩
theorem Kp.refl (n0 : Nat) (W : World) : Kp n0 W W := ⟨rfl, rfl, rfl⟩
theorem Kp.grown {n0 : Nat} {W W' : World} (hs : n0 + 8 ≤ W.heap.size) {row : Option Nat} (hg : W.grownBy W' row) (hr : ∀ r, row = some r → n0 + 8 ≤ r ∨ r < n0 + 5) : Kp n0 W W' :=
  ⟨hg.block _ (by omega) (fun e => by have := hr _ e.symm; omega), hg.block _ (by omega) (fun e => by have := hr _ e.symm; omega), hg.block _ (by omega) (fun e => by have := hr _ e.symm; omega)⟩
theorem Kp.set {n0 : Nat} (W : World) (b : Nat) (v : Value) (hb : b < n0 + 5) : Kp n0 W (W.setCell ⟨b, 0, none⟩ v) :=
  ⟨Below.heap_setCell _ _ _ _ (by show _ ≠ b; omega), Below.heap_setCell _ _ _ _ (by show _ ≠ b; omega), Below.heap_setCell _ _ _ _ (by show _ ≠ b; omega)⟩
theorem Kp.put {n0 : Nat} (W : World) (l : Nat) (o : Obj) (hl : n0 + 8 ≤ l) : Kp n0 W (W.putObj l o) :=
  ⟨World.putObj_heap_other (by omega), World.putObj_heap_other (by omega), World.putObj_heap_other (by omega)⟩
theorem M.app2 {n0 : Nat} {w : World} {vp v' : Value} {dv : Bool} {ps : List ByteArray} {W w1 : World} {tmp : Obj} (h : M n0 w vp dv ps W) (hgrow : (W.alloc tmp).grownBy w1 vp.ownBlock) :
    KeepsOthers W (w1.setCell ⟨n0 + 1 + 1 + 1, 0, none⟩ v') ∧ Kp n0 W (w1.setCell ⟨n0 + 1 + 1 + 1, 0, none⟩ v') := by
  refine ⟨((KeepsOthers.alloc W tmp).trans (KeepsOthers.of_grownBy hgrow fun j o ej hj => ?_)).trans (KeepsOthers.setCell _ _ _), ?_⟩
  · rcases (h.row.alloc tmp).2 with ⟨rfl, _⟩ | ⟨g, cap, cur, rfl, _, hgb, _⟩
    · simp [Value.ownBlock] at ej
    · obtain rfl : g = j := by simpa [Value.ownBlock] using ej
      rw [hgb] at hj; cases hj; rfl
  · have hs := h.sz
    exact ((Kp.grown hs (World.grownBy_alloc W tmp none) (fun r e => by cases e)).trans (Kp.grown (by simp; omega) hgrow (fun r e => .inl (own_ge h.row r e)))).trans (Kp.set _ _ _ (by omega))
theorem res3 {tmps : Array Value} {W : World} {n0 : Nat} {v2 v3 v4 : Value} (t2 : tmps.getD 2 undef = .pointer (some ⟨n0, 0, none⟩)) (t3 : tmps.getD 3 undef = .pointer (some ⟨n0 + 1, 0, none⟩)) (t4 : tmps.getD 4 undef = .pointer (some ⟨n0 + 1 + 1, 0, none⟩))
    (c2 : W.cell? ⟨n0, 0, none⟩ = some v2) (c3 : W.cell? ⟨n0 + 1, 0, none⟩ = some v3) (c4 : W.cell? ⟨n0 + 1 + 1, 0, none⟩ = some v4) : (results Tryd.f9 tmps).run Tryd.prog W = .ok (.tuple #[v2, v3, v4]) W := by
  have hres : Tryd.f9.results = #[.cell 2 23, .cell 3 4, .cell 4 24] := rfl
  have t2' : tmps[2]?.getD undef = .pointer (some ⟨n0, 0, none⟩) := by simpa using t2
  have t3' : tmps[3]?.getD undef = .pointer (some ⟨n0 + 1, 0, none⟩) := by simpa using t3
  have t4' : tmps[4]?.getD undef = .pointer (some ⟨n0 + 1 + 1, 0, none⟩) := by simpa using t4
  simp [results, hres, t2', t3', t4', asAddr]
  go_simp
abbrev W8 (w : World) (r : ByteArray) : World := (((((((w.alloc (.cells #[.slice none 0 0] 23)).alloc (.cells #[.bool false] 4)).alloc (.cells #[.int .i64 0] 24)).alloc (.cells #[.slice none 0 0] 23)).alloc (.cells #[.bool false] 4)).alloc (.cells #[.string r] 9)).alloc (.cells #[.string ⟨#[47]⟩] 9)).alloc (.cells #[.int .i64 0] 3)
theorem box_next {W : World} {k : Nat} (t : TypeId) (v : Value) (h : W.heap.size = k) : Boxed (W.alloc (.cells #[v] t)) k t v := by subst h; exact Boxed.new W t v
theorem start (w : World) (r : ByteArray) : (W8 w r).heap.size = w.heap.size + 8 ∧ M w.heap.size w (.slice none 0 0) false [] (W8 w r) ∧ Boxed (W8 w r) (w.heap.size + 1 + 1 + 1 + 1 + 1) 9 (.string r) ∧ Boxed (W8 w r) (w.heap.size + 1 + 1 + 1 + 1 + 1 + 1) 9 (.string ⟨#[47]⟩) ∧ Boxed (W8 w r) (w.heap.size + 1 + 1 + 1 + 1 + 1 + 1 + 1) 3 (.int .i64 0) := by
  refine ⟨by simp, ⟨?_, ?_, ?_, ?_, ?_, World.ownsRow_nil _ _ _ _, ?_, by simp⟩, ?_, ?_, ?_⟩
  · exact (((((((Boxed.new w _ _).alloc _).alloc _).alloc _).alloc _).alloc _).alloc _).alloc _
  · exact ((((((box_next _ _ (by simp)).alloc _).alloc _).alloc _).alloc _).alloc _).alloc _
  · exact (((((box_next _ _ (by simp)).alloc _).alloc _).alloc _).alloc _).alloc _
  · exact ((((box_next _ _ (by simp)).alloc _).alloc _).alloc _).alloc _
  · exact (((box_next _ _ (by simp)).alloc _).alloc _).alloc _
  · exact ((((((((Below.refl _ w).alloc (Nat.le_refl _) _).alloc (by simp; try omega) _).alloc (by simp; try omega) _).alloc (by simp; try omega) _).alloc (by simp; try omega) _).alloc (by simp; try omega) _).alloc (by simp; try omega) _).alloc (by simp; try omega) _
  · exact ((box_next _ _ (by simp)).alloc _).alloc _
  · exact (box_next _ _ (by simp)).alloc _
  · exact box_next _ _ (by simp)
set_option maxRecDepth 100000 in
theorem splitSeq_made (s : ByteArray) (w : World) : Calls Tryd.prog 26 #[.string s, .string ⟨#[47]⟩, .int .i64 0] w fun e w' =>
    e = .returned (.func (.func 31) #[] #[.pointer (some ⟨w.heap.size + 1, 0, none⟩), .pointer (some ⟨w.heap.size, 0, none⟩), .pointer (some ⟨w.heap.size + 1 + 1, 0, none⟩)]) ∧
      w' = ((w.alloc (.cells #[.string s] 9)).alloc (.cells #[.string ⟨#[47]⟩] 9)).alloc (.cells #[.int .i64 0] 3) := by
  go_enter Tryd.func26, Tryd.ntmps26
  go_wp2
  go_ret
  exact ⟨rfl, rfl⟩
set_option maxRecDepth 100000 in
theorem SplitSeq_made (s : ByteArray) (w : World) : Calls Tryd.prog 18 #[.string s, .string ⟨#[47]⟩] w fun e w' =>
    e = .returned (.func (.func 31) #[] #[.pointer (some ⟨w.heap.size + 1, 0, none⟩), .pointer (some ⟨w.heap.size, 0, none⟩), .pointer (some ⟨w.heap.size + 1 + 1, 0, none⟩)]) ∧
      w' = ((w.alloc (.cells #[.string s] 9)).alloc (.cells #[.string ⟨#[47]⟩] 9)).alloc (.cells #[.int .i64 0] 3) := by
  go_enter Tryd.func18, Tryd.ntmps18
  go_wp2_with (go_at_call 26; refine (splitSeq_made s _).mono ?_; rintro e w' ⟨rfl, rfl⟩)
  go_ret
  exact ⟨rfl, rfl⟩
end Go.Proofs.YtgcboobdaeeanaaDoor.Sq
end
section
namespace Go.Proofs.YtgcboobdaeeanaaDoor.Sq
open Go Go.RowKit Go.Shelf Go.Proofs.YtgcboobdaeeanaaDoorW.PrintWords
attribute [local go_sem] Oper.semAt_some
set_option linter.unusedVariables false
set_option linter.unusedSimpArgs false
def partsOf (xs : List ByteArray) : List ByteArray := xs.filter (fun s => decide (s.data.toList ≠ []) && decide (s.data.toList ≠ [46]))
def dirOf (xs : List ByteArray) : Bool := match xs.getLast? with | none => false | some s => decide (s.data.toList = []) || decide (s.data.toList = [46]) || decide (s.data.toList = [46, 46])
def runR (xs : List ByteArray) : List ByteArray × Bool × Int := if xs.all (fun s => decide (s.size ≤ 32)) = true then (partsOf xs, dirOf xs, 0) else ([], false, 2)
def splitR (s : ByteArray) : List ByteArray × Bool × Int :=
  if Lib.hasPrefix s.data.toList [47] = true then (if Lib.indexByte s.data.toList 0 < 0 then (if s.size ≤ 256 then runR (pieces ⟨(Lib.trimPrefix s.data.toList [47]).toArray⟩) else ([], false, 2)) else ([], false, 1)) else ([], false, 1)
theorem parts_snoc (pre : List ByteArray) (x : ByteArray) : partsOf (pre ++ [x]) = if x.data.toList = [] ∨ x.data.toList = [46] then partsOf pre else partsOf pre ++ [x] := by
  unfold partsOf
  rw [List.filter_append, List.filter_cons, List.filter_nil]
  by_cases h0 : x.data.toList = []
  · rw [if_pos (Or.inl h0), decide_eq_false (show ¬ (x.data.toList ≠ []) from fun h => h h0), Bool.false_and, if_neg (by decide), List.append_nil]
  · by_cases h1 : x.data.toList = [46]
    · rw [if_pos (Or.inr h1), decide_eq_false (show ¬ (x.data.toList ≠ [46]) from fun h => h h1), Bool.and_false, if_neg (by decide), List.append_nil]
    · rw [decide_eq_true h0, decide_eq_true h1, Bool.and_self, if_pos rfl, if_neg (show ¬ (x.data.toList = [] ∨ x.data.toList = [46]) from fun h => h.elim h0 h1)]
theorem dir_snoc (pre : List ByteArray) (x : ByteArray) : dirOf (pre ++ [x]) = (decide (x.data.toList = []) || decide (x.data.toList = [46]) || decide (x.data.toList = [46, 46])) := by
  unfold dirOf
  rw [List.getLast?_concat]
def Inv (n0 : Nat) (w : World) (pre : List ByteArray) (W : World) : Prop := (∃ vp, M n0 w vp (dirOf pre) (partsOf pre) W) ∧ ∀ x ∈ pre, x.size ≤ 32
def Out (n0 : Nat) (w : World) (c : Code) (pre : List ByteArray) (W : World) : Prop := c = .ret ∧ Boxed W n0 23 (.slice none 0 0) ∧ Boxed W (n0 + 1) 4 (.bool false) ∧ Boxed W (n0 + 1 + 1) 24 (.int .i64 2) ∧ Below n0 w W ∧ ∃ x ∈ pre, 32 < x.size
theorem not_cells {A : World} {row : Option Nat} {B0 : Nat} (hr : ∀ r, row = some r → B0 ≤ r ∧ ∃ o : Obj, A.heap[r]? = some o ∧ o.isCells = false) {k : Nat} {t : TypeId} {v : Value} (h : Boxed A k t v) : some k ≠ row := by
  intro e
  obtain ⟨_, o, ho, hc⟩ := hr _ e.symm
  rw [show A.heap[k]? = _ from h] at ho
  cases ho; cases hc
theorem Inv_own (n0 : Nat) (w : World) (hw : n0 = w.heap.size) : OwnFrom (n0 + 8) (Inv n0 w) := by
  rintro s A B row ⟨⟨vp, h⟩, h32⟩ hg hr
  refine ⟨⟨vp, h.grown hg (fun r e => ⟨by have := (hr r e).1; omega, fun e2 => ?_⟩)⟩, h32⟩
  obtain ⟨_, o, ho, hc⟩ := hr r e
  rcases h.row.2 with ⟨rfl, _⟩ | ⟨g, cap, cur, rfl, hb, hgb, _⟩
  · simp [Value.ownBlock] at e2
  · obtain rfl : g = r := by simpa [Value.ownBlock] using e2
    rw [hgb] at ho; cases ho; cases hc
theorem Out_own (n0 : Nat) (w : World) (hw : n0 = w.heap.size) (c : Code) : OwnFrom (n0 + 8) (Out n0 w c) := by
  rintro s A B row ⟨hc, h2, h3, h4, hb, hx⟩ hg hr
  exact ⟨hc, h2.kept hg (not_cells hr h2), h3.kept hg (not_cells hr h3), h4.kept hg (not_cells hr h4), hb.grown hg (by have := hb.size; omega) (fun k e => by have := (hr k e).1; omega), hx⟩
theorem infoS : (Tryd.prog.info? 9).map (fun i => (i.zero, i.size, i.bytes)) = some (some (.string ⟨#[]⟩), 1, 16) := by kernel_rfl
theorem start3 (w : World) (c : Int) : ((((w.alloc (.cells #[.slice none 0 0] 23)).alloc (.cells #[.bool false] 4)).alloc (.cells #[.int .i64 c] 24)).heap.size = w.heap.size + 3) ∧
    Boxed (((w.alloc (.cells #[.slice none 0 0] 23)).alloc (.cells #[.bool false] 4)).alloc (.cells #[.int .i64 c] 24)) w.heap.size 23 (.slice none 0 0) ∧ Boxed (((w.alloc (.cells #[.slice none 0 0] 23)).alloc (.cells #[.bool false] 4)).alloc (.cells #[.int .i64 c] 24)) (w.heap.size + 1) 4 (.bool false) ∧ Boxed (((w.alloc (.cells #[.slice none 0 0] 23)).alloc (.cells #[.bool false] 4)).alloc (.cells #[.int .i64 c] 24)) (w.heap.size + 1 + 1) 24 (.int .i64 c) ∧
    Below w.heap.size w (((w.alloc (.cells #[.slice none 0 0] 23)).alloc (.cells #[.bool false] 4)).alloc (.cells #[.int .i64 c] 24)) := by
  refine ⟨by simp, ?_, ?_, ?_, ?_⟩
  · exact ((Boxed.new w _ _).alloc _).alloc _
  · exact (box_next _ _ (by simp)).alloc _
  · exact box_next _ _ (by simp)
  · exact (((Below.refl _ w).alloc (Nat.le_refl _) _).alloc (by simp) _).alloc (by simp; try omega) _
theorem splitL_len : ∀ l, (splitL l).length ≤ l.length + 1
  | [] => by simp [splitL]
  | b :: l => by
    have := splitL_len l
    unfold splitL
    split
    · simp only [List.length_cons]; omega
    · split
      · rename_i h t e
        rw [e] at this
        simp only [List.length_cons] at *; omega
      · simp
theorem pieces_len (s : ByteArray) : (pieces s).length ≤ s.size + 1 := by
  unfold pieces
  rw [List.length_map, Lib.size_eq s]
  exact splitL_len _
theorem own_lower {W : World} {b b' : Nat} {e : TypeId} {size : Nat} {v : Value} {k : Nat} {xs : List Value} (hle : b' ≤ b) (h : W.ownsRow b e size v k xs) : W.ownsRow b' e size v k xs :=
  ⟨h.1, h.2.imp id (fun ⟨g, cap, cur, e, hb, rest⟩ => ⟨g, cap, cur, e, Nat.le_trans hle hb, rest⟩)⟩
theorem own_drew {W : World} {b : Nat} {e : TypeId} {size : Nat} {v : Value} {k : Nat} {xs : List Value} (h : W.ownsRow b e size v k xs) : W.drew.ownsRow b e size v k xs := h
abbrev act (s rst x : ByteArray) (n0 : Nat) (zi : Int) : Act := { tmps := #[.string s, undef, .pointer (some ⟨n0, 0, none⟩), .pointer (some ⟨n0 + 1, 0, none⟩), .pointer (some ⟨n0 + 1 + 1, 0, none⟩), .string rst, .bool true, .pointer (some ⟨n0 + 1 + 1 + 1, 0, none⟩), .pointer (some ⟨n0 + 1 + 1 + 1 + 1, 0, none⟩), .string x,
  .tuple #[.string rst, .bool true], .string s, .tuple #[.string rst, .bool true], .string rst, .bool true, .bool true, .bool false, .bool false, .string s, .int .i64 zi, .bool false, .bool false, .string s, .int .i64 s.size, .bool false, .string rst,
  .func (.func 31) #[] #[.pointer (some ⟨n0 + 1 + 1 + 1 + 1 + 1 + 1, 0, none⟩), .pointer (some ⟨n0 + 1 + 1 + 1 + 1 + 1, 0, none⟩), .pointer (some ⟨n0 + 1 + 1 + 1 + 1 + 1 + 1 + 1, 0, none⟩)], .string x, undef, undef, undef, undef, undef, undef, undef, undef, undef, undef, undef, undef, undef, undef, undef, undef, undef, undef, undef], defers := [] }
set_option maxRecDepth 100000 in
set_option maxHeartbeats 4000000 in
theorem split_in (s : ByteArray) (w : World) :
    CallsIn Fence.wide 6 Tryd.prog 9 #[.string s] w fun e w' => ∃ v, e = .returned (.tuple #[v, .bool (splitR s).2.1, .int .i64 (splitR s).2.2]) ∧ w'.ownsRow w.heap.size 9 1 v (splitR s).1.length ((splitR s).1.map Value.string) ∧ Below w.heap.size w w' := by
  obtain ⟨i0, hi, hz0, hz1, hz2⟩ := info_parts infoS
  have hrl : (⟨(Lib.trimPrefix s.data.toList (⟨#[47]⟩ : ByteArray).data.toList).toArray⟩ : ByteArray).size ≤ s.size := by
    rw [show (⟨(Lib.trimPrefix s.data.toList (⟨#[47]⟩ : ByteArray).data.toList).toArray⟩ : ByteArray).size = (Lib.trimPrefix s.data.toList (⟨#[47]⟩ : ByteArray).data.toList).length from by rw [Lib.size_eq], Lib.size_eq s]
    unfold Lib.trimPrefix
    split <;> simp
  obtain ⟨rst, hrst⟩ : ∃ r, (⟨(Lib.trimPrefix s.data.toList (⟨#[47]⟩ : ByteArray).data.toList).toArray⟩ : ByteArray) = r := ⟨_, rfl⟩
  obtain ⟨pf, hpf⟩ : ∃ b, Lib.hasPrefix s.data.toList (⟨#[47]⟩ : ByteArray).data.toList = b := ⟨_, rfl⟩
  obtain ⟨zi, hzi⟩ : ∃ z, Lib.indexByte s.data.toList (0 : Int).toNat.toUInt8 = z := ⟨_, rfl⟩
  have hR : splitR s = if pf = true then (if zi < 0 then (if s.size ≤ 256 then runR (pieces rst) else ([], false, 2)) else ([], false, 1)) else ([], false, 1) := by
    subst hrst hpf hzi; rfl
  rw [hrst] at hrl
  refine callsIn_of_wp_marks Tryd.func9 rfl trivial ?_ rfl
  simp only [Tryd.ntmps9, List.size_toArray, List.length_cons, List.length_nil, Nat.reduceAdd, Nat.reduceSub, Array.replicate_succ, Array.replicate_zero, List.push_toArray, List.append_toArray, List.nil_append, List.cons_append]
  cases pf with
  | false =>
    rw [show splitR s = ([], false, 1) by rw [hR, if_neg (by decide)]]
    gi_wp2_with (refine ⟨trivial, ?_⟩; gi_at_call 16; refine (callsIn_wide.2 (Tryd.strings_CutPrefix s ⟨#[47]⟩ _)).mono ?_; rintro e w' ⟨rfl, rfl⟩; rw [hrst, hpf])
    refine ⟨trivial, ?_⟩
    gi_wp2
    obtain ⟨hS3, hb2, hb3, hb4, hbel⟩ := start3 w 1
    exact ⟨_, res3 (n0 := w.heap.size) rfl rfl rfl hb2.cell hb3.cell hb4.cell, _, rfl, World.ownsRow_nil _ _ _ _, hbel⟩
  | true =>
    by_cases hz : zi < 0
    · have hzb : decide (0 ≤ zi) = false := decide_eq_false (by omega)
      by_cases h256 : s.size ≤ 256
      · have h256b : decide (256 < (s.size : Int)) = false := decide_eq_false (by omega)
        have h256c : decide (256 < s.size) = false := decide_eq_false (by omega)
        have hRR : splitR s = runR (pieces rst) := by rw [hR, if_pos rfl, if_pos hz, if_pos h256]
        have hpn : (pieces rst).length ≤ 1000 := by have := pieces_len rst; omega
        rw [hRR]
        clear hRR hR
        gi_wp2_with (first | (refine ⟨trivial, ?_⟩; gi_at_call 18; refine (callsIn_wide.2 (SplitSeq_made rst _)).mono ?_; rintro e w' ⟨rfl, rfl⟩) | (refine ⟨trivial, ?_⟩; gi_at_call 17; refine (callsIn_wide.2 (Tryd.strings_IndexByte s 0 _)).mono ?_; rintro e w' ⟨rfl, rfl⟩; rw [hzi]) | (refine ⟨trivial, ?_⟩; gi_at_call 16; refine (callsIn_wide.2 (Tryd.strings_CutPrefix s ⟨#[47]⟩ _)).mono ?_; rintro e w' ⟨rfl, rfl⟩; rw [hrst, hpf]))
        obtain ⟨hS, hM0, hb5, hb6, hb7⟩ := start w rst
        refine range_state (α := ByteArray) rfl (by decide) (gf := 31) (lb := #[.pointer (some ⟨w.heap.size + 1 + 1 + 1 + 1 + 1 + 1, 0, none⟩), .pointer (some ⟨w.heap.size + 1 + 1 + 1 + 1 + 1, 0, none⟩), .pointer (some ⟨w.heap.size + 1 + 1 + 1 + 1 + 1 + 1 + 1, 0, none⟩)]) rfl trivial (enters_of Tryd.func31 (by kernel_rfl) rfl)
          (fun x => #[.string x]) (fun _ => rfl) (Kp w.heap.size) (fun xs => xs = pieces rst) (fun pre => pre <+: pieces rst) (pieces rst).length (fun h k => h.trans k) (fun W l o hl => Kp.put W l o (by rw [← hS]; exact hl))
          (Inv w.heap.size w) (Out w.heap.size w) (by show OwnFrom (W8 w rst).heap.size _; rw [hS]; exact Inv_own _ w rfl) (fun c => by show OwnFrom (W8 w rst).heap.size _; rw [hS]; exact Out_own _ w rfl c) ⟨⟨_, hM0⟩, by simp⟩
          (fun x => act s rst x w.heap.size zi) ?hit ?assign ?body ?done ?stop
        case hit =>
          intro l R Rx W hRk hRxk hBW hY hI0 hR0
          have bx : ∀ {k t v}, k < w.heap.size + 8 → Boxed (W8 w rst) k t v → Boxed W k t v := fun hk h => (hBW.block _ (by show _ < (W8 w rst).heap.size; rw [hS]; exact hk)).trans h
          exact seq_in 5 (by decide) l (w.heap.size + 1 + 1 + 1 + 1 + 1 + 1) (w.heap.size + 1 + 1 + 1 + 1 + 1) (w.heap.size + 1 + 1 + 1 + 1 + 1 + 1 + 1) (by omega) (by omega) rst (by omega) (Inv w.heap.size w) R (Out w.heap.size w) Rx (Kp w.heap.size)
            (fun pre W v v' h _ => ⟨⟨h.1.choose, h.1.choose_spec.box _ _ (by omega) (by omega)⟩, h.2⟩) (fun W v' h => hRk _ _ ((KeepsOthers.setCell W _ v').from _) h) (fun W W' h => ⟨h.2.1, h.1, h.2.2⟩) hY W (bx (by omega) hb6) (bx (by omega) hb5) (bx (by omega) hb7) hI0 hR0
        case assign =>
          intro l x W K hK
          gi_wp2
          exact hK
        case body =>
          rintro l pre x W ⟨⟨vp, hM⟩, h32⟩ hlen
          have hpl : (partsOf pre).length ≤ pre.length := List.length_filter_le _ _
          have hc2 := hM.b2.cell
          have hf2 := hM.b2.frozen
          have hc3 := hM.b3.cell
          have hf3 := hM.b3.frozen
          have hc4 := hM.b4.cell
          have hf4 := hM.b4.frozen
          have hcp := hM.bp.cell
          have hfp := hM.bp.frozen
          have hcd := hM.bd.cell
          have hfd := hM.bd.frozen
          by_cases h33 : x.size ≤ 32
          · have hb33 : decide (32 < (x.size : Int)) = false := decide_eq_false (by omega)
            have hb33' : decide (32 < x.size) = false := decide_eq_false (by omega)
            have hall : ∀ y ∈ pre ++ [x], y.size ≤ 32 := by
              intro y hy
              rcases List.mem_append.1 hy with h | h
              · exact h32 y h
              · rw [List.mem_singleton.1 h]; exact h33
            by_cases hup : x.data.toList = [46, 46]
            · have e1 : (x.toList == ([46, 46] : List UInt8)) = true := by rw [Lib.toList_data, hup]; rfl
              have hM1 := hM.dir true
              have hnew : ∀ (j : Nat) (u : Value), [Value.string x][j]? = some u → ((W.setCell ⟨w.heap.size + 1 + 1 + 1 + 1, 0, none⟩ (.bool true)).alloc (.cells #[.string x] 9)).cell? ((⟨W.heap.size, 0, none⟩ : Addr).add j) = some u := by
                have := cell_one_new (W.setCell ⟨w.heap.size + 1 + 1 + 1 + 1, 0, none⟩ (.bool true)) (.string x) 9
                simpa [World.setCell] using this
              gi_wp2_with (gi_at_builtin; refine wpListIn_append_own _ rfl _ _ 23 rfl (w.heap.size + 8) 9 i0 (.string ⟨#[]⟩) 1 16 Tryd.underlying23 hi hz0 hz1 hz2 rfl (by decide) _ _ _ rfl (hM1.row.alloc _) ⟨W.heap.size, 0, none⟩ 1 1 [.string x] rfl rfl hnew (by simp [Value.oneCell']) (by unfold maxLen; omega) (by omega) (by have := hM1.sz; simp at this ⊢; omega) ?_; intro v' w1 hown' hgrow _; obtain ⟨g', cap', rfl⟩ := ownsRow_succ hown'; obtain ⟨hq1, hMq⟩ := hM1.app hown' hgrow; obtain ⟨hq3, hq4⟩ := hM1.app2 (v' := .slice (some ⟨g', 0, none⟩) ((partsOf pre).length + 1) cap') hgrow; have hqc := hq1.cell; have hqf := hq1.frozen)
              refine ⟨((KeepsOthers.setCell W _ _).trans hq3).from _, (Kp.set W (w.heap.size + 1 + 1 + 1 + 1) (.bool true) (by omega)).trans hq4, ⟨.slice (some ⟨g', 0, none⟩) ((partsOf pre).length + 1) cap', ?_⟩, hall⟩
              rw [dir_snoc, parts_snoc, hup]
              exact hMq
            · have e1 : (x.toList == ([46, 46] : List UInt8)) = false := by rw [Lib.toList_data]; exact beq_eq_false_iff_ne.2 hup
              by_cases hem : x.data.toList = []
              · have e2 : (x.toList == ([] : List UInt8)) = true := by rw [Lib.toList_data, hem]; rfl
                gi_wp2
                refine ⟨(KeepsOthers.setCell W _ _).from _, Kp.set W (w.heap.size + 1 + 1 + 1 + 1) (.bool true) (by omega), ⟨vp, ?_⟩, hall⟩
                rw [dir_snoc, parts_snoc, hem]
                exact hM.dir true
              · have e2 : (x.toList == ([] : List UInt8)) = false := by rw [Lib.toList_data]; exact beq_eq_false_iff_ne.2 hem
                by_cases hdt : x.data.toList = [46]
                · have e3 : (x.toList == ([46] : List UInt8)) = true := by rw [Lib.toList_data, hdt]; rfl
                  gi_wp2
                  refine ⟨(KeepsOthers.setCell W _ _).from _, Kp.set W (w.heap.size + 1 + 1 + 1 + 1) (.bool true) (by omega), ⟨vp, ?_⟩, hall⟩
                  rw [dir_snoc, parts_snoc, hdt]
                  exact hM.dir true
                · have e3 : (x.toList == ([46] : List UInt8)) = false := by rw [Lib.toList_data]; exact beq_eq_false_iff_ne.2 hdt
                  have hM1 := (hM.dir true).dir false
                  have hnew : ∀ (j : Nat) (u : Value), [Value.string x][j]? = some u → (((W.setCell ⟨w.heap.size + 1 + 1 + 1 + 1, 0, none⟩ (.bool true)).setCell ⟨w.heap.size + 1 + 1 + 1 + 1, 0, none⟩ (.bool false)).alloc (.cells #[.string x] 9)).cell? ((⟨W.heap.size, 0, none⟩ : Addr).add j) = some u := by
                    have := cell_one_new ((W.setCell ⟨w.heap.size + 1 + 1 + 1 + 1, 0, none⟩ (.bool true)).setCell ⟨w.heap.size + 1 + 1 + 1 + 1, 0, none⟩ (.bool false)) (.string x) 9
                    simpa [World.setCell] using this
                  gi_wp2_with (gi_at_builtin; refine wpListIn_append_own _ rfl _ _ 23 rfl (w.heap.size + 8) 9 i0 (.string ⟨#[]⟩) 1 16 Tryd.underlying23 hi hz0 hz1 hz2 rfl (by decide) _ _ _ rfl (hM1.row.alloc _) ⟨W.heap.size, 0, none⟩ 1 1 [.string x] rfl rfl hnew (by simp [Value.oneCell']) (by unfold maxLen; omega) (by omega) (by have := hM1.sz; simp at this ⊢; omega) ?_; intro v' w1 hown' hgrow _; obtain ⟨g', cap', rfl⟩ := ownsRow_succ hown'; obtain ⟨hq1, hMq⟩ := hM1.app hown' hgrow; obtain ⟨hq3, hq4⟩ := hM1.app2 (v' := .slice (some ⟨g', 0, none⟩) ((partsOf pre).length + 1) cap') hgrow; have hqc := hq1.cell; have hqf := hq1.frozen)
                  refine ⟨(((KeepsOthers.setCell W _ _).trans (KeepsOthers.setCell _ _ _)).trans hq3).from _, ((Kp.set W (w.heap.size + 1 + 1 + 1 + 1) (.bool true) (by omega)).trans (Kp.set _ (w.heap.size + 1 + 1 + 1 + 1) (.bool false) (by omega))).trans hq4, ⟨.slice (some ⟨g', 0, none⟩) ((partsOf pre).length + 1) cap', ?_⟩, hall⟩
                  rw [dir_snoc, parts_snoc, if_neg (fun h => h.elim hem hdt), decide_eq_false hem, decide_eq_false hdt, decide_eq_false hup]
                  exact hMq
          · have hb33 : decide (32 < (x.size : Int)) = true := decide_eq_true (by omega)
            have hb33' : decide (32 < x.size) = true := decide_eq_true (by omega)
            gi_wp2
            refine ⟨(((KeepsOthers.setCell W _ _).trans (KeepsOthers.setCell _ _ _)).trans (KeepsOthers.setCell _ _ _)).from _, rfl, other (other (hM.b2.set _) (by omega) _) (by omega) _, other ((other hM.b3 (by omega) _).set _) (by omega) _, (other (other hM.b4 (by omega) _) (by omega) _).set _, ?_, x, by simp, by omega⟩
            exact ((hM.bel.setCell (p := ⟨w.heap.size, 0, none⟩) (show w.heap.size ≤ w.heap.size by omega) _).setCell (p := ⟨w.heap.size + 1, 0, none⟩) (show w.heap.size ≤ w.heap.size + 1 by omega) _).setCell (p := ⟨w.heap.size + 1 + 1, 0, none⟩) (show w.heap.size ≤ w.heap.size + 1 + 1 by omega) _
        case done =>
          rintro D xs W hD rfl ⟨⟨vp, hM⟩, h32⟩ hK
          have hrun : runR (pieces rst) = (partsOf (pieces rst), dirOf (pieces rst), 0) := by unfold runR; rw [if_pos (List.all_eq_true.2 (fun y hy => decide_eq_true (h32 y hy)))]
          have hc2 := hM.b2.cell
          have hf2 := hM.b2.frozen
          have hc3 := hM.b3.cell
          have hf3 := hM.b3.frozen
          have hc4 := hM.b4.cell
          have hf4 := hM.b4.frozen
          obtain ⟨Av, nv, cv, rfl⟩ : ∃ A n c, vp = .slice A n c := by
            rcases hM.row.2 with ⟨e, _⟩ | ⟨g, cap, cur, e, _⟩
            · exact ⟨_, _, _, e⟩
            · exact ⟨_, _, _, e⟩
          have hcp := hM.bp.cell
          have hcd := hM.bd.cell
          gi_wp2
          gi_region
          gi_wp2
          have hD' : w.heap.size + 8 ≤ D := by rw [← hS]; exact hD
          have hb2 := other (other (hM.b2.set (.slice Av nv cv)) (show w.heap.size ≠ w.heap.size + 1 by omega) (.bool (dirOf (pieces rst)))) (show w.heap.size ≠ w.heap.size + 1 + 1 by omega) (.int .i64 0)
          have hb3 := other ((other hM.b3 (show w.heap.size + 1 ≠ w.heap.size by omega) (.slice Av nv cv)).set (.bool (dirOf (pieces rst)))) (show w.heap.size + 1 ≠ w.heap.size + 1 + 1 by omega) (.int .i64 0)
          have hb4 := (other (other hM.b4 (show w.heap.size + 1 + 1 ≠ w.heap.size by omega) (.slice Av nv cv)) (show w.heap.size + 1 + 1 ≠ w.heap.size + 1 by omega) (.bool (dirOf (pieces rst)))).set (.int .i64 0)
          have hrow := own_keep (own_keep (own_keep hM.row (grownBy_setCell' W w.heap.size (.slice Av nv cv)) (fun g hv e => by have := own_ge hM.row g hv; have := Option.some.inj e; omega)) (grownBy_setCell' _ (w.heap.size + 1) (.bool (dirOf (pieces rst)))) (fun g hv e => by have := own_ge hM.row g hv; have := Option.some.inj e; omega)) (grownBy_setCell' _ (w.heap.size + 1 + 1) (.int .i64 0)) (fun g hv e => by have := own_ge hM.row g hv; have := Option.some.inj e; omega)
          have hbel := ((hM.bel.setCell (p := ⟨w.heap.size, 0, none⟩) (show w.heap.size ≤ w.heap.size by omega) (.slice Av nv cv)).setCell (p := ⟨w.heap.size + 1, 0, none⟩) (show w.heap.size ≤ w.heap.size + 1 by omega) (.bool (dirOf (pieces rst)))).setCell (p := ⟨w.heap.size + 1 + 1, 0, none⟩) (show w.heap.size ≤ w.heap.size + 1 + 1 by omega) (.int .i64 0)
          have hK4 := (Below.heap_setCell ((W.setCell ⟨w.heap.size, 0, none⟩ (.slice Av nv cv)).setCell ⟨w.heap.size + 1, 0, none⟩ (.bool (dirOf (pieces rst)))) ⟨w.heap.size + 1 + 1, 0, none⟩ (.int .i64 0) D (show D ≠ w.heap.size + 1 + 1 by omega)).trans ((Below.heap_setCell (W.setCell ⟨w.heap.size, 0, none⟩ (.slice Av nv cv)) ⟨w.heap.size + 1, 0, none⟩ (.bool (dirOf (pieces rst))) D (show D ≠ w.heap.size + 1 by omega)).trans ((Below.heap_setCell W ⟨w.heap.size, 0, none⟩ (.slice Av nv cv) D (show D ≠ w.heap.size by omega)).trans hK))
          generalize ((W.setCell ⟨w.heap.size, 0, none⟩ (.slice Av nv cv)).setCell ⟨w.heap.size + 1, 0, none⟩ (.bool (dirOf (pieces rst)))).setCell ⟨w.heap.size + 1 + 1, 0, none⟩ (.int .i64 0) = W4 at hb2 hb3 hb4 hrow hbel hK4 ⊢
          refine ⟨by simp, .inl ⟨_, _, rfl, run_takeDeferred (w := W4.drew) hK4, ?_⟩⟩
          have bx : ∀ {k t v}, k < w.heap.size + 8 → Boxed W4 k t v → Boxed (W4.drew.putObj D (.deferred none)) k t v := fun hk h => (World.putObj_heap_other (w := W4.drew) (by omega)).trans h
          rw [hrun]
          exact ⟨_, res3 (n0 := w.heap.size) rfl rfl rfl (bx (by omega) hb2).cell (bx (by omega) hb3).cell (bx (by omega) hb4).cell, _, rfl, own_lower (by omega) (ownsRow_putObj (own_drew hrow) _ hK4 rfl), hbel.drew.trans (belowK_b (w := w) (Nat.le_refl _) W4.drew D _ _ (by omega) hK4 rfl rfl)⟩
        case stop =>
          rintro D c pre W hD ⟨suf, hsuf⟩ ⟨rfl, h2, h3, h4, hB, x, hx, hx33⟩ hK
          have hrun : runR (pieces rst) = ([], false, 2) := by unfold runR; rw [if_neg (fun h => by have := List.all_eq_true.1 h x (by rw [← hsuf]; exact List.mem_append_left _ hx); simp at this; omega)]
          gi_wp2
          refine ⟨by simp, .inl ⟨_, _, rfl, run_takeDeferred hK, ?_⟩⟩
          have hD' : w.heap.size + 8 ≤ D := by rw [← hS]; exact hD
          rw [hrun]
          have bx : ∀ {k t v}, k < w.heap.size + 8 → Boxed W k t v → Boxed (W.putObj D (.deferred none)) k t v := fun hk h => (World.putObj_heap_other (by omega)).trans h
          exact ⟨_, res3 (n0 := w.heap.size) rfl rfl rfl (bx (by omega) h2).cell (bx (by omega) h3).cell (bx (by omega) h4).cell, _, rfl, World.ownsRow_nil _ _ _ _, hB.trans (belowK_b (w := w) (Nat.le_refl _) W D _ _ (by omega) hK rfl rfl)⟩
      · have h256b : decide (256 < (s.size : Int)) = true := decide_eq_true (by omega)
        have h256c : decide (256 < s.size) = true := decide_eq_true (by omega)
        rw [show splitR s = ([], false, 2) by rw [hR, if_pos rfl, if_pos hz, if_neg h256]]
        gi_wp2_with (first | (refine ⟨trivial, ?_⟩; gi_at_call 17; refine (callsIn_wide.2 (Tryd.strings_IndexByte s 0 _)).mono ?_; rintro e w' ⟨rfl, rfl⟩; rw [hzi]) | (refine ⟨trivial, ?_⟩; gi_at_call 16; refine (callsIn_wide.2 (Tryd.strings_CutPrefix s ⟨#[47]⟩ _)).mono ?_; rintro e w' ⟨rfl, rfl⟩; rw [hrst, hpf]))
        obtain ⟨hS3, hb2, hb3, hb4, hbel⟩ := start3 w 2
        exact ⟨_, res3 (n0 := w.heap.size) rfl rfl rfl hb2.cell hb3.cell hb4.cell, _, rfl, World.ownsRow_nil _ _ _ _, hbel⟩
    · have hzb : decide (0 ≤ zi) = true := decide_eq_true (by omega)
      rw [show splitR s = ([], false, 1) by rw [hR, if_pos rfl, if_neg hz]]
      gi_wp2_with (first | (refine ⟨trivial, ?_⟩; gi_at_call 17; refine (callsIn_wide.2 (Tryd.strings_IndexByte s 0 _)).mono ?_; rintro e w' ⟨rfl, rfl⟩; rw [hzi]) | (refine ⟨trivial, ?_⟩; gi_at_call 16; refine (callsIn_wide.2 (Tryd.strings_CutPrefix s ⟨#[47]⟩ _)).mono ?_; rintro e w' ⟨rfl, rfl⟩; rw [hrst, hpf]))
      obtain ⟨hS3, hb2, hb3, hb4, hbel⟩ := start3 w 1
      exact ⟨_, res3 (n0 := w.heap.size) rfl rfl rfl hb2.cell hb3.cell hb4.cell, _, rfl, World.ownsRow_nil _ _ _ _, hbel⟩
end Go.Proofs.YtgcboobdaeeanaaDoor.Sq
end
section
namespace Go.Proofs.YtgcboobdaeeanaaDoor.Pr
open Go.RowKit Go.Proofs.YtgcboobdaeeanaaDoorW.PrintWords Go.Proofs.YtgcboobdaeeanaaDoorW.PrintLast Go.Proofs.YtgcboobdaeeanaaDoorW.PrintMore
attribute [local go_sem] max2_int min2_int max_two min_two max_three min_three max_four min_four
attribute [local go_sem] Go.Proofs.YtgcboobdaeeanaaDoor.Hl.str_geq Go.Proofs.YtgcboobdaeeanaaDoor.Hl.str_gtr Go.Proofs.YtgcboobdaeeanaaDoor.Hl.str_leq
set_option linter.unusedVariables false
set_option linter.unusedSimpArgs false
theorem enc_two (r : Int) (h0 : 128 ≤ r) : ∃ e : ByteArray, Utf8.encode r = e ∧ 2 ≤ e.size ∧ e.size ≤ 4 ∧ (e.size = 2 → ∃ x : UInt8, e.data.toList[1]? = some x ∧ 128 ≤ x.toNat) := by
  refine ⟨_, rfl, ?_⟩
  have hc : 128 ≤ (if Utf8.valid r then r.toNat else Utf8.runeError) := by
    split
    · omega
    · decide
  unfold Utf8.encode
  generalize (if Utf8.valid r then r.toNat else Utf8.runeError) = c at hc ⊢
  simp only []
  rw [if_neg (by omega)]
  split
  · refine ⟨Nat.le_refl 2, Nat.le_add_right 2 2, fun _ => ⟨_, rfl, ?_⟩⟩
    rw [UInt8.toNat_ofNat']
    omega
  · split
    · exact ⟨Nat.le_add_right 2 1, Nat.le_add_right 3 1, fun h => absurd h (by show ¬ (3 = 2); decide)⟩
    · exact ⟨Nat.le_add_right 2 2, Nat.le_refl 4, fun h => absurd h (by show ¬ (4 = 2); decide)⟩
set_option maxHeartbeats 4000000 in
set_option maxRecDepth 1000000 in
theorem indexRune_high (r : Int) (w : World) (h0 : 128 ≤ r) (h1 : r ≤ 2147483647) :
    Calls Tryd.prog 38 #[.string ⟨#[47, 0]⟩, .int .i32 r] w fun e w' => e = .returned (.int .i64 (-1)) ∧ Below w.heap.size w w' := by
  have hs : (⟨#[47, 0]⟩ : ByteArray).size = 2 := rfl
  have hle : decide (r < 128) = false := decide_eq_false (by omega)
  by_cases he : r = 65533
  · subst he
    go_enter Tryd.func38, Tryd.ntmps38
    have hn0 := fun ty => run_next_ascii (P := Tryd.prog) w ⟨#[47, 0]⟩ 0 ty (by decide) (by decide)
    have hn1 := fun ty => run_next_ascii (P := Tryd.prog) w ⟨#[47, 0]⟩ 1 ty (by decide) (by decide)
    have hn2 := fun ty => run_next_end (P := Tryd.prog) w ⟨#[47, 0]⟩ 2 ty (by decide)
    go_wp2
    refine wp_loop_rounds 3 ?_
    repeat (rw [rounds_succ]; go_wp2)
    all_goals go_ret
    exact ⟨rfl, (Below.refl _ _).alloc (Nat.le_refl _) _⟩
  · have hne : (r == 65533) = false := beq_eq_false_iff_ne.2 he
    obtain ⟨e, hee, he2, he4, hex⟩ := enc_two r h0
    have hcv : ∀ W : World, (convert 21 9 (.int .i32 r)).run Tryd.prog W = .ok (.string e) W := by
      intro W
      rw [run_convert_int_string W 21 9 .i32 r (by rw [Tryd.underlying21]; rfl) Tryd.underlying9, hee]
    go_enter Tryd.func38, Tryd.ntmps38
    go_wp2_with (go_at_call 45; refine (Tryd.utf8_ValidRune _ _).mono ?_; rintro e2 w2 ⟨rfl, hw⟩; rw [hw])
    · go_ret
      exact ⟨rfl, Below.refl _ _⟩
    · by_cases h2 : e.size = 2
      · obtain ⟨x, hx, hx128⟩ := hex h2
        have hx1 : e[1]'(by omega) = x := by
          have := Lib.data_getElem? e 1 (by omega)
          rw [hx] at this
          exact (Option.some.inj this).symm
        have hxz : (0 == x.toNat) = false := beq_eq_false_iff_ne.2 (by omega)
        go_step3
        go_wp2
        refine wp_loop_rounds 1 ?_
        rw [rounds_succ]
        go_wp2
        go_step3
        go_wp2
        go_quiet (fail)
        have h47 : ((⟨#[47, 0]⟩ : ByteArray)[1]'(by decide)).toNat = 0 := rfl
        go_wp2
        · go_quiet ((go_at_call 17; refine (Tryd.strings_IndexByte _ _ _).mono ?_; rintro e wq ⟨rfl, hwq⟩; exact ⟨rfl, _, hwq⟩))
          go_wp2
          rw [Exit.noGoto_ret]
          go_wp2
          (try rw [Exit.noGoto_ret])
          go_wp2
          go_ret
          exact ⟨rfl, by repeat (first | exact Below.refl _ _ | apply pw_below_drewN)⟩
      · have h3 : 3 ≤ e.size := by omega
        have h3d : decide ((e.size : Int) - 1 < 2) = false := decide_eq_false (by omega)
        go_step3
        go_wp2
        refine wp_loop_rounds 1 ?_
        rw [rounds_succ]
        go_wp2
        rw [Exit.noGoto_ret]
        go_wp2
        go_ret
        exact ⟨rfl, Below.refl _ _⟩
theorem get_of (s : ByteArray) (j : Nat) (h : j < s.size) : s.get! j = s[j]'h := by
  simp [ByteArray.get!, getElem!_pos, h]
  rfl
theorem decode_bytes (s : ByteArray) (i : Nat) (h : i < s.size) (ha : 128 ≤ (s[i]'h).toNat) :
    i + (Utf8.decode s i).2 ≤ s.size ∧ ∀ j, i ≤ j → j < i + (Utf8.decode s i).2 → 128 ≤ (s.get! j).toNat := by
  have h0 : 128 ≤ (s.get! i).toNat := by rw [get_of s i h]; exact ha
  have hc : ∀ k, (decide (i + k < s.size) && (s.get! (i + k)).toNat / 64 == 2) = true → i + k < s.size ∧ 128 ≤ (s.get! (i + k)).toNat := by
    intro k hk
    rw [Bool.and_eq_true] at hk
    have h1 := of_decide_eq_true hk.1
    have h2 := eq_of_beq hk.2
    exact ⟨h1, by omega⟩
  have w1 : i + 1 ≤ s.size ∧ ∀ j, i ≤ j → j < i + 1 → 128 ≤ (s.get! j).toNat := ⟨by omega, fun j h1 h2 => by rw [show j = i by omega]; exact h0⟩
  unfold Utf8.decode
  simp only [Nat.add_zero]
  rw [if_neg (by omega)]
  split
  · rename_i hx
    rw [Bool.and_eq_true] at hx
    have c1 := hc 1 hx.2
    split
    · refine ⟨by show i + 2 ≤ _; omega, fun j h1 h2 => ?_⟩
      have h2 : j < i + 2 := h2
      rcases (show j = i ∨ j = i + 1 by omega) with rfl | rfl
      · exact h0
      · exact c1.2
    · exact w1
  · split
    · rename_i hx
      rw [Bool.and_eq_true, Bool.and_eq_true] at hx
      have c1 := hc 1 hx.1.2
      have c2 := hc 2 hx.2
      split
      · refine ⟨by show i + 3 ≤ _; omega, fun j h1 h2 => ?_⟩
        have h2 : j < i + 3 := h2
        rcases (show j = i ∨ j = i + 1 ∨ j = i + 2 by omega) with rfl | rfl | rfl
        · exact h0
        · exact c1.2
        · exact c2.2
      · exact w1
    · split
      · rename_i hx
        rw [Bool.and_eq_true, Bool.and_eq_true, Bool.and_eq_true] at hx
        have c1 := hc 1 hx.1.1.2
        have c2 := hc 2 hx.1.2
        have c3 := hc 3 hx.2
        split
        · refine ⟨by show i + 4 ≤ _; omega, fun j h1 h2 => ?_⟩
          have h2 : j < i + 4 := h2
          rcases (show j = i ∨ j = i + 1 ∨ j = i + 2 ∨ j = i + 3 by omega) with rfl | rfl | rfl | rfl
          · exact h0
          · exact c1.2
          · exact c2.2
          · exact c3.2
        · exact w1
      · exact w1
theorem noAny_by (s : ByteArray) (i n : Nat) (h : Lib.NoAny s.data.toList [47, 0] i) (hn : i + n ≤ s.size) (hb : ∀ j, i ≤ j → j < i + n → 128 ≤ (s.get! j).toNat) : Lib.NoAny s.data.toList [47, 0] (i + n) := by
  induction n with
  | zero => exact h
  | succ n ih =>
    have h1 := ih (by omega) (fun j h1 h2 => hb j h1 (by omega))
    have h2 := hb (i + n) (by omega) (by omega)
    rw [get_of s (i + n) (by omega)] at h2
    have hx : s.data.toList[i + n]? = some (s[i + n]'(by omega)) := Lib.data_getElem? s (i + n) (by omega)
    refine h1.succ hx ?_
    generalize s[i + n]'(by omega) = x at h2
    have a : (x == 47) = false := beq_eq_false_iff_ne.2 (fun e => by rw [e] at h2; revert h2; decide)
    have b : (x == 0) = false := beq_eq_false_iff_ne.2 (fun e => by rw [e] at h2; revert h2; decide)
    simp [List.contains, List.elem, a, b]
set_option maxHeartbeats 4000000 in
set_option maxRecDepth 1000000 in
theorem indexAny_short (s : ByteArray) (w : World) (h8 : s.size ≤ 8) :
    Calls Tryd.prog 34 #[.string s, .string ⟨#[47, 0]⟩] w fun e w' => e = .returned (.int .i64 (Lib.indexAny s.data.toList [47, 0])) ∧ Below w.heap.size w w' := by
  have h8z : decide ((8 : Int) < (s.size : Int)) = false := decide_eq_false (by omega)
  go_enter Tryd.func34, Tryd.ntmps34
  go_wp2_with (go_at_call 39; refine (Tryd.strings_shouldUseASCIISet _ _).mono ?_; rintro e w' ⟨rfl, hw⟩; rw [hw, h8z])
  go_loopg [9, 10] s.size (fun g _ _ wx => ∃ i : Nat, i ≤ s.size ∧ s.size - i ≤ g ∧ wx.heap[w.heap.size]? = some (.stringIter s i) ∧ Below w.heap.size w wx ∧ Aside0 (Lib.NoAny s.data.toList [47, 0] i))
  case atStart => exact ⟨0, Nat.zero_le _, by omega, World.iter_heap w s 0, (Below.refl _ _).alloc (Nat.le_refl _) _, ⟨Lib.NoAny.zero _ _⟩⟩
  case round =>
    obtain ⟨i, hil, hig, hit, hbel, HN⟩ := hrel
    by_cases hi : i < s.size
    · cases gk with
      | zero => exact absurd hi (by omega)
      | succ g =>
        obtain ⟨x, hx⟩ : ∃ x : UInt8, s[i]'hi = x := ⟨_, rfl⟩
        have hxl : s.data.toList[i]? = some x := by rw [← hx]; exact Lib.data_getElem? s i hi
        have Hx := Aside0.mk hxl
        clear hxl
        by_cases hx128 : x.toNat < 128
        · have hnx := fun ty => Go.Lib.run_next_ascii_at (P := Tryd.prog) wr w.heap.size s i ty hit hi (by rw [hx]; exact hx128)
          rw [hx] at hnx
          have hit2 := Aside0.mk (Go.Lib.iterAt_heap wr w.heap.size s i (i + 1) hit)
          have hbel2 := Aside0.mk (Go.Lib.below_iterAt hbel (Nat.le_refl _) s (i + 1))
          clear hit hbel hx
          generalize wr.iterAt w.heap.size s (i + 1) = w3 at hnx hit2 hbel2
          have hcon := Lib.contains_iff_indexByte [47, 0] x
          have hback : ((x.toNat : Int)).toNat.toUInt8 = x := by simp
          cases hin : [47, 0].contains x
          · rw [hin] at hcon
            have hlt : ¬ ((0 : Int) ≤ Lib.indexByte [47, 0] x) := of_decide_eq_false hcon.symm
            clear hcon
            go_wp2_with (go_at_call 38; refine (Tryd.strings_IndexRune_ascii _ _ _ (by omega) (by omega)).mono ?_; rintro e w' ⟨rfl, hw⟩; rw [hw, hback])
            go_roundg g
            case measure => omega
            case rel => exact ⟨i + 1, by omega, by omega, hit2.out, hbel2.out, ⟨HN.out.succ Hx.out hin⟩⟩
          · rw [hin] at hcon
            have hge : (0 : Int) ≤ Lib.indexByte [47, 0] x := of_decide_eq_true hcon.symm
            clear hcon
            go_wp2_with (go_at_call 38; refine (Tryd.strings_IndexRune_ascii _ _ _ (by omega) (by omega)).mono ?_; rintro e w' ⟨rfl, hw⟩; rw [hw, hback])
            go_ret
            exact ⟨by rw [Lib.indexAny_hit HN.out Hx.out hin]; rfl, hbel2.out⟩
        · have hnx := fun ty => Lib.run_next_any_at (P := Tryd.prog) wr w.heap.size s i ty hit hi
          have hhigh := decode_high s i hi (by rw [hx]; omega)
          have hle := decode_le s i
          have hby := decode_bytes s i hi (by rw [hx]; omega)
          obtain ⟨r, hr⟩ : ∃ r, (Utf8.decode s i).1 = r := ⟨_, rfl⟩
          obtain ⟨d, hd⟩ : ∃ d, (Utf8.decode s i).2 = d := ⟨_, rfl⟩
          rw [hr] at hnx hhigh hle
          rw [hd] at hnx hhigh hby
          have hit2 := Lib.iterAt_heap wr w.heap.size s i (i + d) hit
          have hbel2 := Lib.below_iterAt hbel (Nat.le_refl _) s (i + d)
          clear hit hbel hx
          generalize wr.iterAt w.heap.size s (i + d) = w3 at hnx hit2 hbel2
          have hlt3 : w.heap.size < w3.heap.size := (Array.getElem?_eq_some_iff.1 hit2).1
          have hit3 := Aside0.mk hit2
          have hbel3 := Aside0.mk hbel2
          clear hit2 hbel2
          have HBY := Aside0.mk hby.2
          have hby1 := hby.1
          clear hby
          go_wp2_with (go_at_call 38; refine (indexRune_high _ _ (by omega) (by omega)).mono ?_; rintro e w4 ⟨rfl, hb4⟩; have hit4 := Aside0.mk ((hb4.block _ hlt3).trans hit3.out); have hbel4 := Aside0.mk (hbel3.out.trans (hb4.mono (Nat.le_of_lt hlt3))); clear hb4)
          go_roundg g
          case measure => omega
          case rel => exact ⟨i + d, by omega, by omega, hit4.out, hbel4.out, ⟨noAny_by s i d HN.out hby1 HBY.out⟩⟩
    · obtain rfl : i = s.size := by omega
      have hnx := fun ty => Lib.run_next_end_at (P := Tryd.prog) wr w.heap.size s s.size ty hit (Nat.lt_irrefl _)
      have hbel2 := Aside0.mk hbel
      clear hbel hit
      go_wp2
      go_ret
      exact ⟨by rw [Lib.indexAny_none (by rw [← Lib.size_eq]; exact HN.out)]; rfl, hbel2.out⟩
theorem containsAny_two (s : ByteArray) (w : World) (hs : s.size < 4294967281) :
    Calls Tryd.prog 27 #[.string s, .string ⟨#[47, 0]⟩] w fun e w' => e = .returned (.bool (Lib.containsAny s.data.toList [47, 0])) ∧ Below w.heap.size w w' := by
  have hany : ∀ W : World, Calls Tryd.prog 34 #[.string s, .string ⟨#[47, 0]⟩] W fun e w' => e = .returned (.int .i64 (Lib.indexAny s.data.toList [47, 0])) ∧ Below W.heap.size W w' := by
    intro W
    by_cases h8 : s.size ≤ 8
    · exact indexAny_short s W h8
    · refine (Tryd.strings_IndexAny_long (fun w => by kernel_rfl) s ⟨#[47, 0]⟩ W (by decide) (by omega) hs (by decide) ?_).mono ?_
      · intro j b hb
        match j, hb with
        | 0, hb => cases hb; decide
        | 1, hb => cases hb; decide
        | j + 2, hb => simp at hb
      · rintro e w' ⟨rfl, rfl⟩
        exact ⟨rfl, ((Below.refl _ _).alloc (Nat.le_refl _) _).alloc (by simp) _⟩
  go_enter Tryd.func27, Tryd.ntmps27
  go_wp2_with (go_at_call 34; refine (hany _).mono ?_; rintro e w' ⟨rfl, hb⟩)
  go_ret
  exact ⟨rfl, hb⟩
def strings_ContainsAny.f (a0 : ByteArray) (a1 : ByteArray) : Option (Bool) := if a1 = ⟨#[47, 0]⟩ ∧ a0.size < 4294967281 then some (Lib.containsAny a0.data.toList [47, 0]) else none
set_option maxHeartbeats 8000000 in
set_option maxRecDepth 100000 in
theorem strings_ContainsAny.calls (a0 : ByteArray) (a1 : ByteArray) (r : Bool) (w : World) (h : strings_ContainsAny.f a0 a1 = some r) :
    Calls Tryd.prog 27 #[.string a0, .string a1] w fun e w' => e = .returned (.bool r) ∧ Below w.heap.size w w' := by
  unfold strings_ContainsAny.f at h
  split at h
  · rename_i hx
    obtain ⟨rfl, hs⟩ := hx
    obtain rfl := Option.some.inj h
    exact containsAny_two a0 w hs
  · cases h
end Go.Proofs.YtgcboobdaeeanaaDoor.Pr
end
section
namespace Go.Proofs.YtgcboobdaeeanaaDoor.Pr
open Go.RowKit Go.Proofs.YtgcboobdaeeanaaDoorW.PrintWords Go.Proofs.YtgcboobdaeeanaaDoorW.PrintLast Go.Proofs.YtgcboobdaeeanaaDoorW.PrintMore
attribute [local go_sem] max2_int min2_int max_two min_two max_three min_three max_four min_four
attribute [local go_sem] Go.Proofs.YtgcboobdaeeanaaDoor.Hl.str_geq Go.Proofs.YtgcboobdaeeanaaDoor.Hl.str_gtr Go.Proofs.YtgcboobdaeeanaaDoor.Hl.str_leq
set_option linter.unusedVariables false
set_option linter.unusedSimpArgs false
def leaf_May.f (a0 : ByteArray) : Option (Bool) := if a0.toList = ([] : List UInt8) then (some false) else (if (a0.size : Int) > 32 then (some false) else (if a0.toList = ([46] : List UInt8) then (some false) else (if a0.toList = ([46, 46] : List UInt8) then (some false) else ((strings_ContainsAny.f a0 (⟨#[47, 0]⟩ : ByteArray)).bind fun t104 => (some (!t104))))))
set_option maxHeartbeats 8000000 in
set_option maxRecDepth 100000 in
theorem leaf_May.calls (a0 : ByteArray) (r : Bool) (w : World) (h : leaf_May.f a0 = some r) :
    Calls Tryd.prog 19 #[.string a0] w fun e w' => e = .returned (.bool r) ∧ Below w.heap.size w w' := by
  have HB := Aside0.mk (Below.refl w.heap.size w)
  have H : (if a0.toList = ([] : List UInt8) then (some false) else (if (a0.size : Int) > 32 then (some false) else (if a0.toList = ([46] : List UInt8) then (some false) else (if a0.toList = ([46, 46] : List UInt8) then (some false) else ((strings_ContainsAny.f a0 (⟨#[47, 0]⟩ : ByteArray)).bind fun t104 => (some (!t104))))))) = some r := h
  clear h
  by_cases c2 : a0.toList = ([] : List UInt8)
  · rw [if_pos c2] at H
    have c2b0 : (a0.toList == ([] : List UInt8)) = true := beq_iff_eq.mpr c2
    have c2b1 : (a0.toList != ([] : List UInt8)) = false := bne_eq_false_iff_eq.mpr c2
    clear c2
    obtain rfl := Option.some.inj H
    go_enter Tryd.func19, Tryd.ntmps19
    go_wp2
    go_ret
    exact ⟨by first | rfl | (simp [errW_none, errW_some] <;> rfl) | (simp [*, errW_none, errW_some] <;> rfl), by repeat (first | (with_reducible first | exact HB.out | apply below_alloc | apply pw_below_drewN | apply below_drew1) | exact HB.out)⟩
  · rw [if_neg c2] at H
    have c2b0 : (a0.toList == ([] : List UInt8)) = false := beq_eq_false_iff_ne.mpr c2
    have c2b1 : (a0.toList != ([] : List UInt8)) = true := bne_iff_ne.mpr c2
    by_cases c3 : (a0.size : Int) > 32
    · rw [if_pos c3] at H
      have c3b0 : decide (32 < (a0.size : Int)) = true := decide_eq_true c3
      have c3b1 : decide (32 < a0.size) = true := decide_eq_true (by omega)
      clear c3
      obtain rfl := Option.some.inj H
      go_enter Tryd.func19, Tryd.ntmps19
      go_wp2
      go_ret
      exact ⟨by first | rfl | (simp [errW_none, errW_some] <;> rfl) | (simp [*, errW_none, errW_some] <;> rfl), by repeat (first | (with_reducible first | exact HB.out | apply below_alloc | apply pw_below_drewN | apply below_drew1) | exact HB.out)⟩
    · rw [if_neg c3] at H
      have c3b0 : decide (32 < (a0.size : Int)) = false := decide_eq_false c3
      have c3b1 : decide (32 < a0.size) = false := decide_eq_false (by omega)
      clear c3
      by_cases c4 : a0.toList = ([46] : List UInt8)
      · rw [if_pos c4] at H
        have c4b0 : (a0.toList == ([46] : List UInt8)) = true := beq_iff_eq.mpr c4
        have c4b1 : (a0.toList != ([46] : List UInt8)) = false := bne_eq_false_iff_eq.mpr c4
        clear c4
        obtain rfl := Option.some.inj H
        go_enter Tryd.func19, Tryd.ntmps19
        go_wp2
        go_ret
        exact ⟨by first | rfl | (simp [errW_none, errW_some] <;> rfl) | (simp [*, errW_none, errW_some] <;> rfl), by repeat (first | (with_reducible first | exact HB.out | apply below_alloc | apply pw_below_drewN | apply below_drew1) | exact HB.out)⟩
      · rw [if_neg c4] at H
        have c4b0 : (a0.toList == ([46] : List UInt8)) = false := beq_eq_false_iff_ne.mpr c4
        have c4b1 : (a0.toList != ([46] : List UInt8)) = true := bne_iff_ne.mpr c4
        by_cases c5 : a0.toList = ([46, 46] : List UInt8)
        · rw [if_pos c5] at H
          have c5b0 : (a0.toList == ([46, 46] : List UInt8)) = true := beq_iff_eq.mpr c5
          have c5b1 : (a0.toList != ([46, 46] : List UInt8)) = false := bne_eq_false_iff_eq.mpr c5
          clear c5
          obtain rfl := Option.some.inj H
          go_enter Tryd.func19, Tryd.ntmps19
          go_wp2
          go_ret
          exact ⟨by first | rfl | (simp [errW_none, errW_some] <;> rfl) | (simp [*, errW_none, errW_some] <;> rfl), by repeat (first | (with_reducible first | exact HB.out | apply below_alloc | apply pw_below_drewN | apply below_drew1) | exact HB.out)⟩
        · rw [if_neg c5] at H
          have c5b0 : (a0.toList == ([46, 46] : List UInt8)) = false := beq_eq_false_iff_ne.mpr c5
          have c5b1 : (a0.toList != ([46, 46] : List UInt8)) = true := bne_iff_ne.mpr c5
          replace H := Option.bind_eq_some_iff.mp H
          obtain ⟨t104, A60, H⟩ := H
          replace H : (some (!t104)) = some r := H
          have A6 := Aside0.mk A60
          clear A60
          obtain rfl := Option.some.inj H
          go_enter Tryd.func19, Tryd.ntmps19
          go_wp2_with (first | ((with_reducible refine gate_callee (f := 27) rfl ?_); refine goesL_ (some 14) rfl rfl Tryd.func27 (by kernel_rfl) rfl #[.string a0, .string (⟨#[47, 0]⟩ : ByteArray)] rfl (by (try simp only [List.map_toArray, List.map_cons, List.map_nil]); first | done | rfl | (simp only [List.length_drop, List.length_take]; rfl)) ?_; (with_reducible refine (strings_ContainsAny.calls a0 (⟨#[47, 0]⟩ : ByteArray) t104 _ A6.out).mono ?_); rintro e w7 ⟨rfl, hb⟩; refine ⟨_, rfl, ?_⟩; have n0_ := Aside0.mk (below_step (by repeat (first | (with_reducible first | exact HB.out | apply below_alloc | apply pw_below_drewN | apply below_drew1) | exact HB.out)) hb); clear HB; have HB := n0_; clear n0_; (try clear hb); (try clear hb2); (try clear hk); (try clear hi)))
          go_ret
          exact ⟨by first | rfl | (simp [errW_none, errW_some] <;> rfl) | (simp [*, errW_none, errW_some] <;> rfl), by repeat (first | (with_reducible first | exact HB.out | apply below_alloc | apply pw_below_drewN | apply below_drew1) | exact HB.out)⟩
end Go.Proofs.YtgcboobdaeeanaaDoor.Pr
end
section
namespace Go.Proofs.YtgcboobdaeeanaaDoor.Sq
open Go.RowKit Go.Proofs.YtgcboobdaeeanaaDoorW.PrintWords Go.Proofs.YtgcboobdaeeanaaDoorW.PrintMore Go.Proofs.YtgcboobdaeeanaaDoor.Pr Go.Proofs.YtgcboobdaeeanaaDoor.Od
set_option linter.unusedVariables false
set_option linter.unusedSimpArgs false
theorem Ev.succ {α : Type} {g : Nat → Option α} {r : α} (h : Ev (fun k => g (k + 1)) r) : Ev g r := Ev.step (fun _ => rfl) h
theorem bs {α β : Type} (a : α) (f : α → Option β) : (some a).bind f = f a := by
  cases h : f a with
  | none => exact (Option.bind_some a f).trans h
  | some v => exact (Option.bind_some a f).trans h
theorem w64 {n : Int} (h0 : -9223372036854775808 ≤ n) (h1 : n ≤ 9223372036854775807) : wrap64 n = n := by unfold wrap64; omega
theorem size_nb (s : ByteArray) : s.size = s.data.toList.length := Lib.size_eq _
def mayB (s : ByteArray) : Bool := decide (1 ≤ s.size) && decide (s.size ≤ 32) && decide (s.data.toList ≠ [46]) && decide (s.data.toList ≠ [46, 46]) && s.data.toList.all (fun b => b != 0 && b != 47)
theorem containsAny_cons (b : UInt8) (l : List UInt8) (cs : List UInt8) : Lib.containsAny (b :: l) cs = (cs.contains b || Lib.containsAny l cs) := by
  have h := Lib.indexAny_ge cs l
  unfold Lib.containsAny
  rw [Lib.indexAny]
  by_cases hb : cs.contains b = true
  · rw [if_pos hb, hb]; rfl
  · have hb' : cs.contains b = false := by simpa using hb
    rw [hb']
    simp only [Bool.false_eq_true, if_false, Bool.false_or]
    by_cases hi : Lib.indexAny l cs = -1
    · simp [hi]
    · have e : (Lib.indexAny l cs == -1) = false := beq_eq_false_iff_ne.2 hi
      rw [e]
      simp only [Bool.false_eq_true, if_false]
      rw [decide_eq_true (show (0 : Int) ≤ Lib.indexAny l cs + 1 by omega), decide_eq_true (show (0 : Int) ≤ Lib.indexAny l cs by omega)]
theorem containsAny_all : ∀ l : List UInt8, Lib.containsAny l [47, 0] = !(l.all (fun b => b != 0 && b != 47))
  | [] => rfl
  | b :: l => by
    rw [containsAny_cons, containsAny_all l, List.all_cons, Bool.not_and]
    congr 1
    simp only [List.contains_cons, List.contains_nil, Bool.or_false]
    by_cases h0 : b = 0
    · subst h0; rfl
    · by_cases h1 : b = 47
      · subst h1; rfl
      · have e0 : (b == 0) = false := beq_eq_false_iff_ne.2 h0
        have e1 : (b == 47) = false := beq_eq_false_iff_ne.2 h1
        rw [bne, bne, e0, e1]; rfl
theorem may_some (s : ByteArray) : leaf_May.f s = some (mayB s) := by
  unfold leaf_May.f mayB
  rw [Lib.toList_data]
  by_cases h0 : s.data.toList = []
  · have : s.size = 0 := by rw [size_nb, h0]; rfl
    rw [if_pos h0, this]; rfl
  · have hp : 1 ≤ s.size := by rw [size_nb]; have := List.length_pos_iff.2 h0; omega
    rw [if_neg h0]
    by_cases h1 : (s.size : Int) > 32
    · rw [if_pos h1, decide_eq_false (show ¬ s.size ≤ 32 by omega)]; simp
    · rw [if_neg h1, decide_eq_true (show s.size ≤ 32 by omega), decide_eq_true hp]
      by_cases h2 : s.data.toList = [46]
      · rw [if_pos h2]; simp [h2]
      · rw [if_neg h2]
        by_cases h3 : s.data.toList = [46, 46]
        · rw [if_pos h3]; simp [h3]
        · rw [if_neg h3]
          unfold strings_ContainsAny.f
          rw [if_pos ⟨rfl, by omega⟩, Option.bind_some, containsAny_all]
          simp [h2, h3]
end Go.Proofs.YtgcboobdaeeanaaDoor.Sq
end
section
namespace Go.Proofs.YtgcboobdaeeanaaDoor.Sq
open Go Go.RowKit Go.Proofs.YtgcboobdaeeanaaDoorW.PrintWords Go.Proofs.YtgcboobdaeeanaaDoorW.PrintMore Go.Proofs.YtgcboobdaeeanaaDoor.Pr Go.Proofs.YtgcboobdaeeanaaDoor.Od
set_option linter.unusedVariables false
set_option linter.unusedSimpArgs false
def wren : Go.Shelf.Ren := ⟨fun | 166 => 20 | 240 => 28 | 276 => 35 | n => n, fun | 37 => 41 | 70 => 40 | 72 => 43 | 75 => 45 | 80 => 49 | 164 => 55 | n => n, fun n => n⟩
theorem lays166 : Go.Proofs.Lays.n166 Tryd.prog wren := {
  mixed := by kernel_rfl
  f166 := by kernel_rfl
  f240 := by kernel_rfl
  f276 := by kernel_rfl
  t0 := Tryd.underlying0
  a0 := Tryd.isAgg0
  z0 := Tryd.sizeOf0
  v0 := Tryd.zeroValue0
  t3 := Tryd.underlying3
  a3 := Tryd.isAgg3
  z3 := Tryd.sizeOf3
  v3 := Tryd.zeroValue3
  t4 := Tryd.underlying4
  a4 := Tryd.isAgg4
  z4 := Tryd.sizeOf4
  v4 := Tryd.zeroValue4
  t9 := Tryd.underlying9
  a9 := Tryd.isAgg9
  z9 := Tryd.sizeOf9
  v9 := Tryd.zeroValue9
  t20 := Tryd.underlying20
  a20 := Tryd.isAgg20
  z20 := Tryd.sizeOf20
  v20 := Tryd.zeroValue20
  t37 := Tryd.underlying41
  a37 := Tryd.isAgg41
  z37 := Tryd.sizeOf41
  v37 := Tryd.zeroValue41
  t70 := Tryd.underlying40
  a70 := Tryd.isAgg40
  z70 := Tryd.sizeOf40
  v70 := Tryd.zeroValue40
  t72 := Tryd.underlying43
  a72 := Tryd.isAgg43
  z72 := Tryd.sizeOf43
  v72 := Tryd.zeroValue43
  t75 := Tryd.underlying45
  a75 := Tryd.isAgg45
  z75 := Tryd.sizeOf45
  v75 := Tryd.zeroValue45
  t164 := Tryd.underlying55
  a164 := Tryd.isAgg55
  z164 := Tryd.sizeOf55
  v164 := Tryd.zeroValue55 }
theorem extra166 : Go.Proofs.Builder.Extra Tryd.prog wren := {
  sizeBuilder := by kernel_rfl
  liesBuilder := by kernel_rfl
  t5 := Tryd.underlying5
  a5 := Tryd.isAgg5
  z5 := Tryd.sizeOf5
  v5 := Tryd.zeroValue5
  infoByte := by kernel_rfl
  cellsByte := by kernel_rfl
  sizeByte := by kernel_rfl
  neB5 := by decide }
theorem write_string (B b : Nat) (bs : List Value) (s : ByteArray) (w : World) (h : Lib.IsBuilder 43 5 B b bs w) (hlen : bs.length + s.size ≤ 140737488355328) (hBw : B ≤ w.heap.size) :
    Calls Tryd.prog 20 #[.pointer (some ⟨b, 0, none⟩), .string s] w fun e w' => e = .returned (.tuple #[.int .i64 s.size, .nilIface]) ∧ (Lib.BuilderAt 43 5 B b (.pointer (some ⟨b, 0, none⟩)) (bs ++ Lib.strCells s) w' ∧ Below B w w') := Any.Builder_WriteString lays166 extra166 B b bs s w h hlen hBw
def catL (l : List ByteArray) : List UInt8 := l.flatMap (fun s => 47 :: s.data.toList)
def okJ (s : ByteArray) : Bool := decide (s.data.toList = [46, 46]) || mayB s
def joinR (l : List ByteArray) : ByteArray × Int := if l.all okJ = true then (if (catL l).length > 256 then (⟨#[]⟩, 2) else if (catL l).length = 0 then (⟨#[47]⟩, 0) else (⟨(catL l).toArray⟩, 0)) else (⟨#[]⟩, 1)
theorem catL_take {l : List ByteArray} {j : Nat} (h : j < l.length) : catL (l.take (j + 1)) = catL (l.take j) ++ (47 :: l[j].data.toList) := by
  rw [catL, catL, List.take_succ_eq_append_getElem h, List.flatMap_append]; simp
theorem catL_le (l : List ByteArray) (j : Nat) : (catL (l.take j)).length ≤ (catL l).length := by
  have : catL l = catL (l.take j) ++ catL (l.drop j) := by
    unfold catL
    rw [← List.flatMap_append, List.take_append_drop]
  rw [this, List.length_append]; omega
theorem builder_below {T e : TypeId} {B b : Nat} {p : Value} {bs : List Value} {W W' : World} (h : Lib.BuilderAt T e B b p bs W) (hb : Below W.heap.size W W') : Lib.BuilderAt T e B b p bs W' := by
  obtain ⟨h1, v, h2, h3, h4⟩ := h
  refine ⟨h1, v, (hb.block b (Array.getElem?_eq_some_iff.1 h2).1).trans h2, ⟨h3.1, ?_⟩, h4⟩
  rcases h3.2 with h | ⟨g, cap, cur, e1, e2, e3, rest⟩
  · exact .inl h
  · exact .inr ⟨g, cap, cur, e1, e2, (hb.block g (Array.getElem?_eq_some_iff.1 e3).1).trans e3, rest⟩
theorem isBuilder_below {T e : TypeId} {B b : Nat} {bs : List Value} {W W' : World} (h : Lib.IsBuilder T e B b bs W) (hb : Below W.heap.size W W') : Lib.IsBuilder T e B b bs W' :=
  h.imp (fun h => builder_below h hb) (fun h => builder_below h hb)
theorem cells_next (a : List UInt8) (s : ByteArray) : Lib.byteCells a ++ Lib.strCells ((⟨#[47]⟩ : ByteArray) ++ s) = Lib.byteCells (a ++ (47 :: s.data.toList)) := by
  have e : ((⟨#[47]⟩ : ByteArray) ++ s).data.toList = 47 :: s.data.toList := by rw [ByteArray.data_append, Array.toList_append]; rfl
  unfold Lib.byteCells Lib.strCells
  rw [List.map_append, e]
set_option maxHeartbeats 4000000 in
set_option maxRecDepth 100000 in
theorem join_walk (A0 : Option Addr) (c0 : Nat) (l : List ByteArray) (w : World) (hr0 : Kd.C Kd.string w A0 l.length l) (hc0 : l.length ≤ c0) (hb : (catL l).length ≤ 140737488355328) :
    Calls Tryd.prog 12 #[.slice A0 l.length c0] w fun e w' => e = .returned (.tuple #[.string (joinR l).1, .int .i64 (joinR l).2]) ∧ Below w.heap.size w w' := by
  have HR0 := Aside0.mk hr0
  have HB := Aside0.mk hb
  have HLN := Aside0.mk (show l.length ≤ 9223372036854775807 from hr0.2.1)
  clear hr0 hc0 hb
  go_enter Tryd.func12, Tryd.ntmps12
  go_wp2
  go_loopw [9] (fun i wr => ∃ j : Nat, j ≤ l.length ∧ i = .int .i64 j ∧ Aside0 (Lib.IsBuilder 43 5 w.heap.size w.heap.size (Lib.byteCells (catL (l.take j))) wr) ∧ Aside0 (Below w.heap.size w wr) ∧ Aside0 ((l.take j).all okJ = true)) (fun i _ => l.length - (intOf i).toNat)
  case atStart => exact ⟨0, Nat.zero_le _, rfl, ⟨Lib.fresh_isBuilder 43 5 w⟩, ⟨(Below.refl _ w).alloc (Nat.le_refl _) _⟩, ⟨rfl⟩⟩
  case round =>
    obtain ⟨j, hj, rfl, HIB, HBL, HOK⟩ := hrel
    by_cases hjl : j < l.length
    · have hjb : decide ((j : Int) < (l.length : Int)) = true := decide_eq_true (by omega)
      obtain ⟨ad, ead, hca⟩ := Kd.at_string HR0.out (j : Int) (by omega) (by omega)
      cases ead
      obtain ⟨s, hs⟩ : ∃ s, rdOf ByteArray.empty l (j : Int) = s := ⟨_, rfl⟩
      have hs2 : l[j] = s := by rw [← hs]; unfold rdOf; rw [Int.toNat_natCast, List.getD_eq_getElem?_getD, List.getElem?_eq_getElem hjl]; rfl
      rw [hs] at hca
      rw [Int.toNat_natCast] at hca
      replace hca := (HBL.out.cell (World.block_lt_of_cell? w _ hca)).trans hca
      have hp0 : (0 ≤ (j : Int)) = True := eq_true (by omega)
      have hp1 : ((j : Int) < (l.length : Int)) = True := eq_true (by omega)
      have hwj : wrap64 ((j : Int) + 1) = (j : Int) + 1 := by have := HLN.out; unfold wrap64; omega
      have HCT := Aside0.mk (catL_take hjl)
      have HLE := Aside0.mk (catL_le l (j + 1))
      rw [hs2] at HCT
      have HSZ := Aside0.mk (show ((⟨#[47]⟩ : ByteArray) ++ s).size = 1 + s.size by rw [ByteArray.size_append]; rfl)
      clear hp0 hp1 hs
      have hp0 : (0 ≤ (j : Int)) = True := eq_true (by omega)
      have hp1 : ((j : Int) < (l.length : Int)) = True := eq_true (by omega)
      have hsb : 1 + s.size ≤ 140737488355328 := by
        have h1 := HLE.out
        have h2 := HB.out
        rw [HCT.out] at h1
        simp only [List.length_append, List.length_cons, ← Lib.size_eq] at h1
        omega
      have hq0 : (1 + s.size ≤ 9223372036854775807) = True := eq_true (by omega)
      have hq1 : decide (1 + s.size ≤ 9223372036854775807) = true := decide_eq_true (by omega)
      have hq2 : (9223372036854775807 < 1 + s.size) = False := eq_false (by omega)
      clear hsb
      by_cases hup : s.data.toList = [46, 46]
      · have e1 : (s.toList != ([46, 46] : List UInt8)) = false := by rw [Lib.toList_data, hup]; rfl
        have e2 : (s.toList == ([46, 46] : List UInt8)) = true := by rw [Lib.toList_data, hup]; rfl
        go_wp2_with (go_at_call 20; refine (write_string w.heap.size w.heap.size _ ((⟨#[47]⟩ : ByteArray) ++ s) _ HIB.out (by rw [HSZ.out, Lib.byteCells_length]; have h1 := HLE.out; have h2 := HB.out; rw [HCT.out] at h1; simp only [List.length_append, List.length_cons, ← Lib.size_eq] at h1; omega) HBL.out.size).mono ?_; rintro e w2 ⟨rfl, hBA, hb2⟩; rw [cells_next, ← HCT.out] at hBA; have HBA := Aside0.mk hBA; have HBL2 := Aside0.mk (HBL.out.trans hb2); clear hBA hb2)
        go_roundw
        case rel => exact ⟨j + 1, by omega, by rw [hwj]; rfl, ⟨.inr HBA.out⟩, HBL2, ⟨by rw [List.take_succ_eq_append_getElem hjl, List.all_append, HOK.out, hs2]; simp [okJ, hup]⟩⟩
        case measure =>
          rw [hwj]
          show l.length - ((j : Int) + 1).toNat < l.length - (j : Int).toNat
          omega
      · have e1 : (s.toList != ([46, 46] : List UInt8)) = true := by rw [Lib.toList_data]; exact bne_iff_ne.2 hup
        have e2 : (s.toList == ([46, 46] : List UInt8)) = false := by rw [Lib.toList_data]; exact beq_eq_false_iff_ne.2 hup
        by_cases hmv : mayB s = true
        · go_wp2_with (first | (go_at_call 20; refine (write_string w.heap.size w.heap.size _ ((⟨#[47]⟩ : ByteArray) ++ s) _ HIB1.out (by rw [HSZ.out, Lib.byteCells_length]; have h1 := HLE.out; have h2 := HB.out; rw [HCT.out] at h1; simp only [List.length_append, List.length_cons, ← Lib.size_eq] at h1; omega) HBL1.out.size).mono ?_; rintro e w2 ⟨rfl, hBA, hb2⟩; rw [cells_next, ← HCT.out] at hBA; have HBA := Aside0.mk hBA; have HBL2 := Aside0.mk (HBL1.out.trans hb2); clear hBA hb2) | (go_at_call 19; refine (leaf_May.calls s (mayB s) _ (may_some s)).mono ?_; rintro e w1 ⟨rfl, hb1⟩; rw [hmv]; have HIB1 := Aside0.mk (isBuilder_below HIB.out hb1); have HBL1 := Aside0.mk (HBL.out.trans (hb1.mono HBL.out.size)); clear hb1))
          go_roundw
          case rel => exact ⟨j + 1, by omega, by rw [hwj]; rfl, ⟨.inr HBA.out⟩, HBL2, ⟨by rw [List.take_succ_eq_append_getElem hjl, List.all_append, HOK.out, hs2]; simp [okJ, hmv]⟩⟩
          case measure =>
          rw [hwj]
          show l.length - ((j : Int) + 1).toNat < l.length - (j : Int).toNat
          omega
        · have hmv : mayB s = false := by simpa using hmv
          go_wp2_with (go_at_call 19; refine (leaf_May.calls s (mayB s) _ (may_some s)).mono ?_; rintro e w1 ⟨rfl, hb1⟩; rw [hmv]; have HIB1 := Aside0.mk (isBuilder_below HIB.out hb1); have HBL1 := Aside0.mk (HBL.out.trans (hb1.mono HBL.out.size)); clear hb1)
          go_ret2
          refine ⟨?_, HBL1.out⟩
          rw [show joinR l = (⟨#[]⟩, 1) by unfold joinR; rw [if_neg (fun h => by have := List.all_eq_true.1 h s (by rw [← hs2]; exact List.getElem_mem hjl); simp [okJ, hup, hmv] at this)]]
          rfl
    · obtain rfl : j = l.length := by omega
      have hjb : decide ((l.length : Int) < (l.length : Int)) = false := decide_eq_false (by omega)
      rw [List.take_length] at HIB HOK
      obtain ⟨n, hn⟩ : ∃ n, (catL l).length = n := ⟨_, rfl⟩
      have HLNN := Aside0.mk (show (Lib.byteCells (catL l)).length = n by rw [Lib.byteCells_length, hn])
      have hJ : joinR l = if n > 256 then (⟨#[]⟩, 2) else if n = 0 then (⟨#[47]⟩, 0) else (⟨(catL l).toArray⟩, 0) := by unfold joinR; rw [if_pos HOK.out, hn]
      have HJ := Aside0.mk hJ
      clear hJ
      by_cases h256 : n > 256
      · have hnb : decide (256 < (n : Int)) = true := decide_eq_true (by omega)
        have hnb' : decide (256 < n) = true := decide_eq_true h256
        have HJ2 := Aside0.mk (HJ.out.trans (if_pos h256))
        clear hn
        go_wp2_with (go_at_call 21; refine (Tryd.Builder_Len w.heap.size w.heap.size _ _ HIB.out).mono ?_; rintro e w1 ⟨rfl, rfl⟩; rw [HLNN.out])
        go_ret2
        exact ⟨by rw [HJ2.out]; rfl, HBL.out⟩
      · have hnb : decide (256 < (n : Int)) = false := decide_eq_false (by omega)
        have hnb' : decide (256 < n) = false := decide_eq_false h256
        by_cases h0 : n = 0
        · have hz : ((n : Int) == 0) = true := beq_iff_eq.2 (by omega)
          have hz' : (n == 0) = true := beq_iff_eq.2 h0
          have HJ2 := Aside0.mk (HJ.out.trans ((if_neg h256).trans (if_pos h0)))
          clear hn h0
          go_wp2_with (go_at_call 21; refine (Tryd.Builder_Len w.heap.size w.heap.size _ _ HIB.out).mono ?_; rintro e w1 ⟨rfl, rfl⟩; rw [HLNN.out])
          go_ret2
          exact ⟨by rw [HJ2.out]; rfl, HBL.out⟩
        · have hz : ((n : Int) == 0) = false := beq_eq_false_iff_ne.2 (by omega)
          have hz' : (n == 0) = false := beq_eq_false_iff_ne.2 h0
          have HJ2 := Aside0.mk (HJ.out.trans ((if_neg h256).trans (if_neg h0)))
          clear hn h0
          go_wp2_with (first | (go_at_call 22; refine (Tryd.Builder_String_any w.heap.size w.heap.size _ _ HIB.out HBL.out.size).mono ?_; rintro e w2 ⟨rfl, hb2⟩; have HBL2 := Aside0.mk (HBL.out.trans hb2); clear hb2) | (go_at_call 21; refine (Tryd.Builder_Len w.heap.size w.heap.size _ _ HIB.out).mono ?_; rintro e w1 ⟨rfl, rfl⟩; rw [HLNN.out]))
          go_ret2
          exact ⟨by rw [HJ2.out]; rfl, HBL2.out⟩
end Go.Proofs.YtgcboobdaeeanaaDoor.Sq
end
section
namespace Go.Proofs.YtgcboobdaeeanaaDoor.Sq
open Go.RowKit Go.Proofs.YtgcboobdaeeanaaDoor.Od
set_option linter.unusedVariables false
set_option linter.unusedSimpArgs false
theorem idx_none : ∀ (l : List UInt8) (c : UInt8), Lib.indexByte l c < 0 ↔ c ∉ l
  | [], c => by simp [Lib.indexByte]
  | b :: l, c => by
    have ih := idx_none l c
    have hge := Lib.indexByte_ge l c
    simp only [Lib.indexByte, List.mem_cons]
    by_cases hb : b = c
    · subst hb; simp
    · have hb' : (b == c) = false := beq_eq_false_iff_ne.2 hb
      simp only [hb', Bool.false_eq_true, if_false]
      by_cases e : Lib.indexByte l c = -1
      · rw [e]
        have : c ∉ l := ih.1 (by omega)
        simp [this]
        exact fun h => hb h.symm
      · have e' : (Lib.indexByte l c == -1) = false := beq_eq_false_iff_ne.2 e
        have hc : ¬ c ∉ l := fun h => by have := ih.2 h; omega
        rw [e']
        simp only [Bool.false_eq_true, if_false]
        constructor
        · intro h; omega
        · intro h; exact absurd (fun h2 => h (Or.inr h2)) hc
theorem splitL_end : ∀ cur : List UInt8, 47 ∉ cur → splitL cur = [cur]
  | [], _ => rfl
  | b :: l, h => by
    rw [splitL, if_neg (fun e => h (by rw [e]; exact List.mem_cons_self)), splitL_end l (fun h2 => h (List.mem_cons_of_mem _ h2))]
theorem splitL_cut : ∀ (cur rest : List UInt8), 47 ∉ cur → splitL (cur ++ 47 :: rest) = cur :: splitL rest
  | [], rest, _ => by rw [List.nil_append, splitL, if_pos rfl]
  | b :: l, rest, h => by
    rw [List.cons_append, splitL, if_neg (fun e => h (by rw [e]; exact List.mem_cons_self)), splitL_cut l rest (fun h2 => h (List.mem_cons_of_mem _ h2))]
def sum1 (ls : List (List UInt8)) : Nat := ls.foldr (fun l n => 1 + l.length + n) 0
theorem sum1_cons (l : List UInt8) (ls : List (List UInt8)) : sum1 (l :: ls) = 1 + l.length + sum1 ls := rfl
theorem catL_sum : ∀ l : List ByteArray, (catL l).length = sum1 (l.map (fun s => s.data.toList))
  | [] => rfl
  | s :: l => by
    have ih := catL_sum l
    unfold catL at *
    rw [List.flatMap_cons, List.length_append, List.length_cons, ih, List.map_cons, sum1_cons]; omega
theorem catL_cons (s : ByteArray) (l : List ByteArray) : catL (s :: l) = 47 :: (s.data.toList ++ catL l) := by unfold catL; rw [List.flatMap_cons]; rfl
theorem splitL_cat : ∀ (q : ByteArray) (l : List ByteArray), (∀ s ∈ q :: l, 47 ∉ s.data.toList) → splitL (q.data.toList ++ catL l) = (q :: l).map (fun s => s.data.toList)
  | q, [], h => by
    rw [show catL [] = [] from rfl, List.append_nil, splitL_end _ (h q (by simp))]; rfl
  | q, r :: l, h => by
    rw [catL_cons, splitL_cut _ _ (h q (by simp)), splitL_cat r l (fun s hs => h s (List.mem_cons_of_mem _ hs))]; rfl
theorem to_list (l : List UInt8) : (⟨l.toArray⟩ : ByteArray).data.toList = l := by simp
theorem of_list (s : ByteArray) : (⟨s.data.toList.toArray⟩ : ByteArray) = s := str_ext (by simp)
def splitB (l : List UInt8) : List ByteArray × Bool × Int := match l with
  | 47 :: t => if 0 ∈ t then ([], false, 1) else if t.length + 1 > 256 then ([], false, 2) else runR ((splitL t).map (fun l => ⟨l.toArray⟩))
  | _ => ([], false, 1)
theorem split_B (s : ByteArray) : splitR s = splitB s.data.toList := by
  unfold splitR splitB
  have hsz : s.size = s.data.toList.length := Lib.size_eq s
  cases hl : s.data.toList with
  | nil => rfl
  | cons b t =>
    rw [hl, List.length_cons] at hsz
    by_cases hb : b = 47
    · subst hb
      have h1 : Lib.hasPrefix (47 :: t) [47] = true := by simp [Lib.hasPrefix, List.isPrefixOf]
      have h2 : Lib.trimPrefix (47 :: t) [47] = t := by unfold Lib.trimPrefix; rw [if_pos h1]; rfl
      rw [if_pos h1, h2]
      have hz := idx_none (47 :: t) 0
      by_cases h0 : (0 : UInt8) ∈ t
      · rw [if_neg (fun h => hz.1 h (List.mem_cons_of_mem _ h0))]
        simp only [if_pos h0]
      · rw [if_pos (hz.2 (fun h => by rcases List.mem_cons.1 h with h | h; exact absurd h (by decide); exact h0 h))]
        simp only [if_neg h0]
        by_cases hs : t.length + 1 > 256
        · rw [if_neg (by omega)]; simp only [if_pos hs]
        · rw [if_pos (by omega)]
          simp only [if_neg hs]
          unfold pieces
          rw [to_list]
    · have h1 : ¬ Lib.hasPrefix (b :: t) [47] = true := by
        simp [Lib.hasPrefix, List.isPrefixOf]
        exact fun h => hb h.symm
      rw [if_neg h1]
      split
      · rename_i t' e
        exact absurd (by injection e) hb
      · rfl
theorem splitB_mk {t : List UInt8} (h0 : 0 ∉ t) (hs : t.length + 1 ≤ 256) (hp : ∀ q ∈ splitL t, q.length ≤ 32) : splitB (47 :: t) = (partsOf ((splitL t).map (fun l => ⟨l.toArray⟩)), dirOf ((splitL t).map (fun l => ⟨l.toArray⟩)), 0) := by
  unfold splitB
  simp only [if_neg h0, if_neg (show ¬ t.length + 1 > 256 by omega)]
  unfold runR
  rw [if_pos]
  refine List.all_eq_true.2 fun q hq => ?_
  obtain ⟨l, hl, rfl⟩ := List.mem_map.1 hq
  have hz : (⟨l.toArray⟩ : ByteArray).size = l.length := by rw [Lib.size_eq, to_list]
  rw [hz]
  exact decide_eq_true (hp l hl)
theorem okJ_facts {q : ByteArray} (h : okJ q = true) : q.data.toList ≠ [] ∧ q.data.toList ≠ [46] ∧ q.data.toList.length ≤ 32 ∧ 0 ∉ q.data.toList ∧ 47 ∉ q.data.toList := by
  unfold okJ at h
  rw [Bool.or_eq_true] at h
  rcases h with h | h
  · have := of_decide_eq_true h
    rw [this]; decide
  · simp only [mayB, Bool.and_eq_true, decide_eq_true_eq] at h
    have hsz : q.size = q.data.toList.length := Lib.size_eq q
    have hall := List.all_eq_true.1 h.2
    refine ⟨fun e => ?_, h.1.1.2, by have h2 := h.1.1.1.2; omega, fun hb => ?_, fun hb => ?_⟩
    · have h1 := h.1.1.1.1
      rw [e, List.length_nil] at hsz; omega
    · have := hall 0 hb; simp at this
    · have := hall 47 hb; simp at this
def lastUp (l : List ByteArray) : Bool := match l.getLast? with | none => true | some s => decide (s.data.toList = [46, 46])
theorem split_join {l : List ByteArray} (hok : ∀ q ∈ l, okJ q = true) (hlen : (catL l).length ≤ 256) : splitB (joinR l).1.data.toList = (l, lastUp l, 0) ∧ (joinR l).2 = 0 := by
  have hall : l.all okJ = true := List.all_eq_true.2 hok
  cases l with
  | nil => exact ⟨rfl, rfl⟩
  | cons q r =>
    have hne : ¬ (catL (q :: r)).length = 0 := by rw [catL_cons]; simp
    have hj : joinR (q :: r) = (⟨(catL (q :: r)).toArray⟩, 0) := by unfold joinR; rw [if_pos hall, if_neg (by omega), if_neg hne]
    rw [hj]
    refine ⟨?_, rfl⟩
    rw [to_list, catL_cons]
    have hf : ∀ s ∈ q :: r, _ := fun s hs => okJ_facts (hok s hs)
    have hsp := splitL_cat q r (fun s hs => (hf s hs).2.2.2.2)
    have hz : ∀ l : List ByteArray, (∀ s ∈ l, (0 : UInt8) ∉ s.data.toList) → 0 ∉ catL l := by
      intro l
      induction l with
      | nil => intro _; simp [catL]
      | cons s l ih =>
        intro h hm
        rw [catL_cons] at hm
        rcases List.mem_cons.1 hm with e | hm
        · exact absurd e (by decide)
        · rcases List.mem_append.1 hm with hm | hm
          · exact h s (by simp) hm
          · exact ih (fun s hs => h s (List.mem_cons_of_mem _ hs)) hm
    have h0 : (0 : UInt8) ∉ q.data.toList ++ catL r := by
      have := hz (q :: r) (fun s hs => (hf s hs).2.2.2.1)
      rw [catL_cons] at this
      exact fun h => this (List.mem_cons_of_mem _ h)
    rw [catL_cons, List.length_cons] at hlen
    rw [splitB_mk h0 hlen (fun p hp => by
      rw [hsp] at hp
      obtain ⟨s, hs, rfl⟩ := List.mem_map.1 hp
      exact (hf s hs).2.2.1), hsp]
    have hid : ((q :: r).map (fun s => s.data.toList)).map (fun l => (⟨l.toArray⟩ : ByteArray)) = q :: r := by
      rw [List.map_map]
      conv => rhs; rw [← List.map_id (q :: r)]
      exact List.map_congr_left fun s _ => of_list s
    rw [hid]
    have hparts : partsOf (q :: r) = q :: r := by
      unfold partsOf
      refine List.filter_eq_self.2 fun s hs => ?_
      rw [decide_eq_true (hf s hs).1, decide_eq_true (hf s hs).2.1]; rfl
    have hdir : dirOf (q :: r) = lastUp (q :: r) := by
      unfold dirOf lastUp
      cases hl : (q :: r).getLast? with
      | none => simp at hl
      | some s =>
        have hs : s ∈ q :: r := List.mem_of_getLast? hl
        simp only [decide_eq_false (hf s hs).1, decide_eq_false (hf s hs).2.1, Bool.false_or]
    rw [hparts, hdir]
def plainL (acc : List ByteArray) : List ByteArray → List ByteArray
  | [] => acc
  | s :: l => if s.data.toList = [46, 46] then plainL acc.dropLast l else plainL (acc ++ [s]) l
theorem plain_free : ∀ (l acc : List ByteArray), (∀ s ∈ acc, s.data.toList ≠ [46, 46]) → ∀ s ∈ plainL acc l, s.data.toList ≠ [46, 46]
  | [], acc, h => h
  | x :: l, acc, h => by
    unfold plainL
    split
    · exact plain_free l _ (fun s hs => h s (List.dropLast_subset acc hs))
    · rename_i hx
      refine plain_free l _ (fun s hs => ?_)
      rcases List.mem_append.1 hs with hs | hs
      · exact h s hs
      · rw [List.mem_singleton.1 hs]; exact hx
theorem plain_self : ∀ (l acc : List ByteArray), (∀ s ∈ l, s.data.toList ≠ [46, 46]) → plainL acc l = acc ++ l
  | [], acc, _ => by simp [plainL]
  | x :: l, acc, h => by
    unfold plainL
    rw [if_neg (h x (by simp)), plain_self l _ (fun s hs => h s (List.mem_cons_of_mem _ hs))]; simp
theorem plain_len : ∀ (l acc : List ByteArray), (plainL acc l).length ≤ acc.length + l.length
  | [], acc => by simp [plainL]
  | x :: l, acc => by
    unfold plainL
    split
    · have := plain_len l acc.dropLast; simp at *; omega
    · have := plain_len l (acc ++ [x]); simp at *; omega
end Go.Proofs.YtgcboobdaeeanaaDoor.Sq
end
section
namespace Go.Proofs.YtgcboobdaeeanaaDoor.Pr
open Go.RowKit Go.Proofs.YtgcboobdaeeanaaDoorW.PrintWords Go.Proofs.YtgcboobdaeeanaaDoorW.PrintLast Go.Proofs.YtgcboobdaeeanaaDoorW.PrintMore
attribute [local go_sem] max2_int min2_int max_two min_two max_three min_three max_four min_four
attribute [local go_sem] Go.Proofs.YtgcboobdaeeanaaDoor.Hl.str_geq Go.Proofs.YtgcboobdaeeanaaDoor.Hl.str_gtr Go.Proofs.YtgcboobdaeeanaaDoor.Hl.str_leq
set_option linter.unusedVariables false
set_option linter.unusedSimpArgs false
def undercroftref14_Same.l0 : Nat → List ByteArray → List ByteArray → Int → Option (Bool)
  | 0, _, _, _ => none
  | k + 1, x0, x1, x5 => if x5 < (x0.length : Int) then (if 0 ≤ x5 then (if x5 < (x1.length : Int) then (if (rdOf ByteArray.empty x0 x5).toList = (rdOf ByteArray.empty x1 x5).toList then (undercroftref14_Same.l0 k x0 x1 (wrap64 (x5 + 1))) else (some false)) else (none)) else (none)) else (some true)
def undercroftref14_Same.f (k : Nat) (l0 : List ByteArray) (l1 : List ByteArray) : Option (Bool) := if (l0.length : Int) = (l1.length : Int) then (undercroftref14_Same.l0 k l0 l1 0) else (some false)
set_option maxHeartbeats 8000000 in
set_option maxRecDepth 100000 in
theorem undercroftref14_Same.calls (k : Nat) (A0 : Option Addr) (c0 : Nat) (l0 : List ByteArray) (A1 : Option Addr) (c1 : Nat) (l1 : List ByteArray) (r : Bool) (w : World) (hr0 : Kd.C Kd.string w A0 l0.length l0) (hc0 : l0.length ≤ c0) (hr1 : Kd.C Kd.string w A1 l1.length l1) (hc1 : l1.length ≤ c1) (h : undercroftref14_Same.f k l0 l1 = some r) :
    Calls Tryd.prog 11 #[.slice A0 l0.length c0, .slice A1 l1.length c1] w fun e w' => e = .returned (.bool r) ∧ Drawn0 w w' := by
  have HR0 := Aside0.mk hr0
  have HC0 := Aside0.mk hc0
  clear hr0 hc0
  have HR1 := Aside0.mk hr1
  have HC1 := Aside0.mk hc1
  clear hr1 hc1
  have H : (if (l0.length : Int) = (l1.length : Int) then (undercroftref14_Same.l0 k l0 l1 0) else (some false)) = some r := h
  clear h
  by_cases c3 : (l0.length : Int) = (l1.length : Int)
  · rw [if_pos c3] at H
    have c3b0 : ((l0.length : Int) == (l1.length : Int)) = true := beq_iff_eq.mpr c3
    have c3b1 : ((l0.length : Int) != (l1.length : Int)) = false := bne_eq_false_iff_eq.mpr c3
    have c3b2 : (l0.length == l1.length) = true := by first | simpa using c3 | (simp at c3 ⊢; omega)
    clear c3
    have H' := Aside0.mk H
    clear H
    go_enter Tryd.func11, Tryd.ntmps11
    go_wp2
    repeat (go_quiet (fail); try go_wp2)
    go_loopg [5] k (fun kq v5 w' => ∃ (x5_1 : Int), v5 = .int .i64 x5_1 ∧ Aside0 (undercroftref14_Same.l0 kq l0 l1 x5_1 = some r) ∧ Aside0 (kq ≤ k) ∧ Drawn0 w w')
    case atStart => exact ⟨(0), (by first | rfl | (simp; done) | (simp [*]; done)), H', ⟨Nat.le_refl _⟩, by repeat (first | exact Drawn0.refl _ | apply Drawn0.step)⟩
    case round =>
      clear H'
      try clear c1
      try clear p2
      try clear c3
      try clear c3b0
      try clear c3b1
      try clear c3b2
      obtain ⟨x5_1, rfl, HA, HK1, ⟨m1, rfl⟩⟩ := hrel
      cases gk with
      | zero => exact absurd HA.out (by intro h_; cases h_)
      | succ k1 =>
        have H := HA.out
        clear HA
        simp only [undercroftref14_Same.l0] at H
        by_cases c4 : x5_1 < (l0.length : Int)
        · rw [if_pos c4] at H
          have c4b0 : decide (x5_1 < (l0.length : Int)) = true := decide_eq_true c4
          clear c4
          by_cases c5 : 0 ≤ x5_1
          · rw [if_pos c5] at H
            have c5b0 : decide (0 ≤ x5_1) = true := decide_eq_true c5
            clear c5
            by_cases c6 : x5_1 < (l1.length : Int)
            · rw [if_pos c6] at H
              have c6b0 : decide (x5_1 < (l1.length : Int)) = true := decide_eq_true c6
              clear c6
              by_cases c7 : (rdOf ByteArray.empty l0 x5_1).toList = (rdOf ByteArray.empty l1 x5_1).toList
              · rw [if_pos c7] at H
                have c7b0 : ((rdOf ByteArray.empty l0 x5_1).toList == (rdOf ByteArray.empty l1 x5_1).toList) = true := beq_iff_eq.mpr c7
                have c7b1 : ((rdOf ByteArray.empty l0 x5_1).toList != (rdOf ByteArray.empty l1 x5_1).toList) = false := bne_eq_false_iff_eq.mpr c7
                clear c7
                have H' := Aside0.mk H
                clear H
                have p116 : 0 ≤ (x5_1 : Int) := of_decide_eq_true (by first | (with_reducible assumption) | assumption)
                have q116 : x5_1 < (l0.length : Int) := of_decide_eq_true (by first | (with_reducible assumption) | assumption)
                obtain ⟨ad116, e116, hx116_0⟩ := Kd.at_string HR0.out x5_1 p116 q116
                cases e116
                replace p116 := eq_true p116
                replace q116 := eq_true q116
                have p117 : 0 ≤ (x5_1 : Int) := of_decide_eq_true (by first | (with_reducible assumption) | assumption)
                have q117 : x5_1 < (l1.length : Int) := of_decide_eq_true (by first | (with_reducible assumption) | assumption)
                obtain ⟨ad117, e117, hx117_0⟩ := Kd.at_string HR1.out x5_1 p117 q117
                cases e117
                replace p117 := eq_true p117
                replace q117 := eq_true q117
                go_wp2
                repeat (go_quiet (fail); try go_wp2)
                go_roundg k1
                case measure => have := HK1.out; omega
                case rel => exact ⟨(wrap64 (x5_1 + 1)), (by first | rfl | (simp; done) | (simp [*]; done)), H', ⟨by have := HK1.out; omega⟩, by repeat (first | exact Drawn0.refl _ | apply Drawn0.step)⟩
              · rw [if_neg c7] at H
                have c7b0 : ((rdOf ByteArray.empty l0 x5_1).toList == (rdOf ByteArray.empty l1 x5_1).toList) = false := beq_eq_false_iff_ne.mpr c7
                have c7b1 : ((rdOf ByteArray.empty l0 x5_1).toList != (rdOf ByteArray.empty l1 x5_1).toList) = true := bne_iff_ne.mpr c7
                obtain rfl := Option.some.inj H
                have p116 : 0 ≤ (x5_1 : Int) := of_decide_eq_true (by first | (with_reducible assumption) | assumption)
                have q116 : x5_1 < (l0.length : Int) := of_decide_eq_true (by first | (with_reducible assumption) | assumption)
                obtain ⟨ad116, e116, hx116_0⟩ := Kd.at_string HR0.out x5_1 p116 q116
                cases e116
                replace p116 := eq_true p116
                replace q116 := eq_true q116
                have p117 : 0 ≤ (x5_1 : Int) := of_decide_eq_true (by first | (with_reducible assumption) | assumption)
                have q117 : x5_1 < (l1.length : Int) := of_decide_eq_true (by first | (with_reducible assumption) | assumption)
                obtain ⟨ad117, e117, hx117_0⟩ := Kd.at_string HR1.out x5_1 p117 q117
                cases e117
                replace p117 := eq_true p117
                replace q117 := eq_true q117
                go_wp2
                repeat (go_quiet (fail); try go_wp2)
                go_ret
                exact ⟨by first | rfl | (simp; done) | (simp [*]; done), by repeat (first | exact Drawn0.refl _ | apply Drawn0.step)⟩
            · rw [if_neg c6] at H
              exact absurd H (by simp)
          · rw [if_neg c5] at H
            exact absurd H (by simp)
        · rw [if_neg c4] at H
          have c4b0 : decide (x5_1 < (l0.length : Int)) = false := decide_eq_false c4
          clear c4
          obtain rfl := Option.some.inj H
          go_wp2
          repeat (go_quiet (fail); try go_wp2)
          go_ret
          exact ⟨by first | rfl | (simp; done) | (simp [*]; done), by repeat (first | exact Drawn0.refl _ | apply Drawn0.step)⟩
  · rw [if_neg c3] at H
    have c3b0 : ((l0.length : Int) == (l1.length : Int)) = false := beq_eq_false_iff_ne.mpr c3
    have c3b1 : ((l0.length : Int) != (l1.length : Int)) = true := bne_iff_ne.mpr c3
    have c3b2 : (l0.length == l1.length) = false := by first | simpa using c3 | (simp at c3 ⊢; omega)
    obtain rfl := Option.some.inj H
    go_enter Tryd.func11, Tryd.ntmps11
    go_wp2
    repeat (go_quiet (fail); try go_wp2)
    go_ret
    exact ⟨by first | rfl | (simp; done) | (simp [*]; done), by repeat (first | exact Drawn0.refl _ | apply Drawn0.step)⟩
end Go.Proofs.YtgcboobdaeeanaaDoor.Pr
end
section
namespace Go.Proofs.YtgcboobdaeeanaaDoor.Pr
open Go.RowKit Go.Proofs.YtgcboobdaeeanaaDoorW.PrintWords Go.Proofs.YtgcboobdaeeanaaDoorW.PrintLast Go.Proofs.YtgcboobdaeeanaaDoorW.PrintMore
attribute [local go_sem] max2_int min2_int max_two min_two max_three min_three max_four min_four
attribute [local go_sem] Go.Proofs.YtgcboobdaeeanaaDoor.Hl.str_geq Go.Proofs.YtgcboobdaeeanaaDoor.Hl.str_gtr Go.Proofs.YtgcboobdaeeanaaDoor.Hl.str_leq
set_option linter.unusedVariables false
set_option linter.unusedSimpArgs false
def path_Plain.l0 : Nat → List ByteArray → List ByteArray → Int → Int → Option (List ByteArray)
  | 0, _, _, _, _ => none
  | k + 1, x3, x7, x8, x9 => if x9 < x8 then (if 0 ≤ x9 then (if x9 < (x7.length : Int) then (if (rdOf ByteArray.empty x7 x9).toList = ([46, 46] : List UInt8) then (if (x3.length : Int) > 0 then (if 0 ≤ (wrap64 ((x3.length : Int) - 1)) then (if (wrap64 ((x3.length : Int) - 1)) ≤ (x3.length : Int) then (path_Plain.l0 k (x3.take ((wrap64 ((x3.length : Int) - 1)) : Int).toNat) x7 x8 (wrap64 (x9 + 1))) else (none)) else (none)) else (path_Plain.l0 k x3 x7 x8 (wrap64 (x9 + 1)))) else (if x3.length < 8796093022208 then (path_Plain.l0 k (x3 ++ [rdOf ByteArray.empty x7 x9]) x7 x8 (wrap64 (x9 + 1))) else (none))) else (none)) else (none)) else (some x3)
def path_Plain.f (k : Nat) (l0 : List ByteArray) : Option (List ByteArray) := path_Plain.l0 k (([] : List ByteArray)) l0 (l0.length : Int) 0
set_option maxHeartbeats 8000000 in
set_option maxRecDepth 100000 in
theorem path_Plain.calls (k : Nat) (A0 : Option Addr) (c0 : Nat) (l0 : List ByteArray) (r : List ByteArray) (w : World) (hr0 : Kd.C Kd.string w A0 l0.length l0) (hc0 : l0.length ≤ c0) (h : path_Plain.f k l0 = some r) :
    Calls Tryd.prog 14 #[.slice A0 l0.length c0] w fun e w' => ∃ v0_ : Value, e = .returned (v0_) ∧ Kd.R Kd.string 9 w' w.heap.size (fun _ => True) v0_ r ∧ Below w.heap.size w w' := by
  have HR0 := Aside0.mk hr0
  have HC0 := Aside0.mk hc0
  clear hr0 hc0
  have HB := Aside0.mk (Below.refl w.heap.size w)
  have H : (path_Plain.l0 k (([] : List ByteArray)) l0 (l0.length : Int) 0) = some r := h
  clear h
  obtain ⟨y176, hy176⟩ : ∃ y_ : List ByteArray, y_ = (([] : List ByteArray)) := ⟨_, rfl⟩
  replace H : (path_Plain.l0 k y176 l0 (l0.length : Int) 0) = some r := by first | (rw [hy176]; with_reducible exact H) | (have H2_ := (Option.bind_some _ _).symm.trans H; rw [hy176]; with_reducible exact H2_) | (have H2_ := (Option.bind_some _ _).symm.trans H; with_reducible exact H2_) | with_reducible exact H | (rw [hy176]; exact H) | exact H
  have Ny176 := Aside0.mk hy176
  clear hy176
  have H' := Aside0.mk H
  clear H
  go_enter Tryd.func14, Tryd.ntmps14
  go_wp2_with (first | ((with_reducible refine gate_dst (N := 6) rfl ?_); refine Kd.R_lit Kd.string _ 9 ?hg (N := 6) ?hd (xs := ([] : List ByteArray)) (inner := []) (ok := fun _ => True) (okp := fun _ => True) ?hr ?hp (fun _ hk => hk) trivial (Below.refl _ _) (Nat.le_refl _) (by simp) ?_; (case hd => rfl); (case hg => rfl); (case hr => first | (go_simp; done) | (go_simp; rfl)); (case hp => exact (Reps.none _ _)); intro v177 w2 ho3 hb hg_ hnew_; clear hg_ hnew_; (first | rw [← Ny176.out] at ho3 | (simp only [Int.reduceToNat] at ho3; rw [← Ny176.out] at ho3)); have n0_ := Aside0.mk (Kd.R_lower ho3 (below_size (by repeat (first | (with_reducible first | exact HB.out | apply below_alloc | apply pw_below_drewN | apply below_drew1) | exact HB.out)))); have n1_ := Aside0.mk (below_step (by repeat (first | (with_reducible first | exact HB.out | apply below_alloc | apply pw_below_drewN | apply below_drew1) | exact HB.out)) hb); clear HB; have HO178 := n0_; have HB := n1_; clear n0_ n1_; clear hb ho3))
  go_loopg [3, 9] k (fun kq v3 v9 w' => ∃ (x3_1 : List ByteArray) (x9_1 : Int), v9 = .int .i64 x9_1 ∧ Aside0 (path_Plain.l0 kq x3_1 l0 (l0.length : Int) x9_1 = some r) ∧ Aside0 (kq ≤ k) ∧ Aside0 (Kd.R Kd.string 9 w' w.heap.size (fun _ => True) v3 x3_1) ∧ Aside0 (Below w.heap.size w w'))
  case atStart => exact ⟨(y176), (0), (by first | rfl | (simp; done) | (simp [*]; done)), H', ⟨Nat.le_refl _⟩, ⟨by (with_reducible repeat (first | apply Kd.R_alloc | apply Kd.R_drewN | apply Kd.R_drew)); exact HO178.out⟩, ⟨by repeat (first | (with_reducible first | exact HB.out | apply below_alloc | apply pw_below_drewN | apply below_drew1) | exact HB.out)⟩⟩
  case round =>
    clear H'
    try clear c1
    try clear p2
    obtain ⟨x3_1, x9_1, rfl, HA, HK1, HO_3, HB⟩ := hrel
    cases gk with
    | zero => exact absurd HA.out (by intro h_; cases h_)
    | succ k1 =>
      have H := HA.out
      clear HA
      simp only [path_Plain.l0] at H
      by_cases c4 : x9_1 < (l0.length : Int)
      · rw [if_pos c4] at H
        have c4b0 : decide (x9_1 < (l0.length : Int)) = true := decide_eq_true c4
        clear c4
        by_cases c5 : 0 ≤ x9_1
        · rw [if_pos c5] at H
          have c5b0 : decide (0 ≤ x9_1) = true := decide_eq_true c5
          clear c5
          by_cases c6 : x9_1 < (l0.length : Int)
          · rw [if_pos c6] at H
            have c6b0 : decide (x9_1 < (l0.length : Int)) = true := decide_eq_true c6
            clear c6
            by_cases c7 : (rdOf ByteArray.empty l0 x9_1).toList = ([46, 46] : List UInt8)
            · rw [if_pos c7] at H
              have c7b0 : ((rdOf ByteArray.empty l0 x9_1).toList == ([46, 46] : List UInt8)) = true := beq_iff_eq.mpr c7
              have c7b1 : ((rdOf ByteArray.empty l0 x9_1).toList != ([46, 46] : List UInt8)) = false := bne_eq_false_iff_eq.mpr c7
              clear c7
              by_cases c8 : (x3_1.length : Int) > 0
              · rw [if_pos c8] at H
                have c8b0 : decide (0 < (x3_1.length : Int)) = true := decide_eq_true c8
                have c8b1 : decide (0 < x3_1.length) = true := decide_eq_true (by omega)
                clear c8
                obtain ⟨ji9, hji9⟩ : ∃ j_ : Int, (wrap64 ((x3_1.length : Int) - 1)) = j_ := ⟨_, rfl⟩
                replace H : (if 0 ≤ (ji9) then (if (ji9) ≤ (x3_1.length : Int) then (path_Plain.l0 k1 (x3_1.take ((ji9) : Int).toNat) l0 (l0.length : Int) (wrap64 (x9_1 + 1))) else (none)) else (none)) = some r := by first | (rw [hji9] at H; exact H) | (simp only [hji9] at H ⊢; exact H)
                have hji9w : (IntKind.i64.wrap ((x3_1.length : Int) - 1)) = ji9 := (i64_w _).trans hji9
                (try rw [hji9] at c4b0)
                (try rw [hji9] at c5b0)
                (try rw [hji9] at c6b0)
                (try rw [hji9] at c7b0)
                (try rw [hji9] at c7b1)
                (try rw [hji9] at c8b0)
                (try rw [hji9] at c8b1)
                by_cases c10 : 0 ≤ (ji9)
                · rw [if_pos c10] at H
                  have c10b0 := eq_true c10
                  have c10b1 : decide (0 ≤ (ji9)) = true := decide_eq_true c10
                  clear c10
                  by_cases c11 : (ji9) ≤ (x3_1.length : Int)
                  · rw [if_pos c11] at H
                    have c11b0 := eq_true c11
                    have c11b1 : decide ((ji9) ≤ (x3_1.length : Int)) = true := decide_eq_true c11
                    clear c11
                    obtain ⟨y180, hy180⟩ : ∃ y_ : List ByteArray, y_ = (x3_1.take ((ji9) : Int).toNat) := ⟨_, rfl⟩
                    replace H : (path_Plain.l0 k1 y180 l0 (l0.length : Int) (wrap64 (x9_1 + 1))) = some r := by first | (rw [hy180]; with_reducible exact H) | (have H2_ := (Option.bind_some _ _).symm.trans H; rw [hy180]; with_reducible exact H2_) | (have H2_ := (Option.bind_some _ _).symm.trans H; with_reducible exact H2_) | with_reducible exact H | (rw [hy180]; exact H) | exact H
                    have Ny180 := Aside0.mk hy180
                    clear hy180
                    have H' := Aside0.mk H
                    clear H
                    have p179 : 0 ≤ (x9_1 : Int) := of_decide_eq_true (by first | (with_reducible assumption) | assumption)
                    have q179 : x9_1 < (l0.length : Int) := of_decide_eq_true (by first | (with_reducible assumption) | assumption)
                    obtain ⟨ad179, e179, hx179_0⟩ := Kd.at_string HR0.out x9_1 p179 q179
                    cases e179
                    replace hx179_0 := (HB.out.cell (World.block_lt_of_cell? w _ hx179_0)).trans hx179_0
                    replace p179 := eq_true p179
                    replace q179 := eq_true q179
                    obtain ⟨Ao12, co12, eo12⟩ := Kd.R_slice HO_3.out
                    subst eo12
                    have q13 : ((ji9) : Int) ≤ ((x3_1.length : Int) : Int) := of_decide_eq_true (by first | (with_reducible assumption) | assumption)
                    obtain ⟨i013, hi013, _, hsz13, _⟩ := info_parts info9
                    have hcut13 := cut_to (P := Tryd.prog) 23 9 .i64 Tryd.underlying23 hi013 Ao12 x3_1.length co12 (ji9) (of_decide_eq_true (by first | (with_reducible assumption) | assumption)) q13 (Kd.R_reads' HO_3.out).2.1
                    have hr13 := Kd.R_take (m := ((ji9) : Int).toNat) HO_3.out (by omega)
                    have hy13 : y180.length = ((ji9) : Int).toNat := (by rw [Ny180.out, List.length_take]; omega)
                    rw [← Ny180.out] at hr13
                    rw [← hy13] at hr13 hcut13
                    clear hy13 hi013 hsz13 HO_3
                    have HO182 := Aside0.mk hr13
                    clear hr13
                    replace q13 := eq_true q13
                    go_wp2
                    go_roundg k1
                    case measure => have := HK1.out; omega
                    case rel => exact ⟨(y180), (wrap64 (x9_1 + 1)), (by first | rfl | (simp; done) | (simp [*]; done)), H', ⟨by have := HK1.out; omega⟩, ⟨by (with_reducible repeat (first | apply Kd.R_alloc | apply Kd.R_drewN | apply Kd.R_drew)); exact HO182.out⟩, ⟨by repeat (first | (with_reducible first | exact HB.out | apply below_alloc | apply pw_below_drewN | apply below_drew1) | exact HB.out)⟩⟩
                  · rw [if_neg c11] at H
                    exact absurd H (by simp)
                · rw [if_neg c10] at H
                  exact absurd H (by simp)
              · rw [if_neg c8] at H
                have c8b0 : decide (0 < (x3_1.length : Int)) = false := decide_eq_false c8
                have c8b1 : decide (0 < x3_1.length) = false := decide_eq_false (by omega)
                clear c8
                have H' := Aside0.mk H
                clear H
                have p179 : 0 ≤ (x9_1 : Int) := of_decide_eq_true (by first | (with_reducible assumption) | assumption)
                have q179 : x9_1 < (l0.length : Int) := of_decide_eq_true (by first | (with_reducible assumption) | assumption)
                obtain ⟨ad179, e179, hx179_0⟩ := Kd.at_string HR0.out x9_1 p179 q179
                cases e179
                replace hx179_0 := (HB.out.cell (World.block_lt_of_cell? w _ hx179_0)).trans hx179_0
                replace p179 := eq_true p179
                replace q179 := eq_true q179
                obtain ⟨Ao14, co14, eo14⟩ := Kd.R_slice HO_3.out
                subst eo14
                go_wp2
                go_roundg k1
                case measure => have := HK1.out; omega
                case rel => exact ⟨(x3_1), (wrap64 (x9_1 + 1)), (by first | rfl | (simp; done) | (simp [*]; done)), H', ⟨by have := HK1.out; omega⟩, ⟨by (with_reducible repeat (first | apply Kd.R_alloc | apply Kd.R_drewN | apply Kd.R_drew)); exact HO_3.out⟩, ⟨by repeat (first | (with_reducible first | exact HB.out | apply below_alloc | apply pw_below_drewN | apply below_drew1) | exact HB.out)⟩⟩
            · rw [if_neg c7] at H
              have c7b0 : ((rdOf ByteArray.empty l0 x9_1).toList == ([46, 46] : List UInt8)) = false := beq_eq_false_iff_ne.mpr c7
              have c7b1 : ((rdOf ByteArray.empty l0 x9_1).toList != ([46, 46] : List UInt8)) = true := bne_iff_ne.mpr c7
              by_cases c15 : x3_1.length < 8796093022208
              · rw [if_pos c15] at H
                have LMc15 := Aside0.mk c15
                clear c15
                obtain ⟨y183, hy183⟩ : ∃ y_ : List ByteArray, y_ = (x3_1 ++ [rdOf ByteArray.empty l0 x9_1]) := ⟨_, rfl⟩
                replace H : (path_Plain.l0 k1 y183 l0 (l0.length : Int) (wrap64 (x9_1 + 1))) = some r := by first | (rw [hy183]; with_reducible exact H) | (have H2_ := (Option.bind_some _ _).symm.trans H; rw [hy183]; with_reducible exact H2_) | (have H2_ := (Option.bind_some _ _).symm.trans H; with_reducible exact H2_) | with_reducible exact H | (rw [hy183]; exact H) | exact H
                have Ny183 := Aside0.mk hy183
                clear hy183
                have H' := Aside0.mk H
                clear H
                have p179 : 0 ≤ (x9_1 : Int) := of_decide_eq_true (by first | (with_reducible assumption) | assumption)
                have q179 : x9_1 < (l0.length : Int) := of_decide_eq_true (by first | (with_reducible assumption) | assumption)
                obtain ⟨ad179, e179, hx179_0⟩ := Kd.at_string HR0.out x9_1 p179 q179
                cases e179
                replace hx179_0 := (HB.out.cell (World.block_lt_of_cell? w _ hx179_0)).trans hx179_0
                replace p179 := eq_true p179
                replace q179 := eq_true q179
                go_wp2_with (first | ((with_reducible refine gate_builtin (b := .append) (xs := #[.tmp 16, .tmp 18]) rfl ?_); at_builtin; refine Kd.R_append Kd.string (w0 := w) w.heap.size rfl (.tmp 16) (.tmp 18) 23 9 (.string ⟨#[]⟩) 16 rfl Tryd.underlying23 info9 rfl (by decide) (by omega) u3 x3_1 (rdOf ByteArray.empty l0 x9_1) [.string (rdOf ByteArray.empty l0 x9_1)] (fun _ => True) (fun _ => False) rfl rfl ?aP (fun _ hk => hk.elim) ?aF ?aO ?aB ?aS ?aL ?_; (case aP => exact rfl); (case aB => exact (by repeat (first | (with_reducible first | exact HB.out | apply below_alloc | apply pw_below_drewN | apply below_drew1) | exact HB.out))); (case aF => exact (fun _ _ => trivial)); (case aO => exact (by (with_reducible repeat (first | apply Kd.R_alloc | apply Kd.R_drewN | apply Kd.R_drew)); exact HO_3.out)); (case aS => exact (below_size (by repeat (first | (with_reducible first | exact HB.out | apply below_alloc | apply pw_below_drewN | apply below_drew1) | exact HB.out)))); (case aL => have := LMc15.out; omega); intro v184 w16 ho hb hg hat; rw [← Ny183.out] at ho; have n0_ := Aside0.mk (hb); have n1_ := Aside0.mk (ho); clear HB; clear HO_3; have HB := n0_; have HO185 := n1_; clear n0_ n1_; clear ho hb hg hat))
                go_roundg k1
                case measure => have := HK1.out; omega
                case rel => exact ⟨(y183), (wrap64 (x9_1 + 1)), (by first | rfl | (simp; done) | (simp [*]; done)), H', ⟨by have := HK1.out; omega⟩, ⟨by (with_reducible repeat (first | apply Kd.R_alloc | apply Kd.R_drewN | apply Kd.R_drew)); exact HO185.out⟩, ⟨by repeat (first | (with_reducible first | exact HB.out | apply below_alloc | apply pw_below_drewN | apply below_drew1) | exact HB.out)⟩⟩
              · rw [if_neg c15] at H
                exact absurd H (by simp)
          · rw [if_neg c6] at H
            exact absurd H (by simp)
        · rw [if_neg c5] at H
          exact absurd H (by simp)
      · rw [if_neg c4] at H
        have c4b0 : decide (x9_1 < (l0.length : Int)) = false := decide_eq_false c4
        clear c4
        obtain rfl := Option.some.inj H
        go_wp2
        go_ret
        exact ⟨_, by first | rfl | (simp [errW_none, errW_some] <;> rfl) | (simp [*, errW_none, errW_some] <;> rfl), by (with_reducible repeat (first | apply Kd.R_alloc | apply Kd.R_drewN | apply Kd.R_drew)); exact HO_3.out, by repeat (first | (with_reducible first | exact HB.out | apply below_alloc | apply pw_below_drewN | apply below_drew1) | exact HB.out)⟩
end Go.Proofs.YtgcboobdaeeanaaDoor.Pr
end
section
namespace Go.Proofs.YtgcboobdaeeanaaDoor.Pr
open Go.RowKit Go.Proofs.YtgcboobdaeeanaaDoorW.PrintWords Go.Proofs.YtgcboobdaeeanaaDoorW.PrintLast Go.Proofs.YtgcboobdaeeanaaDoorW.PrintMore
attribute [local go_sem] max2_int min2_int max_two min_two max_three min_three max_four min_four
attribute [local go_sem] Go.Proofs.YtgcboobdaeeanaaDoor.Hl.str_geq Go.Proofs.YtgcboobdaeeanaaDoor.Hl.str_gtr Go.Proofs.YtgcboobdaeeanaaDoor.Hl.str_leq
set_option linter.unusedVariables false
set_option linter.unusedSimpArgs false
def path_Split.f (a0 : ByteArray) : Option (List ByteArray × Bool × Int) := some (Sq.splitR a0)
set_option maxHeartbeats 8000000 in
set_option maxRecDepth 100000 in
theorem path_Split.calls (a0 : ByteArray) (r1 : List ByteArray) (r2 : Bool) (r3 : Int) (w : World) (h : path_Split.f a0 = some (r1, r2, r3)) :
    Calls Tryd.prog 9 #[.string a0] w fun e w' => ∃ v0_ : Value, e = .returned (.tuple #[v0_, .bool r2, .int .i64 r3]) ∧ Kd.R Kd.string 9 w' w.heap.size (fun _ => True) v0_ r1 ∧ Below w.heap.size w w' := by
  unfold path_Split.f at h
  have hs : Sq.splitR a0 = (r1, r2, r3) := Option.some.inj h
  refine (callsIn_wide.1 (Sq.split_in a0 w)).mono ?_
  rintro e w' ⟨v, rfl, hrow, hb⟩
  rw [hs] at hrow
  rw [hs]
  exact ⟨v, rfl, Kd.R_of_own hrow (fun _ _ => trivial), hb⟩
end Go.Proofs.YtgcboobdaeeanaaDoor.Pr
end
section
namespace Go.Proofs.YtgcboobdaeeanaaDoor.Pr
open Go.RowKit Go.Proofs.YtgcboobdaeeanaaDoorW.PrintWords Go.Proofs.YtgcboobdaeeanaaDoorW.PrintLast Go.Proofs.YtgcboobdaeeanaaDoorW.PrintMore
attribute [local go_sem] max2_int min2_int max_two min_two max_three min_three max_four min_four
attribute [local go_sem] Go.Proofs.YtgcboobdaeeanaaDoor.Hl.str_geq Go.Proofs.YtgcboobdaeeanaaDoor.Hl.str_gtr Go.Proofs.YtgcboobdaeeanaaDoor.Hl.str_leq
set_option linter.unusedVariables false
set_option linter.unusedSimpArgs false
def path_Join.f (l0 : List ByteArray) : Option (ByteArray × Int) := if (Sq.catL l0).length ≤ 140737488355328 then some (Sq.joinR l0) else none
set_option maxHeartbeats 8000000 in
set_option maxRecDepth 100000 in
theorem path_Join.calls (A0 : Option Addr) (c0 : Nat) (l0 : List ByteArray) (r1 : ByteArray) (r2 : Int) (w : World) (hr0 : Kd.C Kd.string w A0 l0.length l0) (hc0 : l0.length ≤ c0) (h : path_Join.f l0 = some (r1, r2)) :
    Calls Tryd.prog 12 #[.slice A0 l0.length c0] w fun e w' => e = .returned (.tuple #[.string r1, .int .i64 r2]) ∧ Below w.heap.size w w' := by
  unfold path_Join.f at h
  by_cases hb : (Sq.catL l0).length ≤ 140737488355328
  · rw [if_pos hb] at h
    have hs : Sq.joinR l0 = (r1, r2) := Option.some.inj h
    refine (Sq.join_walk A0 c0 l0 w hr0 hc0 hb).mono ?_
    rintro e w' ⟨rfl, hb2⟩
    rw [hs]
    exact ⟨rfl, hb2⟩
  · rw [if_neg hb] at h
    cases h
end Go.Proofs.YtgcboobdaeeanaaDoor.Pr
end
section
namespace Go.Proofs.YtgcboobdaeeanaaDoor.Pr
open Go.RowKit Go.Proofs.YtgcboobdaeeanaaDoorW.PrintWords Go.Proofs.YtgcboobdaeeanaaDoorW.PrintLast Go.Proofs.YtgcboobdaeeanaaDoorW.PrintMore
attribute [local go_sem] max2_int min2_int max_two min_two max_three min_three max_four min_four
attribute [local go_sem] Go.Proofs.YtgcboobdaeeanaaDoor.Hl.str_geq Go.Proofs.YtgcboobdaeeanaaDoor.Hl.str_gtr Go.Proofs.YtgcboobdaeeanaaDoor.Hl.str_leq
set_option linter.unusedVariables false
set_option linter.unusedSimpArgs false
def undercroftlaw14_alive.f  : Option (Bool) := (path_Split.f (⟨#[47, 97, 47, 47, 98, 47, 46]⟩ : ByteArray)).bind fun bt105 => ((path_Join.f bt105.1).bind fun bt110 => (if bt105.2.2 = 0 then (if bt105.2.1 = true then (if (bt105.1.length : Int) = 2 then (if 1 < (bt105.1.length : Int) then (if (rdOf ByteArray.empty bt105.1 1).toList = ([98] : List UInt8) then (if bt110.2 = 0 then (some (bt110.1.toList == ([47, 97, 47, 98] : List UInt8))) else (some false)) else (some false)) else (none)) else (some false)) else (some false)) else (some false)))
set_option maxHeartbeats 8000000 in
set_option maxRecDepth 100000 in
theorem undercroftlaw14_alive.calls  (r : Bool) (w : World) (h : undercroftlaw14_alive.f  = some r) :
    Calls Tryd.prog 8 #[] w fun e w' => e = .returned (.bool r) ∧ Below w.heap.size w w' := by
  have HB := Aside0.mk (Below.refl w.heap.size w)
  have H : ((path_Split.f (⟨#[47, 97, 47, 47, 98, 47, 46]⟩ : ByteArray)).bind fun bt105 => ((path_Join.f bt105.1).bind fun bt110 => (if bt105.2.2 = 0 then (if bt105.2.1 = true then (if (bt105.1.length : Int) = 2 then (if 1 < (bt105.1.length : Int) then (if (rdOf ByteArray.empty bt105.1 1).toList = ([98] : List UInt8) then (if bt110.2 = 0 then (some (bt110.1.toList == ([47, 97, 47, 98] : List UInt8))) else (some false)) else (some false)) else (none)) else (some false)) else (some false)) else (some false)))) = some r := h
  clear h
  replace H := Option.bind_eq_some_iff.mp H
  obtain ⟨⟨t105, t106, t107⟩, A10, H⟩ := H
  replace H : ((path_Join.f t105).bind fun bt110 => (if t107 = 0 then (if t106 = true then (if (t105.length : Int) = 2 then (if 1 < (t105.length : Int) then (if (rdOf ByteArray.empty t105 1).toList = ([98] : List UInt8) then (if bt110.2 = 0 then (some (bt110.1.toList == ([47, 97, 47, 98] : List UInt8))) else (some false)) else (some false)) else (none)) else (some false)) else (some false)) else (some false))) = some r := H
  have A1 := Aside0.mk A10
  clear A10
  replace H := Option.bind_eq_some_iff.mp H
  obtain ⟨⟨t110, t111⟩, A20, H⟩ := H
  replace H : (if t107 = 0 then (if t106 = true then (if (t105.length : Int) = 2 then (if 1 < (t105.length : Int) then (if (rdOf ByteArray.empty t105 1).toList = ([98] : List UInt8) then (if t111 = 0 then (some (t110.toList == ([47, 97, 47, 98] : List UInt8))) else (some false)) else (some false)) else (none)) else (some false)) else (some false)) else (some false)) = some r := H
  have A2 := Aside0.mk A20
  clear A20
  by_cases c3 : t107 = 0
  · rw [if_pos c3] at H
    have c3b0 : (t107 == 0) = true := beq_iff_eq.mpr c3
    have c3b1 : (t107 != 0) = false := bne_eq_false_iff_eq.mpr c3
    clear c3
    by_cases c4 : t106 = true
    · subst c4
      have H1 : (if (t105.length : Int) = 2 then (if 1 < (t105.length : Int) then (if (rdOf ByteArray.empty t105 1).toList = ([98] : List UInt8) then (if t111 = 0 then (some (t110.toList == ([47, 97, 47, 98] : List UInt8))) else (some false)) else (some false)) else (none)) else (some false)) = some r := by rw [if_pos rfl] at H; exact H
      clear H
      have H := H1
      clear H1
      by_cases c5 : (t105.length : Int) = 2
      · rw [if_pos c5] at H
        have c5b0 : ((t105.length : Int) == 2) = true := beq_iff_eq.mpr c5
        have c5b1 : ((t105.length : Int) != 2) = false := bne_eq_false_iff_eq.mpr c5
        clear c5
        by_cases c6 : 1 < (t105.length : Int)
        · rw [if_pos c6] at H
          have c6b0 : decide (1 < (t105.length : Int)) = true := decide_eq_true c6
          have c6b1 : decide (1 < t105.length) = true := decide_eq_true (by omega)
          clear c6
          by_cases c7 : (rdOf ByteArray.empty t105 1).toList = ([98] : List UInt8)
          · rw [if_pos c7] at H
            have c7b0 : ((rdOf ByteArray.empty t105 1).toList == ([98] : List UInt8)) = true := beq_iff_eq.mpr c7
            have c7b1 : ((rdOf ByteArray.empty t105 1).toList != ([98] : List UInt8)) = false := bne_eq_false_iff_eq.mpr c7
            clear c7
            by_cases c8 : t111 = 0
            · rw [if_pos c8] at H
              have c8b0 : (t111 == 0) = true := beq_iff_eq.mpr c8
              have c8b1 : (t111 != 0) = false := bne_eq_false_iff_eq.mpr c8
              clear c8
              obtain rfl := Option.some.inj H
              go_enter Tryd.func8, Tryd.ntmps8
              go_wp2_with (first | ((with_reducible refine gate_callee (f := 9) rfl ?_); refine goesL_ (some 7) rfl rfl Tryd.func9 (by kernel_rfl) rfl #[.string (⟨#[47, 97, 47, 47, 98, 47, 46]⟩ : ByteArray)] rfl (by (try simp only [List.map_toArray, List.map_cons, List.map_nil]); first | done | rfl | (simp only [List.length_drop, List.length_take]; rfl)) ?_; (with_reducible refine (path_Split.calls (⟨#[47, 97, 47, 47, 98, 47, 46]⟩ : ByteArray) t105 true t107 _ A1.out).mono ?_); rintro e w9 ⟨v108, rfl, ho0, hb⟩; refine ⟨_, rfl, ?_⟩; have n0_ := Aside0.mk (Kd.R_lower ho0 (below_size (by repeat (first | (with_reducible first | exact HB.out | apply below_alloc | apply pw_below_drewN | apply below_drew1) | exact HB.out)))); have n1_ := Aside0.mk (below_step (by repeat (first | (with_reducible first | exact HB.out | apply below_alloc | apply pw_below_drewN | apply below_drew1) | exact HB.out)) hb); clear HB; have HO109 := n0_; have HB := n1_; clear n0_ n1_; (try clear hb); (try clear hb2); (try clear hk); (try clear hi); (try clear ho0); obtain ⟨Ao10, co10, eo10⟩ := Kd.R_slice HO109.out; subst eo10) | ((with_reducible refine gate_callee (f := 12) rfl ?_); refine goesL_ (some 13) rfl rfl Tryd.func12 (by kernel_rfl) rfl #[.slice Ao10 t105.length co10] rfl (by (try simp only [List.map_toArray, List.map_cons, List.map_nil]); first | done | rfl | (simp only [List.length_drop, List.length_take]; rfl)) ?_; (with_reducible refine (path_Join.calls _ _ t105 t110 t111 _ ?side1 ?side2 A2.out).mono ?_); (case side1 => repeat (first | exact (Kd.R_reads' HO109.out).2.2 | (with_reducible refine Kd.C_alloc ?_ _) | (with_reducible refine Kd.C_drewN ?_ _) | (with_reducible refine Kd.C_drew ?_))); (case side2 => exact (Kd.R_reads' HO109.out).2.1); rintro e w11 ⟨rfl, hb⟩; refine ⟨_, rfl, ?_⟩; have n0_ := Aside0.mk (Kd.R_below (by (with_reducible repeat (first | apply Kd.R_alloc | apply Kd.R_drewN | apply Kd.R_drew)); exact HO109.out) hb); have n1_ := Aside0.mk (below_step (by repeat (first | (with_reducible first | exact HB.out | apply below_alloc | apply pw_below_drewN | apply below_drew1) | exact HB.out)) hb); clear HO109; clear HB; have HO109 := n0_; have HB := n1_; clear n0_ n1_; (try clear hb); (try clear hb2); (try clear hk); (try clear hi); have p112 : 0 ≤ (1 : Int) := (by omega); have q112 : 1 < (t105.length : Int) := of_decide_eq_true (by first | (with_reducible assumption) | assumption); obtain ⟨ad112, e112, hx112_0⟩ := Kd.at_string (Kd.R_reads' HO109.out).2.2 1 p112 q112; cases e112; (try simp only [show (1 : Int).toNat = 1 from rfl, Nat.reduceMul, Nat.reduceEqDiff, Go.Addr.add, ↓reduceIte] at hx112_0); have qi112 : (1 < t105.length) = True := eq_true (by omega); (try rw [show ((1 : Int)).toNat = 1 from rfl] at hx112_0); replace p112 := eq_true p112; replace q112 := eq_true q112))
              go_ret
              exact ⟨by first | rfl | (simp [errW_none, errW_some] <;> rfl) | (simp [*, errW_none, errW_some] <;> rfl), by repeat (first | (with_reducible first | exact HB.out | apply below_alloc | apply pw_below_drewN | apply below_drew1) | exact HB.out)⟩
            · rw [if_neg c8] at H
              have c8b0 : (t111 == 0) = false := beq_eq_false_iff_ne.mpr c8
              have c8b1 : (t111 != 0) = true := bne_iff_ne.mpr c8
              obtain rfl := Option.some.inj H
              go_enter Tryd.func8, Tryd.ntmps8
              go_wp2_with (first | ((with_reducible refine gate_callee (f := 9) rfl ?_); refine goesL_ (some 7) rfl rfl Tryd.func9 (by kernel_rfl) rfl #[.string (⟨#[47, 97, 47, 47, 98, 47, 46]⟩ : ByteArray)] rfl (by (try simp only [List.map_toArray, List.map_cons, List.map_nil]); first | done | rfl | (simp only [List.length_drop, List.length_take]; rfl)) ?_; (with_reducible refine (path_Split.calls (⟨#[47, 97, 47, 47, 98, 47, 46]⟩ : ByteArray) t105 true t107 _ A1.out).mono ?_); rintro e w12 ⟨v108, rfl, ho0, hb⟩; refine ⟨_, rfl, ?_⟩; have n0_ := Aside0.mk (Kd.R_lower ho0 (below_size (by repeat (first | (with_reducible first | exact HB.out | apply below_alloc | apply pw_below_drewN | apply below_drew1) | exact HB.out)))); have n1_ := Aside0.mk (below_step (by repeat (first | (with_reducible first | exact HB.out | apply below_alloc | apply pw_below_drewN | apply below_drew1) | exact HB.out)) hb); clear HB; have HO109 := n0_; have HB := n1_; clear n0_ n1_; (try clear hb); (try clear hb2); (try clear hk); (try clear hi); (try clear ho0); obtain ⟨Ao13, co13, eo13⟩ := Kd.R_slice HO109.out; subst eo13) | ((with_reducible refine gate_callee (f := 12) rfl ?_); refine goesL_ (some 13) rfl rfl Tryd.func12 (by kernel_rfl) rfl #[.slice Ao13 t105.length co13] rfl (by (try simp only [List.map_toArray, List.map_cons, List.map_nil]); first | done | rfl | (simp only [List.length_drop, List.length_take]; rfl)) ?_; (with_reducible refine (path_Join.calls _ _ t105 t110 t111 _ ?side1 ?side2 A2.out).mono ?_); (case side1 => repeat (first | exact (Kd.R_reads' HO109.out).2.2 | (with_reducible refine Kd.C_alloc ?_ _) | (with_reducible refine Kd.C_drewN ?_ _) | (with_reducible refine Kd.C_drew ?_))); (case side2 => exact (Kd.R_reads' HO109.out).2.1); rintro e w14 ⟨rfl, hb⟩; refine ⟨_, rfl, ?_⟩; have n0_ := Aside0.mk (Kd.R_below (by (with_reducible repeat (first | apply Kd.R_alloc | apply Kd.R_drewN | apply Kd.R_drew)); exact HO109.out) hb); have n1_ := Aside0.mk (below_step (by repeat (first | (with_reducible first | exact HB.out | apply below_alloc | apply pw_below_drewN | apply below_drew1) | exact HB.out)) hb); clear HO109; clear HB; have HO109 := n0_; have HB := n1_; clear n0_ n1_; (try clear hb); (try clear hb2); (try clear hk); (try clear hi); have p112 : 0 ≤ (1 : Int) := (by omega); have q112 : 1 < (t105.length : Int) := of_decide_eq_true (by first | (with_reducible assumption) | assumption); obtain ⟨ad112, e112, hx112_0⟩ := Kd.at_string (Kd.R_reads' HO109.out).2.2 1 p112 q112; cases e112; (try simp only [show (1 : Int).toNat = 1 from rfl, Nat.reduceMul, Nat.reduceEqDiff, Go.Addr.add, ↓reduceIte] at hx112_0); have qi112 : (1 < t105.length) = True := eq_true (by omega); (try rw [show ((1 : Int)).toNat = 1 from rfl] at hx112_0); replace p112 := eq_true p112; replace q112 := eq_true q112))
              go_ret
              exact ⟨by first | rfl | (simp [errW_none, errW_some] <;> rfl) | (simp [*, errW_none, errW_some] <;> rfl), by repeat (first | (with_reducible first | exact HB.out | apply below_alloc | apply pw_below_drewN | apply below_drew1) | exact HB.out)⟩
          · rw [if_neg c7] at H
            have c7b0 : ((rdOf ByteArray.empty t105 1).toList == ([98] : List UInt8)) = false := beq_eq_false_iff_ne.mpr c7
            have c7b1 : ((rdOf ByteArray.empty t105 1).toList != ([98] : List UInt8)) = true := bne_iff_ne.mpr c7
            obtain rfl := Option.some.inj H
            go_enter Tryd.func8, Tryd.ntmps8
            go_wp2_with (first | ((with_reducible refine gate_callee (f := 9) rfl ?_); refine goesL_ (some 7) rfl rfl Tryd.func9 (by kernel_rfl) rfl #[.string (⟨#[47, 97, 47, 47, 98, 47, 46]⟩ : ByteArray)] rfl (by (try simp only [List.map_toArray, List.map_cons, List.map_nil]); first | done | rfl | (simp only [List.length_drop, List.length_take]; rfl)) ?_; (with_reducible refine (path_Split.calls (⟨#[47, 97, 47, 47, 98, 47, 46]⟩ : ByteArray) t105 true t107 _ A1.out).mono ?_); rintro e w15 ⟨v108, rfl, ho0, hb⟩; refine ⟨_, rfl, ?_⟩; have n0_ := Aside0.mk (Kd.R_lower ho0 (below_size (by repeat (first | (with_reducible first | exact HB.out | apply below_alloc | apply pw_below_drewN | apply below_drew1) | exact HB.out)))); have n1_ := Aside0.mk (below_step (by repeat (first | (with_reducible first | exact HB.out | apply below_alloc | apply pw_below_drewN | apply below_drew1) | exact HB.out)) hb); clear HB; have HO109 := n0_; have HB := n1_; clear n0_ n1_; (try clear hb); (try clear hb2); (try clear hk); (try clear hi); (try clear ho0); obtain ⟨Ao16, co16, eo16⟩ := Kd.R_slice HO109.out; subst eo16) | ((with_reducible refine gate_callee (f := 12) rfl ?_); refine goesL_ (some 13) rfl rfl Tryd.func12 (by kernel_rfl) rfl #[.slice Ao16 t105.length co16] rfl (by (try simp only [List.map_toArray, List.map_cons, List.map_nil]); first | done | rfl | (simp only [List.length_drop, List.length_take]; rfl)) ?_; (with_reducible refine (path_Join.calls _ _ t105 t110 t111 _ ?side1 ?side2 A2.out).mono ?_); (case side1 => repeat (first | exact (Kd.R_reads' HO109.out).2.2 | (with_reducible refine Kd.C_alloc ?_ _) | (with_reducible refine Kd.C_drewN ?_ _) | (with_reducible refine Kd.C_drew ?_))); (case side2 => exact (Kd.R_reads' HO109.out).2.1); rintro e w17 ⟨rfl, hb⟩; refine ⟨_, rfl, ?_⟩; have n0_ := Aside0.mk (Kd.R_below (by (with_reducible repeat (first | apply Kd.R_alloc | apply Kd.R_drewN | apply Kd.R_drew)); exact HO109.out) hb); have n1_ := Aside0.mk (below_step (by repeat (first | (with_reducible first | exact HB.out | apply below_alloc | apply pw_below_drewN | apply below_drew1) | exact HB.out)) hb); clear HO109; clear HB; have HO109 := n0_; have HB := n1_; clear n0_ n1_; (try clear hb); (try clear hb2); (try clear hk); (try clear hi); have p112 : 0 ≤ (1 : Int) := (by omega); have q112 : 1 < (t105.length : Int) := of_decide_eq_true (by first | (with_reducible assumption) | assumption); obtain ⟨ad112, e112, hx112_0⟩ := Kd.at_string (Kd.R_reads' HO109.out).2.2 1 p112 q112; cases e112; (try simp only [show (1 : Int).toNat = 1 from rfl, Nat.reduceMul, Nat.reduceEqDiff, Go.Addr.add, ↓reduceIte] at hx112_0); have qi112 : (1 < t105.length) = True := eq_true (by omega); (try rw [show ((1 : Int)).toNat = 1 from rfl] at hx112_0); replace p112 := eq_true p112; replace q112 := eq_true q112))
            go_ret
            exact ⟨by first | rfl | (simp [errW_none, errW_some] <;> rfl) | (simp [*, errW_none, errW_some] <;> rfl), by repeat (first | (with_reducible first | exact HB.out | apply below_alloc | apply pw_below_drewN | apply below_drew1) | exact HB.out)⟩
        · rw [if_neg c6] at H
          exact absurd H (by simp)
      · rw [if_neg c5] at H
        have c5b0 : ((t105.length : Int) == 2) = false := beq_eq_false_iff_ne.mpr c5
        have c5b1 : ((t105.length : Int) != 2) = true := bne_iff_ne.mpr c5
        obtain rfl := Option.some.inj H
        go_enter Tryd.func8, Tryd.ntmps8
        go_wp2_with (first | ((with_reducible refine gate_callee (f := 9) rfl ?_); refine goesL_ (some 7) rfl rfl Tryd.func9 (by kernel_rfl) rfl #[.string (⟨#[47, 97, 47, 47, 98, 47, 46]⟩ : ByteArray)] rfl (by (try simp only [List.map_toArray, List.map_cons, List.map_nil]); first | done | rfl | (simp only [List.length_drop, List.length_take]; rfl)) ?_; (with_reducible refine (path_Split.calls (⟨#[47, 97, 47, 47, 98, 47, 46]⟩ : ByteArray) t105 true t107 _ A1.out).mono ?_); rintro e w18 ⟨v108, rfl, ho0, hb⟩; refine ⟨_, rfl, ?_⟩; have n0_ := Aside0.mk (Kd.R_lower ho0 (below_size (by repeat (first | (with_reducible first | exact HB.out | apply below_alloc | apply pw_below_drewN | apply below_drew1) | exact HB.out)))); have n1_ := Aside0.mk (below_step (by repeat (first | (with_reducible first | exact HB.out | apply below_alloc | apply pw_below_drewN | apply below_drew1) | exact HB.out)) hb); clear HB; have HO109 := n0_; have HB := n1_; clear n0_ n1_; (try clear hb); (try clear hb2); (try clear hk); (try clear hi); (try clear ho0); obtain ⟨Ao19, co19, eo19⟩ := Kd.R_slice HO109.out; subst eo19) | ((with_reducible refine gate_callee (f := 12) rfl ?_); refine goesL_ (some 13) rfl rfl Tryd.func12 (by kernel_rfl) rfl #[.slice Ao19 t105.length co19] rfl (by (try simp only [List.map_toArray, List.map_cons, List.map_nil]); first | done | rfl | (simp only [List.length_drop, List.length_take]; rfl)) ?_; (with_reducible refine (path_Join.calls _ _ t105 t110 t111 _ ?side1 ?side2 A2.out).mono ?_); (case side1 => repeat (first | exact (Kd.R_reads' HO109.out).2.2 | (with_reducible refine Kd.C_alloc ?_ _) | (with_reducible refine Kd.C_drewN ?_ _) | (with_reducible refine Kd.C_drew ?_))); (case side2 => exact (Kd.R_reads' HO109.out).2.1); rintro e w20 ⟨rfl, hb⟩; refine ⟨_, rfl, ?_⟩; have n0_ := Aside0.mk (Kd.R_below (by (with_reducible repeat (first | apply Kd.R_alloc | apply Kd.R_drewN | apply Kd.R_drew)); exact HO109.out) hb); have n1_ := Aside0.mk (below_step (by repeat (first | (with_reducible first | exact HB.out | apply below_alloc | apply pw_below_drewN | apply below_drew1) | exact HB.out)) hb); clear HO109; clear HB; have HO109 := n0_; have HB := n1_; clear n0_ n1_; (try clear hb); (try clear hb2); (try clear hk); (try clear hi)))
        go_ret
        exact ⟨by first | rfl | (simp [errW_none, errW_some] <;> rfl) | (simp [*, errW_none, errW_some] <;> rfl), by repeat (first | (with_reducible first | exact HB.out | apply below_alloc | apply pw_below_drewN | apply below_drew1) | exact HB.out)⟩
    · replace c4 := Bool.eq_false_iff.mpr c4
      subst c4
      have H1 : (some false) = some r := by rw [if_neg (show ¬ (false = true) by decide)] at H; exact H
      clear H
      have H := H1
      clear H1
      obtain rfl := Option.some.inj H
      go_enter Tryd.func8, Tryd.ntmps8
      go_wp2_with (first | ((with_reducible refine gate_callee (f := 9) rfl ?_); refine goesL_ (some 7) rfl rfl Tryd.func9 (by kernel_rfl) rfl #[.string (⟨#[47, 97, 47, 47, 98, 47, 46]⟩ : ByteArray)] rfl (by (try simp only [List.map_toArray, List.map_cons, List.map_nil]); first | done | rfl | (simp only [List.length_drop, List.length_take]; rfl)) ?_; (with_reducible refine (path_Split.calls (⟨#[47, 97, 47, 47, 98, 47, 46]⟩ : ByteArray) t105 false t107 _ A1.out).mono ?_); rintro e w21 ⟨v108, rfl, ho0, hb⟩; refine ⟨_, rfl, ?_⟩; have n0_ := Aside0.mk (Kd.R_lower ho0 (below_size (by repeat (first | (with_reducible first | exact HB.out | apply below_alloc | apply pw_below_drewN | apply below_drew1) | exact HB.out)))); have n1_ := Aside0.mk (below_step (by repeat (first | (with_reducible first | exact HB.out | apply below_alloc | apply pw_below_drewN | apply below_drew1) | exact HB.out)) hb); clear HB; have HO109 := n0_; have HB := n1_; clear n0_ n1_; (try clear hb); (try clear hb2); (try clear hk); (try clear hi); (try clear ho0); obtain ⟨Ao22, co22, eo22⟩ := Kd.R_slice HO109.out; subst eo22) | ((with_reducible refine gate_callee (f := 12) rfl ?_); refine goesL_ (some 13) rfl rfl Tryd.func12 (by kernel_rfl) rfl #[.slice Ao22 t105.length co22] rfl (by (try simp only [List.map_toArray, List.map_cons, List.map_nil]); first | done | rfl | (simp only [List.length_drop, List.length_take]; rfl)) ?_; (with_reducible refine (path_Join.calls _ _ t105 t110 t111 _ ?side1 ?side2 A2.out).mono ?_); (case side1 => repeat (first | exact (Kd.R_reads' HO109.out).2.2 | (with_reducible refine Kd.C_alloc ?_ _) | (with_reducible refine Kd.C_drewN ?_ _) | (with_reducible refine Kd.C_drew ?_))); (case side2 => exact (Kd.R_reads' HO109.out).2.1); rintro e w23 ⟨rfl, hb⟩; refine ⟨_, rfl, ?_⟩; have n0_ := Aside0.mk (Kd.R_below (by (with_reducible repeat (first | apply Kd.R_alloc | apply Kd.R_drewN | apply Kd.R_drew)); exact HO109.out) hb); have n1_ := Aside0.mk (below_step (by repeat (first | (with_reducible first | exact HB.out | apply below_alloc | apply pw_below_drewN | apply below_drew1) | exact HB.out)) hb); clear HO109; clear HB; have HO109 := n0_; have HB := n1_; clear n0_ n1_; (try clear hb); (try clear hb2); (try clear hk); (try clear hi)))
      go_ret
      exact ⟨by first | rfl | (simp [errW_none, errW_some] <;> rfl) | (simp [*, errW_none, errW_some] <;> rfl), by repeat (first | (with_reducible first | exact HB.out | apply below_alloc | apply pw_below_drewN | apply below_drew1) | exact HB.out)⟩
  · rw [if_neg c3] at H
    have c3b0 : (t107 == 0) = false := beq_eq_false_iff_ne.mpr c3
    have c3b1 : (t107 != 0) = true := bne_iff_ne.mpr c3
    obtain rfl := Option.some.inj H
    go_enter Tryd.func8, Tryd.ntmps8
    go_wp2_with (first | ((with_reducible refine gate_callee (f := 9) rfl ?_); refine goesL_ (some 7) rfl rfl Tryd.func9 (by kernel_rfl) rfl #[.string (⟨#[47, 97, 47, 47, 98, 47, 46]⟩ : ByteArray)] rfl (by (try simp only [List.map_toArray, List.map_cons, List.map_nil]); first | done | rfl | (simp only [List.length_drop, List.length_take]; rfl)) ?_; (with_reducible refine (path_Split.calls (⟨#[47, 97, 47, 47, 98, 47, 46]⟩ : ByteArray) t105 t106 t107 _ A1.out).mono ?_); rintro e w24 ⟨v108, rfl, ho0, hb⟩; refine ⟨_, rfl, ?_⟩; have n0_ := Aside0.mk (Kd.R_lower ho0 (below_size (by repeat (first | (with_reducible first | exact HB.out | apply below_alloc | apply pw_below_drewN | apply below_drew1) | exact HB.out)))); have n1_ := Aside0.mk (below_step (by repeat (first | (with_reducible first | exact HB.out | apply below_alloc | apply pw_below_drewN | apply below_drew1) | exact HB.out)) hb); clear HB; have HO109 := n0_; have HB := n1_; clear n0_ n1_; (try clear hb); (try clear hb2); (try clear hk); (try clear hi); (try clear ho0); obtain ⟨Ao25, co25, eo25⟩ := Kd.R_slice HO109.out; subst eo25) | ((with_reducible refine gate_callee (f := 12) rfl ?_); refine goesL_ (some 13) rfl rfl Tryd.func12 (by kernel_rfl) rfl #[.slice Ao25 t105.length co25] rfl (by (try simp only [List.map_toArray, List.map_cons, List.map_nil]); first | done | rfl | (simp only [List.length_drop, List.length_take]; rfl)) ?_; (with_reducible refine (path_Join.calls _ _ t105 t110 t111 _ ?side1 ?side2 A2.out).mono ?_); (case side1 => repeat (first | exact (Kd.R_reads' HO109.out).2.2 | (with_reducible refine Kd.C_alloc ?_ _) | (with_reducible refine Kd.C_drewN ?_ _) | (with_reducible refine Kd.C_drew ?_))); (case side2 => exact (Kd.R_reads' HO109.out).2.1); rintro e w26 ⟨rfl, hb⟩; refine ⟨_, rfl, ?_⟩; have n0_ := Aside0.mk (Kd.R_below (by (with_reducible repeat (first | apply Kd.R_alloc | apply Kd.R_drewN | apply Kd.R_drew)); exact HO109.out) hb); have n1_ := Aside0.mk (below_step (by repeat (first | (with_reducible first | exact HB.out | apply below_alloc | apply pw_below_drewN | apply below_drew1) | exact HB.out)) hb); clear HO109; clear HB; have HO109 := n0_; have HB := n1_; clear n0_ n1_; (try clear hb); (try clear hb2); (try clear hk); (try clear hi)))
    go_ret
    exact ⟨by first | rfl | (simp [errW_none, errW_some] <;> rfl) | (simp [*, errW_none, errW_some] <;> rfl), by repeat (first | (with_reducible first | exact HB.out | apply below_alloc | apply pw_below_drewN | apply below_drew1) | exact HB.out)⟩
end Go.Proofs.YtgcboobdaeeanaaDoor.Pr
end
section
namespace Go.Proofs.YtgcboobdaeeanaaDoor.Sq
open Go.RowKit Go.Proofs.YtgcboobdaeeanaaDoorW.PrintWords Go.Proofs.YtgcboobdaeeanaaDoorW.PrintMore Go.Proofs.YtgcboobdaeeanaaDoor.Pr Go.Proofs.YtgcboobdaeeanaaDoor.Od
set_option linter.unusedVariables false
set_option linter.unusedSimpArgs false
theorem rd_get {l : List ByteArray} {i : Nat} (h : i < l.length) : rdOf ByteArray.empty l (i : Int) = l[i] := by
  unfold rdOf; rw [Int.toNat_natCast, List.getD_eq_getElem?_getD, List.getElem?_eq_getElem h]; rfl
theorem same_ev (l : List ByteArray) (hl : l.length < 9223372036854775807) : Ev (fun k => undercroftref14_Same.f k l l) true := by
  unfold undercroftref14_Same.f
  simp only [if_true]
  have key : ∀ (n i : Nat), i + n = l.length → Ev (fun k => undercroftref14_Same.l0 k l l (i : Int)) true := by
    intro n
    induction n with
    | zero =>
      intro i hi
      refine Ev.succ ?_
      simp only [undercroftref14_Same.l0, if_neg (show ¬((i : Int) < (l.length : Int)) by omega)]
      exact Ev.now _
    | succ n ih =>
      intro i hi
      refine Ev.succ ?_
      simp only [undercroftref14_Same.l0, if_pos (show ((i : Int) < (l.length : Int)) by omega), if_pos (show (0 : Int) ≤ (i : Int) by omega), if_true, w64 (show -9223372036854775808 ≤ (i : Int) + 1 by omega) (by omega)]
      exact ih (i + 1) (by omega)
  exact key l.length 0 (by omega)
theorem plain_ev (l : List ByteArray) (hl : l.length < 8796093022208) : Ev (fun k => path_Plain.f k l) (plainL [] l) := by
  unfold path_Plain.f
  have key : ∀ (n i : Nat) (acc : List ByteArray), i + n = l.length → acc.length ≤ i → Ev (fun k => path_Plain.l0 k acc l (l.length : Int) (i : Int)) (plainL acc (l.drop i)) := by
    intro n
    induction n with
    | zero =>
      intro i acc hi ha
      refine Ev.succ ?_
      simp only [path_Plain.l0, if_neg (show ¬((i : Int) < (l.length : Int)) by omega)]
      rw [List.drop_of_length_le (by omega)]
      exact Ev.now _
    | succ n ih =>
      intro i acc hi ha
      refine Ev.succ ?_
      have hil : i < l.length := by omega
      rw [List.drop_eq_getElem_cons hil, plainL]
      simp only [path_Plain.l0, if_pos (show ((i : Int) < (l.length : Int)) by omega), if_pos (show (0 : Int) ≤ (i : Int) by omega), rd_get hil, Lib.toList_data, w64 (show -9223372036854775808 ≤ (i : Int) + 1 by omega) (by omega)]
      by_cases hu : l[i].data.toList = [46, 46]
      · simp only [if_pos hu]
        by_cases h0 : (acc.length : Int) > 0
        · have e1 : wrap64 ((acc.length : Int) - 1) = ((acc.length - 1 : Nat) : Int) := by rw [w64 (by omega) (by omega)]; omega
          simp only [if_pos h0, e1, if_pos (show (0 : Int) ≤ ((acc.length - 1 : Nat) : Int) by omega), if_pos (show ((acc.length - 1 : Nat) : Int) ≤ (acc.length : Int) by omega), Int.toNat_natCast]
          rw [← List.dropLast_eq_take]
          exact ih (i + 1) _ (by omega) (by rw [List.length_dropLast]; omega)
        · have hn : acc = [] := List.eq_nil_of_length_eq_zero (by omega)
          subst hn
          simp only [if_neg h0]
          exact ih (i + 1) [] (by omega) (by simp)
      · simp only [if_neg hu, if_pos (show acc.length < 8796093022208 by omega)]
        exact ih (i + 1) _ (by omega) (by rw [List.length_append]; simp; omega)
  exact key l.length 0 [] (by omega) (by simp)
theorem alive_split : splitR ⟨#[47, 97, 47, 47, 98, 47, 46]⟩ = ([⟨#[97]⟩, ⟨#[98]⟩], true, 0) := by
  rw [split_B]; rfl
theorem alive_join : joinR [⟨#[97]⟩, ⟨#[98]⟩] = (⟨#[47, 97, 47, 98]⟩, 0) := by
  unfold joinR
  rw [if_pos (by decide)]; rfl
theorem alive_some : undercroftlaw14_alive.f = some true := by
  unfold undercroftlaw14_alive.f path_Split.f path_Join.f
  rw [alive_split]
  simp only [bs]
  rw [if_pos (show (catL [(⟨#[97]⟩ : ByteArray), ⟨#[98]⟩]).length ≤ 140737488355328 by decide), alive_join]
  simp only [bs, Lib.toList_data]
  rfl
end Go.Proofs.YtgcboobdaeeanaaDoor.Sq
end
section
namespace Go.Proofs.YtgcboobdaeeanaaDoor.Pr
open Go.RowKit Go.Proofs.YtgcboobdaeeanaaDoorW.PrintWords Go.Proofs.YtgcboobdaeeanaaDoorW.PrintLast Go.Proofs.YtgcboobdaeeanaaDoorW.PrintMore
attribute [local go_sem] max2_int min2_int max_two min_two max_three min_three max_four min_four
attribute [local go_sem] Go.Proofs.YtgcboobdaeeanaaDoor.Hl.str_geq Go.Proofs.YtgcboobdaeeanaaDoor.Hl.str_gtr Go.Proofs.YtgcboobdaeeanaaDoor.Hl.str_leq
set_option linter.unusedVariables false
set_option linter.unusedSimpArgs false
def undercroftlaw14_PathParts.l0 : Nat → List ByteArray → List ByteArray → List ByteArray → Int → Option (Bool)
  | 0, _, _, _, _ => none
  | k + 1, x0, x3, x4, x5 => if x5 < (x3.length : Int) then (if 0 ≤ x5 then (if (rdOf ByteArray.empty x3 x5).toList = ([46, 46] : List UInt8) then (some false) else (undercroftlaw14_PathParts.l0 k x0 x3 x4 (wrap64 (x5 + 1)))) else (none)) else ((path_Join.f x0).bind fun bt222 => (if bt222.2 = 0 then ((path_Split.f bt222.1).bind fun bt224 => (if (x0.length : Int) = 0 then (if bt224.2.2 = 0 then ((undercroftref14_Same.f k bt224.1 x0).bind fun t229 => (if t229 = true then (if (bt224.2.1 == true) = true then ((undercroftref14_Same.f k x3 x4).bind fun t230 => (some t230)) else (some false)) else (some false))) else (some false)) else (if 0 ≤ (wrap64 ((x0.length : Int) - 1)) then (if (wrap64 ((x0.length : Int) - 1)) < (x0.length : Int) then (if bt224.2.2 = 0 then ((undercroftref14_Same.f k bt224.1 x0).bind fun t232 => (if t232 = true then (if (bt224.2.1 == ((rdOf ByteArray.empty x0 (wrap64 ((x0.length : Int) - 1))).toList == ([46, 46] : List UInt8))) = true then ((undercroftref14_Same.f k x3 x4).bind fun t233 => (some t233)) else (some false)) else (some false))) else (some false)) else (none)) else (none)))) else (if bt222.1.toList = ([] : List UInt8) then ((undercroftref14_Same.f k x3 x4).bind fun t234 => (some t234)) else (some false))))
def undercroftlaw14_PathParts.f (k : Nat) (l0 : List ByteArray) : Option (Bool) := (undercroftlaw14_alive.f).bind fun t214 => (if t214 = true then ((path_Plain.f k l0).bind fun t215 => ((path_Plain.f k t215).bind fun t218 => (undercroftlaw14_PathParts.l0 k l0 t215 t218 0))) else (some false))
set_option maxHeartbeats 8000000 in
set_option maxRecDepth 100000 in
theorem undercroftlaw14_PathParts.calls (k : Nat) (A0 : Option Addr) (c0 : Nat) (l0 : List ByteArray) (r : Bool) (w : World) (hr0 : Kd.C Kd.string w A0 l0.length l0) (hc0 : l0.length ≤ c0) (h : undercroftlaw14_PathParts.f k l0 = some r) :
    Calls Tryd.prog 7 #[.slice A0 l0.length c0] w fun e w' => e = .returned (.bool r) ∧ Below w.heap.size w w' := by
  have HR0 := Aside0.mk hr0
  have HC0 := Aside0.mk hc0
  clear hr0 hc0
  have HB := Aside0.mk (Below.refl w.heap.size w)
  have H : ((undercroftlaw14_alive.f).bind fun t214 => (if t214 = true then ((path_Plain.f k l0).bind fun t215 => ((path_Plain.f k t215).bind fun t218 => (undercroftlaw14_PathParts.l0 k l0 t215 t218 0))) else (some false))) = some r := h
  clear h
  replace H := Option.bind_eq_some_iff.mp H
  obtain ⟨t214, A20, H⟩ := H
  replace H : (if t214 = true then ((path_Plain.f k l0).bind fun t215 => ((path_Plain.f k t215).bind fun t218 => (undercroftlaw14_PathParts.l0 k l0 t215 t218 0))) else (some false)) = some r := H
  have A2 := Aside0.mk A20
  clear A20
  by_cases c3 : t214 = true
  · subst c3
    have H1 : ((path_Plain.f k l0).bind fun t215 => ((path_Plain.f k t215).bind fun t218 => (undercroftlaw14_PathParts.l0 k l0 t215 t218 0))) = some r := by rw [if_pos rfl] at H; exact H
    clear H
    have H := H1
    clear H1
    replace H := Option.bind_eq_some_iff.mp H
    obtain ⟨t215, A40, H⟩ := H
    replace H : ((path_Plain.f k t215).bind fun t218 => (undercroftlaw14_PathParts.l0 k l0 t215 t218 0)) = some r := H
    have A4 := Aside0.mk A40
    clear A40
    replace H := Option.bind_eq_some_iff.mp H
    obtain ⟨t218, A50, H⟩ := H
    replace H : (undercroftlaw14_PathParts.l0 k l0 t215 t218 0) = some r := H
    have A5 := Aside0.mk A50
    clear A50
    have H' := Aside0.mk H
    clear H
    go_enter Tryd.func7, Tryd.ntmps7
    go_wp2_with (first | ((with_reducible refine gate_callee (f := 8) rfl ?_); refine goesL_ (some 12) rfl rfl Tryd.func8 (by kernel_rfl) rfl #[] rfl (by (try simp only [List.map_toArray, List.map_cons, List.map_nil]); first | done | rfl | (simp only [List.length_drop, List.length_take]; rfl)) ?_; (with_reducible refine (undercroftlaw14_alive.calls  true _ A2.out).mono ?_); rintro e w6 ⟨rfl, hb⟩; refine ⟨_, rfl, ?_⟩; have n0_ := Aside0.mk (below_step (by repeat (first | (with_reducible first | exact HB.out | apply below_alloc | apply pw_below_drewN | apply below_drew1) | exact HB.out)) hb); clear HB; have HB := n0_; clear n0_; (try clear hb); (try clear hb2); (try clear hk); (try clear hi)) | ((with_reducible refine gate_callee (f := 14) rfl ?_); refine goesL_ (some 15) rfl rfl Tryd.func14 (by kernel_rfl) rfl #[.slice A0 l0.length c0] rfl (by (try simp only [List.map_toArray, List.map_cons, List.map_nil]); first | done | rfl | (simp only [List.length_drop, List.length_take]; rfl)) ?_; (with_reducible refine (path_Plain.calls k _ _ l0 t215 _ ?side1 ?side2 A4.out).mono ?_); (case side1 => repeat (first | exact (Kd.C_below HR0.out HB.out) | (with_reducible refine Kd.C_alloc ?_ _) | (with_reducible refine Kd.C_drewN ?_ _) | (with_reducible refine Kd.C_drew ?_))); (case side2 => exact HC0.out); rintro e w7 ⟨v216, rfl, ho0, hb⟩; refine ⟨_, rfl, ?_⟩; have n0_ := Aside0.mk (Kd.R_lower ho0 (below_size (by repeat (first | (with_reducible first | exact HB.out | apply below_alloc | apply pw_below_drewN | apply below_drew1) | exact HB.out)))); have n1_ := Aside0.mk (below_step (by repeat (first | (with_reducible first | exact HB.out | apply below_alloc | apply pw_below_drewN | apply below_drew1) | exact HB.out)) hb); clear HB; have HO217 := n0_; have HB := n1_; clear n0_ n1_; (try clear hb); (try clear hb2); (try clear hk); (try clear hi); (try clear ho0); obtain ⟨Ao8, co8, eo8⟩ := Kd.R_slice HO217.out; subst eo8) | ((with_reducible refine gate_callee (f := 14) rfl ?_); refine goesL_ (some 17) rfl rfl Tryd.func14 (by kernel_rfl) rfl #[.slice Ao8 t215.length co8] rfl (by (try simp only [List.map_toArray, List.map_cons, List.map_nil]); first | done | rfl | (simp only [List.length_drop, List.length_take]; rfl)) ?_; (with_reducible refine (path_Plain.calls k _ _ t215 t218 _ ?side1 ?side2 A5.out).mono ?_); (case side1 => repeat (first | exact (Kd.R_reads' HO217.out).2.2 | (with_reducible refine Kd.C_alloc ?_ _) | (with_reducible refine Kd.C_drewN ?_ _) | (with_reducible refine Kd.C_drew ?_))); (case side2 => exact (Kd.R_reads' HO217.out).2.1); rintro e w9 ⟨v219, rfl, ho0, hb⟩; refine ⟨_, rfl, ?_⟩; have n0_ := Aside0.mk (Kd.R_elder' (by (with_reducible repeat (first | apply Kd.R_alloc | apply Kd.R_drewN | apply Kd.R_drew)); exact HO217.out) (Kd.R_base ho0) hb); have n1_ := Aside0.mk (Kd.R_lower (Kd.R_new' ho0 (Kd.R_lt (by (with_reducible repeat (first | apply Kd.R_alloc | apply Kd.R_drewN | apply Kd.R_drew)); exact HO217.out))) (below_size (by repeat (first | (with_reducible first | exact HB.out | apply below_alloc | apply pw_below_drewN | apply below_drew1) | exact HB.out)))); have n2_ := Aside0.mk (below_step (by repeat (first | (with_reducible first | exact HB.out | apply below_alloc | apply pw_below_drewN | apply below_drew1) | exact HB.out)) hb); clear HO217; clear HB; have HO217 := n0_; have HO220 := n1_; have HB := n2_; clear n0_ n1_ n2_; (try clear hb); (try clear hb2); (try clear hk); (try clear hi); (try clear ho0)))
    go_loopg [5] k (fun kq v5 w' => ∃ (x5_1 : Int), v5 = .int .i64 x5_1 ∧ Aside0 (undercroftlaw14_PathParts.l0 kq l0 t215 t218 x5_1 = some r) ∧ Aside0 (kq ≤ k) ∧ Aside0 (Kd.R Kd.string 9 w' w.heap.size (fun k_ => some k_ ≠ (v219 : Value).ownBlock) (.slice Ao8 t215.length co8) t215) ∧ Aside0 (Kd.R Kd.string 9 w' w.heap.size (fun k_ => some k_ ≠ ((.slice Ao8 t215.length co8) : Value).ownBlock) v219 t218) ∧ Aside0 (Below w.heap.size w w'))
    case atStart => exact ⟨(0), (by first | rfl | (simp; done) | (simp [*]; done)), H', ⟨Nat.le_refl _⟩, ⟨by (with_reducible repeat (first | apply Kd.R_alloc | apply Kd.R_drewN | apply Kd.R_drew)); exact Kd.R_mono HO217.out (fun _ hk => hk.2)⟩, ⟨by (with_reducible repeat (first | apply Kd.R_alloc | apply Kd.R_drewN | apply Kd.R_drew)); exact Kd.R_mono HO220.out (fun _ hk => hk.2)⟩, ⟨by repeat (first | (with_reducible first | exact HB.out | apply below_alloc | apply pw_below_drewN | apply below_drew1) | exact HB.out)⟩⟩
    case round =>
      clear H'
      try clear c1
      try clear p2
      try clear c3
      try clear c7
      try clear c8
      obtain ⟨x5_1, rfl, HA, HK1, HO_3, HO_4, HB⟩ := hrel
      cases gk with
      | zero => exact absurd HA.out (by intro h_; cases h_)
      | succ k1 =>
        have H := HA.out
        clear HA
        simp only [undercroftlaw14_PathParts.l0] at H
        by_cases c10 : x5_1 < (t215.length : Int)
        · rw [if_pos c10] at H
          have c10b0 : decide (x5_1 < (t215.length : Int)) = true := decide_eq_true c10
          clear c10
          by_cases c11 : 0 ≤ x5_1
          · rw [if_pos c11] at H
            have c11b0 : decide (0 ≤ x5_1) = true := decide_eq_true c11
            clear c11
            by_cases c12 : (rdOf ByteArray.empty t215 x5_1).toList = ([46, 46] : List UInt8)
            · rw [if_pos c12] at H
              have c12b0 : ((rdOf ByteArray.empty t215 x5_1).toList == ([46, 46] : List UInt8)) = true := beq_iff_eq.mpr c12
              have c12b1 : ((rdOf ByteArray.empty t215 x5_1).toList != ([46, 46] : List UInt8)) = false := bne_eq_false_iff_eq.mpr c12
              clear c12
              obtain rfl := Option.some.inj H
              have p221 : 0 ≤ (x5_1 : Int) := of_decide_eq_true (by first | (with_reducible assumption) | assumption)
              have q221 : x5_1 < (t215.length : Int) := of_decide_eq_true (by first | (with_reducible assumption) | assumption)
              obtain ⟨ad221, e221, hx221_0⟩ := Kd.at_string (Kd.R_reads' HO_3.out).2.2 x5_1 p221 q221
              cases e221
              replace p221 := eq_true p221
              replace q221 := eq_true q221
              go_wp2
              go_ret
              exact ⟨by first | rfl | (simp [errW_none, errW_some] <;> rfl) | (simp [*, errW_none, errW_some] <;> rfl), by repeat (first | (with_reducible first | exact HB.out | apply below_alloc | apply pw_below_drewN | apply below_drew1) | exact HB.out)⟩
            · rw [if_neg c12] at H
              have c12b0 : ((rdOf ByteArray.empty t215 x5_1).toList == ([46, 46] : List UInt8)) = false := beq_eq_false_iff_ne.mpr c12
              have c12b1 : ((rdOf ByteArray.empty t215 x5_1).toList != ([46, 46] : List UInt8)) = true := bne_iff_ne.mpr c12
              have H' := Aside0.mk H
              clear H
              have p221 : 0 ≤ (x5_1 : Int) := of_decide_eq_true (by first | (with_reducible assumption) | assumption)
              have q221 : x5_1 < (t215.length : Int) := of_decide_eq_true (by first | (with_reducible assumption) | assumption)
              obtain ⟨ad221, e221, hx221_0⟩ := Kd.at_string (Kd.R_reads' HO_3.out).2.2 x5_1 p221 q221
              cases e221
              replace p221 := eq_true p221
              replace q221 := eq_true q221
              go_wp2
              go_roundg k1
              case measure => have := HK1.out; omega
              case rel => exact ⟨(wrap64 (x5_1 + 1)), (by first | rfl | (simp; done) | (simp [*]; done)), H', ⟨by have := HK1.out; omega⟩, ⟨by (with_reducible repeat (first | apply Kd.R_alloc | apply Kd.R_drewN | apply Kd.R_drew)); exact HO_3.out⟩, ⟨by (with_reducible repeat (first | apply Kd.R_alloc | apply Kd.R_drewN | apply Kd.R_drew)); exact HO_4.out⟩, ⟨by repeat (first | (with_reducible first | exact HB.out | apply below_alloc | apply pw_below_drewN | apply below_drew1) | exact HB.out)⟩⟩
          · rw [if_neg c11] at H
            exact absurd H (by simp)
        · rw [if_neg c10] at H
          have c10b0 : decide (x5_1 < (t215.length : Int)) = false := decide_eq_false c10
          clear c10
          replace H := Option.bind_eq_some_iff.mp H
          obtain ⟨⟨t222, t223⟩, A130, H⟩ := H
          replace H : (if t223 = 0 then ((path_Split.f t222).bind fun bt224 => (if (l0.length : Int) = 0 then (if bt224.2.2 = 0 then ((undercroftref14_Same.f k1 bt224.1 l0).bind fun t229 => (if t229 = true then (if (bt224.2.1 == true) = true then ((undercroftref14_Same.f k1 t215 t218).bind fun t230 => (some t230)) else (some false)) else (some false))) else (some false)) else (if 0 ≤ (wrap64 ((l0.length : Int) - 1)) then (if (wrap64 ((l0.length : Int) - 1)) < (l0.length : Int) then (if bt224.2.2 = 0 then ((undercroftref14_Same.f k1 bt224.1 l0).bind fun t232 => (if t232 = true then (if (bt224.2.1 == ((rdOf ByteArray.empty l0 (wrap64 ((l0.length : Int) - 1))).toList == ([46, 46] : List UInt8))) = true then ((undercroftref14_Same.f k1 t215 t218).bind fun t233 => (some t233)) else (some false)) else (some false))) else (some false)) else (none)) else (none)))) else (if t222.toList = ([] : List UInt8) then ((undercroftref14_Same.f k1 t215 t218).bind fun t234 => (some t234)) else (some false))) = some r := H
          have A13 := Aside0.mk A130
          clear A130
          by_cases c14 : t223 = 0
          · rw [if_pos c14] at H
            have c14b0 : (t223 == 0) = true := beq_iff_eq.mpr c14
            have c14b1 : (t223 != 0) = false := bne_eq_false_iff_eq.mpr c14
            clear c14
            replace H := Option.bind_eq_some_iff.mp H
            obtain ⟨⟨t224, t225, t226⟩, A150, H⟩ := H
            replace H : (if (l0.length : Int) = 0 then (if t226 = 0 then ((undercroftref14_Same.f k1 t224 l0).bind fun t229 => (if t229 = true then (if (t225 == true) = true then ((undercroftref14_Same.f k1 t215 t218).bind fun t230 => (some t230)) else (some false)) else (some false))) else (some false)) else (if 0 ≤ (wrap64 ((l0.length : Int) - 1)) then (if (wrap64 ((l0.length : Int) - 1)) < (l0.length : Int) then (if t226 = 0 then ((undercroftref14_Same.f k1 t224 l0).bind fun t232 => (if t232 = true then (if (t225 == ((rdOf ByteArray.empty l0 (wrap64 ((l0.length : Int) - 1))).toList == ([46, 46] : List UInt8))) = true then ((undercroftref14_Same.f k1 t215 t218).bind fun t233 => (some t233)) else (some false)) else (some false))) else (some false)) else (none)) else (none))) = some r := H
            have A15 := Aside0.mk A150
            clear A150
            by_cases c16 : (l0.length : Int) = 0
            · rw [if_pos c16] at H
              have c16b0 : ((l0.length : Int) == 0) = true := beq_iff_eq.mpr c16
              have c16b1 : ((l0.length : Int) != 0) = false := bne_eq_false_iff_eq.mpr c16
              clear c16
              by_cases c17 : t226 = 0
              · rw [if_pos c17] at H
                have c17b0 : (t226 == 0) = true := beq_iff_eq.mpr c17
                have c17b1 : (t226 != 0) = false := bne_eq_false_iff_eq.mpr c17
                clear c17
                replace H := Option.bind_eq_some_iff.mp H
                obtain ⟨t229, A180, H⟩ := H
                replace H : (if t229 = true then (if (t225 == true) = true then ((undercroftref14_Same.f k1 t215 t218).bind fun t230 => (some t230)) else (some false)) else (some false)) = some r := H
                have A18 := Aside0.mk A180
                clear A180
                by_cases c19 : t229 = true
                · subst c19
                  have H1 : (if (t225 == true) = true then ((undercroftref14_Same.f k1 t215 t218).bind fun t230 => (some t230)) else (some false)) = some r := by rw [if_pos rfl] at H; exact H
                  clear H
                  have H := H1
                  clear H1
                  by_cases c20 : (t225 == true) = true
                  · rw [if_pos c20] at H
                    have c20b0 : (t225 == true) = true := c20
                    (try (have c20b1 : decide (t225 = true) = true := by simpa using c20))
                    (try (have c20b2 : (t225 == true) = true := by simpa using c20))
                    clear c20
                    replace H := Option.bind_eq_some_iff.mp H
                    obtain ⟨t230, A210, H⟩ := H
                    replace H : (some t230) = some r := H
                    have A21 := Aside0.mk A210
                    clear A210
                    obtain rfl := Option.some.inj H
                    go_wp2_with (first | ((with_reducible refine gate_callee (f := 12) rfl ?_); refine goesL_ (some 31) rfl rfl Tryd.func12 (by kernel_rfl) rfl #[.slice A0 l0.length c0] rfl (by (try simp only [List.map_toArray, List.map_cons, List.map_nil]); first | done | rfl | (simp only [List.length_drop, List.length_take]; rfl)) ?_; (with_reducible refine (path_Join.calls _ _ l0 t222 t223 _ ?side1 ?side2 A13.out).mono ?_); (case side1 => repeat (first | exact (Kd.C_below HR0.out HB.out) | (with_reducible refine Kd.C_alloc ?_ _) | (with_reducible refine Kd.C_drewN ?_ _) | (with_reducible refine Kd.C_drew ?_))); (case side2 => exact HC0.out); rintro e w22 ⟨rfl, hb⟩; refine ⟨_, rfl, ?_⟩; have n0_ := Aside0.mk (Kd.R_below (by (with_reducible repeat (first | apply Kd.R_alloc | apply Kd.R_drewN | apply Kd.R_drew)); exact HO_3.out) hb); have n1_ := Aside0.mk (Kd.R_below (by (with_reducible repeat (first | apply Kd.R_alloc | apply Kd.R_drewN | apply Kd.R_drew)); exact HO_4.out) hb); have n2_ := Aside0.mk (below_step (by repeat (first | (with_reducible first | exact HB.out | apply below_alloc | apply pw_below_drewN | apply below_drew1) | exact HB.out)) hb); clear HO_3; clear HO_4; clear HB; have HO_3 := n0_; have HO_4 := n1_; have HB := n2_; clear n0_ n1_ n2_; (try clear hb); (try clear hb2); (try clear hk); (try clear hi)) | ((with_reducible refine gate_callee (f := 9) rfl ?_); refine goesL_ (some 45) rfl rfl Tryd.func9 (by kernel_rfl) rfl #[.string t222] rfl (by (try simp only [List.map_toArray, List.map_cons, List.map_nil]); first | done | rfl | (simp only [List.length_drop, List.length_take]; rfl)) ?_; (with_reducible refine (path_Split.calls t222 t224 t225 t226 _ A15.out).mono ?_); rintro e w23 ⟨v227, rfl, ho0, hb⟩; refine ⟨_, rfl, ?_⟩; have n0_ := Aside0.mk (Kd.R_elder' (by (with_reducible repeat (first | apply Kd.R_alloc | apply Kd.R_drewN | apply Kd.R_drew)); exact HO_3.out) (Kd.R_base ho0) hb); have n1_ := Aside0.mk (Kd.R_elder' (by (with_reducible repeat (first | apply Kd.R_alloc | apply Kd.R_drewN | apply Kd.R_drew)); exact HO_4.out) (Kd.R_base ho0) hb); have n2_ := Aside0.mk (Kd.R_lower (Kd.R_new' (Kd.R_new' ho0 (Kd.R_lt (by (with_reducible repeat (first | apply Kd.R_alloc | apply Kd.R_drewN | apply Kd.R_drew)); exact HO_3.out))) (Kd.R_lt (by (with_reducible repeat (first | apply Kd.R_alloc | apply Kd.R_drewN | apply Kd.R_drew)); exact HO_4.out))) (below_size (by repeat (first | (with_reducible first | exact HB.out | apply below_alloc | apply pw_below_drewN | apply below_drew1) | exact HB.out)))); have n3_ := Aside0.mk (below_step (by repeat (first | (with_reducible first | exact HB.out | apply below_alloc | apply pw_below_drewN | apply below_drew1) | exact HB.out)) hb); clear HO_3; clear HO_4; clear HB; have HO_3 := n0_; have HO_4 := n1_; have HO228 := n2_; have HB := n3_; clear n0_ n1_ n2_ n3_; (try clear hb); (try clear hb2); (try clear hk); (try clear hi); (try clear ho0); obtain ⟨Ao24, co24, eo24⟩ := Kd.R_slice HO228.out; subst eo24) | (go_at_call 11; (with_reducible refine (undercroftref14_Same.calls k1 _ _ t224 _ _ l0 true _ ?side1 ?side2 ?side3 ?side4 A18.out).mono ?_); (case side1 => repeat (first | exact (Kd.R_reads' HO228.out).2.2 | (with_reducible refine Kd.C_alloc ?_ _) | (with_reducible refine Kd.C_drewN ?_ _) | (with_reducible refine Kd.C_drew ?_))); (case side2 => exact (Kd.R_reads' HO228.out).2.1); (case side3 => repeat (first | exact (Kd.C_below HR0.out HB.out) | (with_reducible refine Kd.C_alloc ?_ _) | (with_reducible refine Kd.C_drewN ?_ _) | (with_reducible refine Kd.C_drew ?_))); (case side4 => exact HC0.out); rintro e w' ⟨rfl, ⟨nd, rfl⟩⟩; obtain ⟨Ao25, co25, eo25⟩ := Kd.R_slice HO_4.out; subst eo25) | (go_at_call 11; (with_reducible refine (undercroftref14_Same.calls k1 _ _ t215 _ _ t218 t230 _ ?side1 ?side2 ?side3 ?side4 A21.out).mono ?_); (case side1 => repeat (first | exact (Kd.R_reads' HO_3.out).2.2 | (with_reducible refine Kd.C_alloc ?_ _) | (with_reducible refine Kd.C_drewN ?_ _) | (with_reducible refine Kd.C_drew ?_))); (case side2 => exact (Kd.R_reads' HO_3.out).2.1); (case side3 => repeat (first | exact (Kd.R_reads' HO_4.out).2.2 | (with_reducible refine Kd.C_alloc ?_ _) | (with_reducible refine Kd.C_drewN ?_ _) | (with_reducible refine Kd.C_drew ?_))); (case side4 => exact (Kd.R_reads' HO_4.out).2.1); rintro e w' ⟨rfl, ⟨nd, rfl⟩⟩))
                    go_ret
                    exact ⟨by first | rfl | (simp [errW_none, errW_some] <;> rfl) | (simp [*, errW_none, errW_some] <;> rfl), by repeat (first | (with_reducible first | exact HB.out | apply below_alloc | apply pw_below_drewN | apply below_drew1) | exact HB.out)⟩
                  · rw [if_neg c20] at H
                    have c20b0 : (t225 == true) = false := by simpa using c20
                    (try (have c20b1 : decide (t225 = true) = false := by simpa using c20))
                    (try (have c20b2 : (t225 == true) = false := by simpa using c20))
                    (try (have c20b3 : ¬ (t225 = true) := by simpa using c20))
                    clear c20
                    obtain rfl := Option.some.inj H
                    go_wp2_with (first | ((with_reducible refine gate_callee (f := 12) rfl ?_); refine goesL_ (some 31) rfl rfl Tryd.func12 (by kernel_rfl) rfl #[.slice A0 l0.length c0] rfl (by (try simp only [List.map_toArray, List.map_cons, List.map_nil]); first | done | rfl | (simp only [List.length_drop, List.length_take]; rfl)) ?_; (with_reducible refine (path_Join.calls _ _ l0 t222 t223 _ ?side1 ?side2 A13.out).mono ?_); (case side1 => repeat (first | exact (Kd.C_below HR0.out HB.out) | (with_reducible refine Kd.C_alloc ?_ _) | (with_reducible refine Kd.C_drewN ?_ _) | (with_reducible refine Kd.C_drew ?_))); (case side2 => exact HC0.out); rintro e w26 ⟨rfl, hb⟩; refine ⟨_, rfl, ?_⟩; have n0_ := Aside0.mk (Kd.R_below (by (with_reducible repeat (first | apply Kd.R_alloc | apply Kd.R_drewN | apply Kd.R_drew)); exact HO_3.out) hb); have n1_ := Aside0.mk (Kd.R_below (by (with_reducible repeat (first | apply Kd.R_alloc | apply Kd.R_drewN | apply Kd.R_drew)); exact HO_4.out) hb); have n2_ := Aside0.mk (below_step (by repeat (first | (with_reducible first | exact HB.out | apply below_alloc | apply pw_below_drewN | apply below_drew1) | exact HB.out)) hb); clear HO_3; clear HO_4; clear HB; have HO_3 := n0_; have HO_4 := n1_; have HB := n2_; clear n0_ n1_ n2_; (try clear hb); (try clear hb2); (try clear hk); (try clear hi)) | ((with_reducible refine gate_callee (f := 9) rfl ?_); refine goesL_ (some 45) rfl rfl Tryd.func9 (by kernel_rfl) rfl #[.string t222] rfl (by (try simp only [List.map_toArray, List.map_cons, List.map_nil]); first | done | rfl | (simp only [List.length_drop, List.length_take]; rfl)) ?_; (with_reducible refine (path_Split.calls t222 t224 t225 t226 _ A15.out).mono ?_); rintro e w27 ⟨v227, rfl, ho0, hb⟩; refine ⟨_, rfl, ?_⟩; have n0_ := Aside0.mk (Kd.R_elder' (by (with_reducible repeat (first | apply Kd.R_alloc | apply Kd.R_drewN | apply Kd.R_drew)); exact HO_3.out) (Kd.R_base ho0) hb); have n1_ := Aside0.mk (Kd.R_elder' (by (with_reducible repeat (first | apply Kd.R_alloc | apply Kd.R_drewN | apply Kd.R_drew)); exact HO_4.out) (Kd.R_base ho0) hb); have n2_ := Aside0.mk (Kd.R_lower (Kd.R_new' (Kd.R_new' ho0 (Kd.R_lt (by (with_reducible repeat (first | apply Kd.R_alloc | apply Kd.R_drewN | apply Kd.R_drew)); exact HO_3.out))) (Kd.R_lt (by (with_reducible repeat (first | apply Kd.R_alloc | apply Kd.R_drewN | apply Kd.R_drew)); exact HO_4.out))) (below_size (by repeat (first | (with_reducible first | exact HB.out | apply below_alloc | apply pw_below_drewN | apply below_drew1) | exact HB.out)))); have n3_ := Aside0.mk (below_step (by repeat (first | (with_reducible first | exact HB.out | apply below_alloc | apply pw_below_drewN | apply below_drew1) | exact HB.out)) hb); clear HO_3; clear HO_4; clear HB; have HO_3 := n0_; have HO_4 := n1_; have HO228 := n2_; have HB := n3_; clear n0_ n1_ n2_ n3_; (try clear hb); (try clear hb2); (try clear hk); (try clear hi); (try clear ho0); obtain ⟨Ao28, co28, eo28⟩ := Kd.R_slice HO228.out; subst eo28) | (go_at_call 11; (with_reducible refine (undercroftref14_Same.calls k1 _ _ t224 _ _ l0 true _ ?side1 ?side2 ?side3 ?side4 A18.out).mono ?_); (case side1 => repeat (first | exact (Kd.R_reads' HO228.out).2.2 | (with_reducible refine Kd.C_alloc ?_ _) | (with_reducible refine Kd.C_drewN ?_ _) | (with_reducible refine Kd.C_drew ?_))); (case side2 => exact (Kd.R_reads' HO228.out).2.1); (case side3 => repeat (first | exact (Kd.C_below HR0.out HB.out) | (with_reducible refine Kd.C_alloc ?_ _) | (with_reducible refine Kd.C_drewN ?_ _) | (with_reducible refine Kd.C_drew ?_))); (case side4 => exact HC0.out); rintro e w' ⟨rfl, ⟨nd, rfl⟩⟩))
                    go_ret
                    exact ⟨by first | rfl | (simp [errW_none, errW_some] <;> rfl) | (simp [*, errW_none, errW_some] <;> rfl), by repeat (first | (with_reducible first | exact HB.out | apply below_alloc | apply pw_below_drewN | apply below_drew1) | exact HB.out)⟩
                · replace c19 := Bool.eq_false_iff.mpr c19
                  subst c19
                  have H1 : (some false) = some r := by rw [if_neg (show ¬ (false = true) by decide)] at H; exact H
                  clear H
                  have H := H1
                  clear H1
                  obtain rfl := Option.some.inj H
                  go_wp2_with (first | ((with_reducible refine gate_callee (f := 12) rfl ?_); refine goesL_ (some 31) rfl rfl Tryd.func12 (by kernel_rfl) rfl #[.slice A0 l0.length c0] rfl (by (try simp only [List.map_toArray, List.map_cons, List.map_nil]); first | done | rfl | (simp only [List.length_drop, List.length_take]; rfl)) ?_; (with_reducible refine (path_Join.calls _ _ l0 t222 t223 _ ?side1 ?side2 A13.out).mono ?_); (case side1 => repeat (first | exact (Kd.C_below HR0.out HB.out) | (with_reducible refine Kd.C_alloc ?_ _) | (with_reducible refine Kd.C_drewN ?_ _) | (with_reducible refine Kd.C_drew ?_))); (case side2 => exact HC0.out); rintro e w29 ⟨rfl, hb⟩; refine ⟨_, rfl, ?_⟩; have n0_ := Aside0.mk (Kd.R_below (by (with_reducible repeat (first | apply Kd.R_alloc | apply Kd.R_drewN | apply Kd.R_drew)); exact HO_3.out) hb); have n1_ := Aside0.mk (Kd.R_below (by (with_reducible repeat (first | apply Kd.R_alloc | apply Kd.R_drewN | apply Kd.R_drew)); exact HO_4.out) hb); have n2_ := Aside0.mk (below_step (by repeat (first | (with_reducible first | exact HB.out | apply below_alloc | apply pw_below_drewN | apply below_drew1) | exact HB.out)) hb); clear HO_3; clear HO_4; clear HB; have HO_3 := n0_; have HO_4 := n1_; have HB := n2_; clear n0_ n1_ n2_; (try clear hb); (try clear hb2); (try clear hk); (try clear hi)) | ((with_reducible refine gate_callee (f := 9) rfl ?_); refine goesL_ (some 45) rfl rfl Tryd.func9 (by kernel_rfl) rfl #[.string t222] rfl (by (try simp only [List.map_toArray, List.map_cons, List.map_nil]); first | done | rfl | (simp only [List.length_drop, List.length_take]; rfl)) ?_; (with_reducible refine (path_Split.calls t222 t224 t225 t226 _ A15.out).mono ?_); rintro e w30 ⟨v227, rfl, ho0, hb⟩; refine ⟨_, rfl, ?_⟩; have n0_ := Aside0.mk (Kd.R_elder' (by (with_reducible repeat (first | apply Kd.R_alloc | apply Kd.R_drewN | apply Kd.R_drew)); exact HO_3.out) (Kd.R_base ho0) hb); have n1_ := Aside0.mk (Kd.R_elder' (by (with_reducible repeat (first | apply Kd.R_alloc | apply Kd.R_drewN | apply Kd.R_drew)); exact HO_4.out) (Kd.R_base ho0) hb); have n2_ := Aside0.mk (Kd.R_lower (Kd.R_new' (Kd.R_new' ho0 (Kd.R_lt (by (with_reducible repeat (first | apply Kd.R_alloc | apply Kd.R_drewN | apply Kd.R_drew)); exact HO_3.out))) (Kd.R_lt (by (with_reducible repeat (first | apply Kd.R_alloc | apply Kd.R_drewN | apply Kd.R_drew)); exact HO_4.out))) (below_size (by repeat (first | (with_reducible first | exact HB.out | apply below_alloc | apply pw_below_drewN | apply below_drew1) | exact HB.out)))); have n3_ := Aside0.mk (below_step (by repeat (first | (with_reducible first | exact HB.out | apply below_alloc | apply pw_below_drewN | apply below_drew1) | exact HB.out)) hb); clear HO_3; clear HO_4; clear HB; have HO_3 := n0_; have HO_4 := n1_; have HO228 := n2_; have HB := n3_; clear n0_ n1_ n2_ n3_; (try clear hb); (try clear hb2); (try clear hk); (try clear hi); (try clear ho0); obtain ⟨Ao31, co31, eo31⟩ := Kd.R_slice HO228.out; subst eo31) | (go_at_call 11; (with_reducible refine (undercroftref14_Same.calls k1 _ _ t224 _ _ l0 false _ ?side1 ?side2 ?side3 ?side4 A18.out).mono ?_); (case side1 => repeat (first | exact (Kd.R_reads' HO228.out).2.2 | (with_reducible refine Kd.C_alloc ?_ _) | (with_reducible refine Kd.C_drewN ?_ _) | (with_reducible refine Kd.C_drew ?_))); (case side2 => exact (Kd.R_reads' HO228.out).2.1); (case side3 => repeat (first | exact (Kd.C_below HR0.out HB.out) | (with_reducible refine Kd.C_alloc ?_ _) | (with_reducible refine Kd.C_drewN ?_ _) | (with_reducible refine Kd.C_drew ?_))); (case side4 => exact HC0.out); rintro e w' ⟨rfl, ⟨nd, rfl⟩⟩))
                  go_ret
                  exact ⟨by first | rfl | (simp [errW_none, errW_some] <;> rfl) | (simp [*, errW_none, errW_some] <;> rfl), by repeat (first | (with_reducible first | exact HB.out | apply below_alloc | apply pw_below_drewN | apply below_drew1) | exact HB.out)⟩
              · rw [if_neg c17] at H
                have c17b0 : (t226 == 0) = false := beq_eq_false_iff_ne.mpr c17
                have c17b1 : (t226 != 0) = true := bne_iff_ne.mpr c17
                obtain rfl := Option.some.inj H
                go_wp2_with (first | ((with_reducible refine gate_callee (f := 12) rfl ?_); refine goesL_ (some 31) rfl rfl Tryd.func12 (by kernel_rfl) rfl #[.slice A0 l0.length c0] rfl (by (try simp only [List.map_toArray, List.map_cons, List.map_nil]); first | done | rfl | (simp only [List.length_drop, List.length_take]; rfl)) ?_; (with_reducible refine (path_Join.calls _ _ l0 t222 t223 _ ?side1 ?side2 A13.out).mono ?_); (case side1 => repeat (first | exact (Kd.C_below HR0.out HB.out) | (with_reducible refine Kd.C_alloc ?_ _) | (with_reducible refine Kd.C_drewN ?_ _) | (with_reducible refine Kd.C_drew ?_))); (case side2 => exact HC0.out); rintro e w32 ⟨rfl, hb⟩; refine ⟨_, rfl, ?_⟩; have n0_ := Aside0.mk (Kd.R_below (by (with_reducible repeat (first | apply Kd.R_alloc | apply Kd.R_drewN | apply Kd.R_drew)); exact HO_3.out) hb); have n1_ := Aside0.mk (Kd.R_below (by (with_reducible repeat (first | apply Kd.R_alloc | apply Kd.R_drewN | apply Kd.R_drew)); exact HO_4.out) hb); have n2_ := Aside0.mk (below_step (by repeat (first | (with_reducible first | exact HB.out | apply below_alloc | apply pw_below_drewN | apply below_drew1) | exact HB.out)) hb); clear HO_3; clear HO_4; clear HB; have HO_3 := n0_; have HO_4 := n1_; have HB := n2_; clear n0_ n1_ n2_; (try clear hb); (try clear hb2); (try clear hk); (try clear hi)) | ((with_reducible refine gate_callee (f := 9) rfl ?_); refine goesL_ (some 45) rfl rfl Tryd.func9 (by kernel_rfl) rfl #[.string t222] rfl (by (try simp only [List.map_toArray, List.map_cons, List.map_nil]); first | done | rfl | (simp only [List.length_drop, List.length_take]; rfl)) ?_; (with_reducible refine (path_Split.calls t222 t224 t225 t226 _ A15.out).mono ?_); rintro e w33 ⟨v227, rfl, ho0, hb⟩; refine ⟨_, rfl, ?_⟩; have n0_ := Aside0.mk (Kd.R_elder' (by (with_reducible repeat (first | apply Kd.R_alloc | apply Kd.R_drewN | apply Kd.R_drew)); exact HO_3.out) (Kd.R_base ho0) hb); have n1_ := Aside0.mk (Kd.R_elder' (by (with_reducible repeat (first | apply Kd.R_alloc | apply Kd.R_drewN | apply Kd.R_drew)); exact HO_4.out) (Kd.R_base ho0) hb); have n2_ := Aside0.mk (Kd.R_lower (Kd.R_new' (Kd.R_new' ho0 (Kd.R_lt (by (with_reducible repeat (first | apply Kd.R_alloc | apply Kd.R_drewN | apply Kd.R_drew)); exact HO_3.out))) (Kd.R_lt (by (with_reducible repeat (first | apply Kd.R_alloc | apply Kd.R_drewN | apply Kd.R_drew)); exact HO_4.out))) (below_size (by repeat (first | (with_reducible first | exact HB.out | apply below_alloc | apply pw_below_drewN | apply below_drew1) | exact HB.out)))); have n3_ := Aside0.mk (below_step (by repeat (first | (with_reducible first | exact HB.out | apply below_alloc | apply pw_below_drewN | apply below_drew1) | exact HB.out)) hb); clear HO_3; clear HO_4; clear HB; have HO_3 := n0_; have HO_4 := n1_; have HO228 := n2_; have HB := n3_; clear n0_ n1_ n2_ n3_; (try clear hb); (try clear hb2); (try clear hk); (try clear hi); (try clear ho0)))
                go_ret
                exact ⟨by first | rfl | (simp [errW_none, errW_some] <;> rfl) | (simp [*, errW_none, errW_some] <;> rfl), by repeat (first | (with_reducible first | exact HB.out | apply below_alloc | apply pw_below_drewN | apply below_drew1) | exact HB.out)⟩
            · rw [if_neg c16] at H
              have c16b0 : ((l0.length : Int) == 0) = false := beq_eq_false_iff_ne.mpr c16
              have c16b1 : ((l0.length : Int) != 0) = true := bne_iff_ne.mpr c16
              have c16b2 : ¬ (l0 = []) := fun h_ => c16 (by rw [h_]; rfl)
              obtain ⟨ji34, hji34⟩ : ∃ j_ : Int, (wrap64 ((l0.length : Int) - 1)) = j_ := ⟨_, rfl⟩
              replace H : (if 0 ≤ (ji34) then (if (ji34) < (l0.length : Int) then (if t226 = 0 then ((undercroftref14_Same.f k1 t224 l0).bind fun t232 => (if t232 = true then (if (t225 == ((rdOf ByteArray.empty l0 (ji34)).toList == ([46, 46] : List UInt8))) = true then ((undercroftref14_Same.f k1 t215 t218).bind fun t233 => (some t233)) else (some false)) else (some false))) else (some false)) else (none)) else (none)) = some r := by first | (rw [hji34] at H; exact H) | (simp only [hji34] at H ⊢; exact H)
              (try rw [hji34] at A13)
              (try rw [hji34] at A15)
              have hji34w : (IntKind.i64.wrap ((l0.length : Int) - 1)) = ji34 := (i64_w _).trans hji34
              (try rw [hji34] at c10b0)
              (try rw [hji34] at c14b0)
              (try rw [hji34] at c14b1)
              (try rw [hji34] at c16b0)
              (try rw [hji34] at c16b1)
              (try rw [hji34] at c16b2)
              by_cases c35 : 0 ≤ (ji34)
              · rw [if_pos c35] at H
                have c35b0 : decide (0 ≤ (ji34)) = true := decide_eq_true c35
                clear c35
                by_cases c36 : (ji34) < (l0.length : Int)
                · rw [if_pos c36] at H
                  have c36b0 : decide ((ji34) < (l0.length : Int)) = true := decide_eq_true c36
                  clear c36
                  by_cases c37 : t226 = 0
                  · rw [if_pos c37] at H
                    have c37b0 : (t226 == 0) = true := beq_iff_eq.mpr c37
                    have c37b1 : (t226 != 0) = false := bne_eq_false_iff_eq.mpr c37
                    clear c37
                    replace H := Option.bind_eq_some_iff.mp H
                    obtain ⟨t232, A380, H⟩ := H
                    replace H : (if t232 = true then (if (t225 == ((rdOf ByteArray.empty l0 (ji34)).toList == ([46, 46] : List UInt8))) = true then ((undercroftref14_Same.f k1 t215 t218).bind fun t233 => (some t233)) else (some false)) else (some false)) = some r := H
                    have A38 := Aside0.mk A380
                    clear A380
                    by_cases c39 : t232 = true
                    · subst c39
                      have H1 : (if (t225 == ((rdOf ByteArray.empty l0 (ji34)).toList == ([46, 46] : List UInt8))) = true then ((undercroftref14_Same.f k1 t215 t218).bind fun t233 => (some t233)) else (some false)) = some r := by rw [if_pos rfl] at H; exact H
                      clear H
                      have H := H1
                      clear H1
                      by_cases c40 : (t225 == ((rdOf ByteArray.empty l0 (ji34)).toList == ([46, 46] : List UInt8))) = true
                      · rw [if_pos c40] at H
                        have c40b0 : (t225 == ((rdOf ByteArray.empty l0 (ji34)).toList == ([46, 46] : List UInt8))) = true := c40
                        (try (have c40b1 : decide (t225 = ((rdOf ByteArray.empty l0 (ji34)).toList == ([46, 46] : List UInt8))) = true := by simpa using c40))
                        (try (have c40b2 : (t225 == ((rdOf ByteArray.empty l0 (ji34)).toList == ([46, 46] : List UInt8))) = true := by simpa using c40))
                        clear c40
                        replace H := Option.bind_eq_some_iff.mp H
                        obtain ⟨t233, A410, H⟩ := H
                        replace H : (some t233) = some r := H
                        have A41 := Aside0.mk A410
                        clear A410
                        obtain rfl := Option.some.inj H
                        go_wp2_with (first | ((with_reducible refine gate_callee (f := 12) rfl ?_); refine goesL_ (some 31) rfl rfl Tryd.func12 (by kernel_rfl) rfl #[.slice A0 l0.length c0] rfl (by (try simp only [List.map_toArray, List.map_cons, List.map_nil]); first | done | rfl | (simp only [List.length_drop, List.length_take]; rfl)) ?_; (with_reducible refine (path_Join.calls _ _ l0 t222 t223 _ ?side1 ?side2 A13.out).mono ?_); (case side1 => repeat (first | exact (Kd.C_below HR0.out HB.out) | (with_reducible refine Kd.C_alloc ?_ _) | (with_reducible refine Kd.C_drewN ?_ _) | (with_reducible refine Kd.C_drew ?_))); (case side2 => exact HC0.out); rintro e w42 ⟨rfl, hb⟩; refine ⟨_, rfl, ?_⟩; have n0_ := Aside0.mk (Kd.R_below (by (with_reducible repeat (first | apply Kd.R_alloc | apply Kd.R_drewN | apply Kd.R_drew)); exact HO_3.out) hb); have n1_ := Aside0.mk (Kd.R_below (by (with_reducible repeat (first | apply Kd.R_alloc | apply Kd.R_drewN | apply Kd.R_drew)); exact HO_4.out) hb); have n2_ := Aside0.mk (below_step (by repeat (first | (with_reducible first | exact HB.out | apply below_alloc | apply pw_below_drewN | apply below_drew1) | exact HB.out)) hb); clear HO_3; clear HO_4; clear HB; have HO_3 := n0_; have HO_4 := n1_; have HB := n2_; clear n0_ n1_ n2_; (try clear hb); (try clear hb2); (try clear hk); (try clear hi)) | ((with_reducible refine gate_callee (f := 9) rfl ?_); refine goesL_ (some 45) rfl rfl Tryd.func9 (by kernel_rfl) rfl #[.string t222] rfl (by (try simp only [List.map_toArray, List.map_cons, List.map_nil]); first | done | rfl | (simp only [List.length_drop, List.length_take]; rfl)) ?_; (with_reducible refine (path_Split.calls t222 t224 t225 t226 _ A15.out).mono ?_); rintro e w43 ⟨v227, rfl, ho0, hb⟩; refine ⟨_, rfl, ?_⟩; have n0_ := Aside0.mk (Kd.R_elder' (by (with_reducible repeat (first | apply Kd.R_alloc | apply Kd.R_drewN | apply Kd.R_drew)); exact HO_3.out) (Kd.R_base ho0) hb); have n1_ := Aside0.mk (Kd.R_elder' (by (with_reducible repeat (first | apply Kd.R_alloc | apply Kd.R_drewN | apply Kd.R_drew)); exact HO_4.out) (Kd.R_base ho0) hb); have n2_ := Aside0.mk (Kd.R_lower (Kd.R_new' (Kd.R_new' ho0 (Kd.R_lt (by (with_reducible repeat (first | apply Kd.R_alloc | apply Kd.R_drewN | apply Kd.R_drew)); exact HO_3.out))) (Kd.R_lt (by (with_reducible repeat (first | apply Kd.R_alloc | apply Kd.R_drewN | apply Kd.R_drew)); exact HO_4.out))) (below_size (by repeat (first | (with_reducible first | exact HB.out | apply below_alloc | apply pw_below_drewN | apply below_drew1) | exact HB.out)))); have n3_ := Aside0.mk (below_step (by repeat (first | (with_reducible first | exact HB.out | apply below_alloc | apply pw_below_drewN | apply below_drew1) | exact HB.out)) hb); clear HO_3; clear HO_4; clear HB; have HO_3 := n0_; have HO_4 := n1_; have HO228 := n2_; have HB := n3_; clear n0_ n1_ n2_ n3_; (try clear hb); (try clear hb2); (try clear hk); (try clear hi); (try clear ho0); have p231 : 0 ≤ ((ji34) : Int) := of_decide_eq_true (by first | (with_reducible assumption) | assumption); have q231 : (ji34) < (l0.length : Int) := of_decide_eq_true (by first | (with_reducible assumption) | assumption); obtain ⟨ad231, e231, hx231_0⟩ := Kd.at_string HR0.out (ji34) p231 q231; cases e231; replace hx231_0 := (HB.out.cell (World.block_lt_of_cell? w _ hx231_0)).trans hx231_0; replace p231 := eq_true p231; replace q231 := eq_true q231; obtain ⟨Ao44, co44, eo44⟩ := Kd.R_slice HO228.out; subst eo44) | (go_at_call 11; (with_reducible refine (undercroftref14_Same.calls k1 _ _ t224 _ _ l0 true _ ?side1 ?side2 ?side3 ?side4 A38.out).mono ?_); (case side1 => repeat (first | exact (Kd.R_reads' HO228.out).2.2 | (with_reducible refine Kd.C_alloc ?_ _) | (with_reducible refine Kd.C_drewN ?_ _) | (with_reducible refine Kd.C_drew ?_))); (case side2 => exact (Kd.R_reads' HO228.out).2.1); (case side3 => repeat (first | exact (Kd.C_below HR0.out HB.out) | (with_reducible refine Kd.C_alloc ?_ _) | (with_reducible refine Kd.C_drewN ?_ _) | (with_reducible refine Kd.C_drew ?_))); (case side4 => exact HC0.out); rintro e w' ⟨rfl, ⟨nd, rfl⟩⟩; obtain ⟨Ao45, co45, eo45⟩ := Kd.R_slice HO_4.out; subst eo45) | (go_at_call 11; (with_reducible refine (undercroftref14_Same.calls k1 _ _ t215 _ _ t218 t233 _ ?side1 ?side2 ?side3 ?side4 A41.out).mono ?_); (case side1 => repeat (first | exact (Kd.R_reads' HO_3.out).2.2 | (with_reducible refine Kd.C_alloc ?_ _) | (with_reducible refine Kd.C_drewN ?_ _) | (with_reducible refine Kd.C_drew ?_))); (case side2 => exact (Kd.R_reads' HO_3.out).2.1); (case side3 => repeat (first | exact (Kd.R_reads' HO_4.out).2.2 | (with_reducible refine Kd.C_alloc ?_ _) | (with_reducible refine Kd.C_drewN ?_ _) | (with_reducible refine Kd.C_drew ?_))); (case side4 => exact (Kd.R_reads' HO_4.out).2.1); rintro e w' ⟨rfl, ⟨nd, rfl⟩⟩))
                        go_ret
                        exact ⟨by first | rfl | (simp [errW_none, errW_some] <;> rfl) | (simp only [← hji34]; first | rfl | (simp [errW_none, errW_some] <;> rfl)) | (simp [*, errW_none, errW_some] <;> rfl), by repeat (first | (with_reducible first | exact HB.out | apply below_alloc | apply pw_below_drewN | apply below_drew1) | exact HB.out)⟩
                      · rw [if_neg c40] at H
                        have c40b0 : (t225 == ((rdOf ByteArray.empty l0 (ji34)).toList == ([46, 46] : List UInt8))) = false := by simpa using c40
                        (try (have c40b1 : decide (t225 = ((rdOf ByteArray.empty l0 (ji34)).toList == ([46, 46] : List UInt8))) = false := by simpa using c40))
                        (try (have c40b2 : (t225 == ((rdOf ByteArray.empty l0 (ji34)).toList == ([46, 46] : List UInt8))) = false := by simpa using c40))
                        (try (have c40b3 : ¬ (t225 = ((rdOf ByteArray.empty l0 (ji34)).toList == ([46, 46] : List UInt8))) := by simpa using c40))
                        clear c40
                        obtain rfl := Option.some.inj H
                        go_wp2_with (first | ((with_reducible refine gate_callee (f := 12) rfl ?_); refine goesL_ (some 31) rfl rfl Tryd.func12 (by kernel_rfl) rfl #[.slice A0 l0.length c0] rfl (by (try simp only [List.map_toArray, List.map_cons, List.map_nil]); first | done | rfl | (simp only [List.length_drop, List.length_take]; rfl)) ?_; (with_reducible refine (path_Join.calls _ _ l0 t222 t223 _ ?side1 ?side2 A13.out).mono ?_); (case side1 => repeat (first | exact (Kd.C_below HR0.out HB.out) | (with_reducible refine Kd.C_alloc ?_ _) | (with_reducible refine Kd.C_drewN ?_ _) | (with_reducible refine Kd.C_drew ?_))); (case side2 => exact HC0.out); rintro e w46 ⟨rfl, hb⟩; refine ⟨_, rfl, ?_⟩; have n0_ := Aside0.mk (Kd.R_below (by (with_reducible repeat (first | apply Kd.R_alloc | apply Kd.R_drewN | apply Kd.R_drew)); exact HO_3.out) hb); have n1_ := Aside0.mk (Kd.R_below (by (with_reducible repeat (first | apply Kd.R_alloc | apply Kd.R_drewN | apply Kd.R_drew)); exact HO_4.out) hb); have n2_ := Aside0.mk (below_step (by repeat (first | (with_reducible first | exact HB.out | apply below_alloc | apply pw_below_drewN | apply below_drew1) | exact HB.out)) hb); clear HO_3; clear HO_4; clear HB; have HO_3 := n0_; have HO_4 := n1_; have HB := n2_; clear n0_ n1_ n2_; (try clear hb); (try clear hb2); (try clear hk); (try clear hi)) | ((with_reducible refine gate_callee (f := 9) rfl ?_); refine goesL_ (some 45) rfl rfl Tryd.func9 (by kernel_rfl) rfl #[.string t222] rfl (by (try simp only [List.map_toArray, List.map_cons, List.map_nil]); first | done | rfl | (simp only [List.length_drop, List.length_take]; rfl)) ?_; (with_reducible refine (path_Split.calls t222 t224 t225 t226 _ A15.out).mono ?_); rintro e w47 ⟨v227, rfl, ho0, hb⟩; refine ⟨_, rfl, ?_⟩; have n0_ := Aside0.mk (Kd.R_elder' (by (with_reducible repeat (first | apply Kd.R_alloc | apply Kd.R_drewN | apply Kd.R_drew)); exact HO_3.out) (Kd.R_base ho0) hb); have n1_ := Aside0.mk (Kd.R_elder' (by (with_reducible repeat (first | apply Kd.R_alloc | apply Kd.R_drewN | apply Kd.R_drew)); exact HO_4.out) (Kd.R_base ho0) hb); have n2_ := Aside0.mk (Kd.R_lower (Kd.R_new' (Kd.R_new' ho0 (Kd.R_lt (by (with_reducible repeat (first | apply Kd.R_alloc | apply Kd.R_drewN | apply Kd.R_drew)); exact HO_3.out))) (Kd.R_lt (by (with_reducible repeat (first | apply Kd.R_alloc | apply Kd.R_drewN | apply Kd.R_drew)); exact HO_4.out))) (below_size (by repeat (first | (with_reducible first | exact HB.out | apply below_alloc | apply pw_below_drewN | apply below_drew1) | exact HB.out)))); have n3_ := Aside0.mk (below_step (by repeat (first | (with_reducible first | exact HB.out | apply below_alloc | apply pw_below_drewN | apply below_drew1) | exact HB.out)) hb); clear HO_3; clear HO_4; clear HB; have HO_3 := n0_; have HO_4 := n1_; have HO228 := n2_; have HB := n3_; clear n0_ n1_ n2_ n3_; (try clear hb); (try clear hb2); (try clear hk); (try clear hi); (try clear ho0); have p231 : 0 ≤ ((ji34) : Int) := of_decide_eq_true (by first | (with_reducible assumption) | assumption); have q231 : (ji34) < (l0.length : Int) := of_decide_eq_true (by first | (with_reducible assumption) | assumption); obtain ⟨ad231, e231, hx231_0⟩ := Kd.at_string HR0.out (ji34) p231 q231; cases e231; replace hx231_0 := (HB.out.cell (World.block_lt_of_cell? w _ hx231_0)).trans hx231_0; replace p231 := eq_true p231; replace q231 := eq_true q231; obtain ⟨Ao48, co48, eo48⟩ := Kd.R_slice HO228.out; subst eo48) | (go_at_call 11; (with_reducible refine (undercroftref14_Same.calls k1 _ _ t224 _ _ l0 true _ ?side1 ?side2 ?side3 ?side4 A38.out).mono ?_); (case side1 => repeat (first | exact (Kd.R_reads' HO228.out).2.2 | (with_reducible refine Kd.C_alloc ?_ _) | (with_reducible refine Kd.C_drewN ?_ _) | (with_reducible refine Kd.C_drew ?_))); (case side2 => exact (Kd.R_reads' HO228.out).2.1); (case side3 => repeat (first | exact (Kd.C_below HR0.out HB.out) | (with_reducible refine Kd.C_alloc ?_ _) | (with_reducible refine Kd.C_drewN ?_ _) | (with_reducible refine Kd.C_drew ?_))); (case side4 => exact HC0.out); rintro e w' ⟨rfl, ⟨nd, rfl⟩⟩))
                        go_ret
                        exact ⟨by first | rfl | (simp [errW_none, errW_some] <;> rfl) | (simp only [← hji34]; first | rfl | (simp [errW_none, errW_some] <;> rfl)) | (simp [*, errW_none, errW_some] <;> rfl), by repeat (first | (with_reducible first | exact HB.out | apply below_alloc | apply pw_below_drewN | apply below_drew1) | exact HB.out)⟩
                    · replace c39 := Bool.eq_false_iff.mpr c39
                      subst c39
                      have H1 : (some false) = some r := by rw [if_neg (show ¬ (false = true) by decide)] at H; exact H
                      clear H
                      have H := H1
                      clear H1
                      obtain rfl := Option.some.inj H
                      go_wp2_with (first | ((with_reducible refine gate_callee (f := 12) rfl ?_); refine goesL_ (some 31) rfl rfl Tryd.func12 (by kernel_rfl) rfl #[.slice A0 l0.length c0] rfl (by (try simp only [List.map_toArray, List.map_cons, List.map_nil]); first | done | rfl | (simp only [List.length_drop, List.length_take]; rfl)) ?_; (with_reducible refine (path_Join.calls _ _ l0 t222 t223 _ ?side1 ?side2 A13.out).mono ?_); (case side1 => repeat (first | exact (Kd.C_below HR0.out HB.out) | (with_reducible refine Kd.C_alloc ?_ _) | (with_reducible refine Kd.C_drewN ?_ _) | (with_reducible refine Kd.C_drew ?_))); (case side2 => exact HC0.out); rintro e w49 ⟨rfl, hb⟩; refine ⟨_, rfl, ?_⟩; have n0_ := Aside0.mk (Kd.R_below (by (with_reducible repeat (first | apply Kd.R_alloc | apply Kd.R_drewN | apply Kd.R_drew)); exact HO_3.out) hb); have n1_ := Aside0.mk (Kd.R_below (by (with_reducible repeat (first | apply Kd.R_alloc | apply Kd.R_drewN | apply Kd.R_drew)); exact HO_4.out) hb); have n2_ := Aside0.mk (below_step (by repeat (first | (with_reducible first | exact HB.out | apply below_alloc | apply pw_below_drewN | apply below_drew1) | exact HB.out)) hb); clear HO_3; clear HO_4; clear HB; have HO_3 := n0_; have HO_4 := n1_; have HB := n2_; clear n0_ n1_ n2_; (try clear hb); (try clear hb2); (try clear hk); (try clear hi)) | ((with_reducible refine gate_callee (f := 9) rfl ?_); refine goesL_ (some 45) rfl rfl Tryd.func9 (by kernel_rfl) rfl #[.string t222] rfl (by (try simp only [List.map_toArray, List.map_cons, List.map_nil]); first | done | rfl | (simp only [List.length_drop, List.length_take]; rfl)) ?_; (with_reducible refine (path_Split.calls t222 t224 t225 t226 _ A15.out).mono ?_); rintro e w50 ⟨v227, rfl, ho0, hb⟩; refine ⟨_, rfl, ?_⟩; have n0_ := Aside0.mk (Kd.R_elder' (by (with_reducible repeat (first | apply Kd.R_alloc | apply Kd.R_drewN | apply Kd.R_drew)); exact HO_3.out) (Kd.R_base ho0) hb); have n1_ := Aside0.mk (Kd.R_elder' (by (with_reducible repeat (first | apply Kd.R_alloc | apply Kd.R_drewN | apply Kd.R_drew)); exact HO_4.out) (Kd.R_base ho0) hb); have n2_ := Aside0.mk (Kd.R_lower (Kd.R_new' (Kd.R_new' ho0 (Kd.R_lt (by (with_reducible repeat (first | apply Kd.R_alloc | apply Kd.R_drewN | apply Kd.R_drew)); exact HO_3.out))) (Kd.R_lt (by (with_reducible repeat (first | apply Kd.R_alloc | apply Kd.R_drewN | apply Kd.R_drew)); exact HO_4.out))) (below_size (by repeat (first | (with_reducible first | exact HB.out | apply below_alloc | apply pw_below_drewN | apply below_drew1) | exact HB.out)))); have n3_ := Aside0.mk (below_step (by repeat (first | (with_reducible first | exact HB.out | apply below_alloc | apply pw_below_drewN | apply below_drew1) | exact HB.out)) hb); clear HO_3; clear HO_4; clear HB; have HO_3 := n0_; have HO_4 := n1_; have HO228 := n2_; have HB := n3_; clear n0_ n1_ n2_ n3_; (try clear hb); (try clear hb2); (try clear hk); (try clear hi); (try clear ho0); have p231 : 0 ≤ ((ji34) : Int) := of_decide_eq_true (by first | (with_reducible assumption) | assumption); have q231 : (ji34) < (l0.length : Int) := of_decide_eq_true (by first | (with_reducible assumption) | assumption); obtain ⟨ad231, e231, hx231_0⟩ := Kd.at_string HR0.out (ji34) p231 q231; cases e231; replace hx231_0 := (HB.out.cell (World.block_lt_of_cell? w _ hx231_0)).trans hx231_0; replace p231 := eq_true p231; replace q231 := eq_true q231; obtain ⟨Ao51, co51, eo51⟩ := Kd.R_slice HO228.out; subst eo51) | (go_at_call 11; (with_reducible refine (undercroftref14_Same.calls k1 _ _ t224 _ _ l0 false _ ?side1 ?side2 ?side3 ?side4 A38.out).mono ?_); (case side1 => repeat (first | exact (Kd.R_reads' HO228.out).2.2 | (with_reducible refine Kd.C_alloc ?_ _) | (with_reducible refine Kd.C_drewN ?_ _) | (with_reducible refine Kd.C_drew ?_))); (case side2 => exact (Kd.R_reads' HO228.out).2.1); (case side3 => repeat (first | exact (Kd.C_below HR0.out HB.out) | (with_reducible refine Kd.C_alloc ?_ _) | (with_reducible refine Kd.C_drewN ?_ _) | (with_reducible refine Kd.C_drew ?_))); (case side4 => exact HC0.out); rintro e w' ⟨rfl, ⟨nd, rfl⟩⟩))
                      go_ret
                      exact ⟨by first | rfl | (simp [errW_none, errW_some] <;> rfl) | (simp only [← hji34]; first | rfl | (simp [errW_none, errW_some] <;> rfl)) | (simp [*, errW_none, errW_some] <;> rfl), by repeat (first | (with_reducible first | exact HB.out | apply below_alloc | apply pw_below_drewN | apply below_drew1) | exact HB.out)⟩
                  · rw [if_neg c37] at H
                    have c37b0 : (t226 == 0) = false := beq_eq_false_iff_ne.mpr c37
                    have c37b1 : (t226 != 0) = true := bne_iff_ne.mpr c37
                    obtain rfl := Option.some.inj H
                    go_wp2_with (first | ((with_reducible refine gate_callee (f := 12) rfl ?_); refine goesL_ (some 31) rfl rfl Tryd.func12 (by kernel_rfl) rfl #[.slice A0 l0.length c0] rfl (by (try simp only [List.map_toArray, List.map_cons, List.map_nil]); first | done | rfl | (simp only [List.length_drop, List.length_take]; rfl)) ?_; (with_reducible refine (path_Join.calls _ _ l0 t222 t223 _ ?side1 ?side2 A13.out).mono ?_); (case side1 => repeat (first | exact (Kd.C_below HR0.out HB.out) | (with_reducible refine Kd.C_alloc ?_ _) | (with_reducible refine Kd.C_drewN ?_ _) | (with_reducible refine Kd.C_drew ?_))); (case side2 => exact HC0.out); rintro e w52 ⟨rfl, hb⟩; refine ⟨_, rfl, ?_⟩; have n0_ := Aside0.mk (Kd.R_below (by (with_reducible repeat (first | apply Kd.R_alloc | apply Kd.R_drewN | apply Kd.R_drew)); exact HO_3.out) hb); have n1_ := Aside0.mk (Kd.R_below (by (with_reducible repeat (first | apply Kd.R_alloc | apply Kd.R_drewN | apply Kd.R_drew)); exact HO_4.out) hb); have n2_ := Aside0.mk (below_step (by repeat (first | (with_reducible first | exact HB.out | apply below_alloc | apply pw_below_drewN | apply below_drew1) | exact HB.out)) hb); clear HO_3; clear HO_4; clear HB; have HO_3 := n0_; have HO_4 := n1_; have HB := n2_; clear n0_ n1_ n2_; (try clear hb); (try clear hb2); (try clear hk); (try clear hi)) | ((with_reducible refine gate_callee (f := 9) rfl ?_); refine goesL_ (some 45) rfl rfl Tryd.func9 (by kernel_rfl) rfl #[.string t222] rfl (by (try simp only [List.map_toArray, List.map_cons, List.map_nil]); first | done | rfl | (simp only [List.length_drop, List.length_take]; rfl)) ?_; (with_reducible refine (path_Split.calls t222 t224 t225 t226 _ A15.out).mono ?_); rintro e w53 ⟨v227, rfl, ho0, hb⟩; refine ⟨_, rfl, ?_⟩; have n0_ := Aside0.mk (Kd.R_elder' (by (with_reducible repeat (first | apply Kd.R_alloc | apply Kd.R_drewN | apply Kd.R_drew)); exact HO_3.out) (Kd.R_base ho0) hb); have n1_ := Aside0.mk (Kd.R_elder' (by (with_reducible repeat (first | apply Kd.R_alloc | apply Kd.R_drewN | apply Kd.R_drew)); exact HO_4.out) (Kd.R_base ho0) hb); have n2_ := Aside0.mk (Kd.R_lower (Kd.R_new' (Kd.R_new' ho0 (Kd.R_lt (by (with_reducible repeat (first | apply Kd.R_alloc | apply Kd.R_drewN | apply Kd.R_drew)); exact HO_3.out))) (Kd.R_lt (by (with_reducible repeat (first | apply Kd.R_alloc | apply Kd.R_drewN | apply Kd.R_drew)); exact HO_4.out))) (below_size (by repeat (first | (with_reducible first | exact HB.out | apply below_alloc | apply pw_below_drewN | apply below_drew1) | exact HB.out)))); have n3_ := Aside0.mk (below_step (by repeat (first | (with_reducible first | exact HB.out | apply below_alloc | apply pw_below_drewN | apply below_drew1) | exact HB.out)) hb); clear HO_3; clear HO_4; clear HB; have HO_3 := n0_; have HO_4 := n1_; have HO228 := n2_; have HB := n3_; clear n0_ n1_ n2_ n3_; (try clear hb); (try clear hb2); (try clear hk); (try clear hi); (try clear ho0); have p231 : 0 ≤ ((ji34) : Int) := of_decide_eq_true (by first | (with_reducible assumption) | assumption); have q231 : (ji34) < (l0.length : Int) := of_decide_eq_true (by first | (with_reducible assumption) | assumption); obtain ⟨ad231, e231, hx231_0⟩ := Kd.at_string HR0.out (ji34) p231 q231; cases e231; replace hx231_0 := (HB.out.cell (World.block_lt_of_cell? w _ hx231_0)).trans hx231_0; replace p231 := eq_true p231; replace q231 := eq_true q231))
                    go_ret
                    exact ⟨by first | rfl | (simp [errW_none, errW_some] <;> rfl) | (simp only [← hji34]; first | rfl | (simp [errW_none, errW_some] <;> rfl)) | (simp [*, errW_none, errW_some] <;> rfl), by repeat (first | (with_reducible first | exact HB.out | apply below_alloc | apply pw_below_drewN | apply below_drew1) | exact HB.out)⟩
                · rw [if_neg c36] at H
                  exact absurd H (by simp)
              · rw [if_neg c35] at H
                exact absurd H (by simp)
          · rw [if_neg c14] at H
            have c14b0 : (t223 == 0) = false := beq_eq_false_iff_ne.mpr c14
            have c14b1 : (t223 != 0) = true := bne_iff_ne.mpr c14
            by_cases c54 : t222.toList = ([] : List UInt8)
            · rw [if_pos c54] at H
              have c54b0 : (t222.toList == ([] : List UInt8)) = true := beq_iff_eq.mpr c54
              have c54b1 : (t222.toList != ([] : List UInt8)) = false := bne_eq_false_iff_eq.mpr c54
              clear c54
              replace H := Option.bind_eq_some_iff.mp H
              obtain ⟨t234, A550, H⟩ := H
              replace H : (some t234) = some r := H
              have A55 := Aside0.mk A550
              clear A550
              obtain rfl := Option.some.inj H
              go_wp2_with (first | ((with_reducible refine gate_callee (f := 12) rfl ?_); refine goesL_ (some 31) rfl rfl Tryd.func12 (by kernel_rfl) rfl #[.slice A0 l0.length c0] rfl (by (try simp only [List.map_toArray, List.map_cons, List.map_nil]); first | done | rfl | (simp only [List.length_drop, List.length_take]; rfl)) ?_; (with_reducible refine (path_Join.calls _ _ l0 t222 t223 _ ?side1 ?side2 A13.out).mono ?_); (case side1 => repeat (first | exact (Kd.C_below HR0.out HB.out) | (with_reducible refine Kd.C_alloc ?_ _) | (with_reducible refine Kd.C_drewN ?_ _) | (with_reducible refine Kd.C_drew ?_))); (case side2 => exact HC0.out); rintro e w56 ⟨rfl, hb⟩; refine ⟨_, rfl, ?_⟩; have n0_ := Aside0.mk (Kd.R_below (by (with_reducible repeat (first | apply Kd.R_alloc | apply Kd.R_drewN | apply Kd.R_drew)); exact HO_3.out) hb); have n1_ := Aside0.mk (Kd.R_below (by (with_reducible repeat (first | apply Kd.R_alloc | apply Kd.R_drewN | apply Kd.R_drew)); exact HO_4.out) hb); have n2_ := Aside0.mk (below_step (by repeat (first | (with_reducible first | exact HB.out | apply below_alloc | apply pw_below_drewN | apply below_drew1) | exact HB.out)) hb); clear HO_3; clear HO_4; clear HB; have HO_3 := n0_; have HO_4 := n1_; have HB := n2_; clear n0_ n1_ n2_; (try clear hb); (try clear hb2); (try clear hk); (try clear hi); obtain ⟨Ao57, co57, eo57⟩ := Kd.R_slice HO_4.out; subst eo57) | (go_at_call 11; (with_reducible refine (undercroftref14_Same.calls k1 _ _ t215 _ _ t218 t234 _ ?side1 ?side2 ?side3 ?side4 A55.out).mono ?_); (case side1 => repeat (first | exact (Kd.R_reads' HO_3.out).2.2 | (with_reducible refine Kd.C_alloc ?_ _) | (with_reducible refine Kd.C_drewN ?_ _) | (with_reducible refine Kd.C_drew ?_))); (case side2 => exact (Kd.R_reads' HO_3.out).2.1); (case side3 => repeat (first | exact (Kd.R_reads' HO_4.out).2.2 | (with_reducible refine Kd.C_alloc ?_ _) | (with_reducible refine Kd.C_drewN ?_ _) | (with_reducible refine Kd.C_drew ?_))); (case side4 => exact (Kd.R_reads' HO_4.out).2.1); rintro e w' ⟨rfl, ⟨nd, rfl⟩⟩))
              go_ret
              exact ⟨by first | rfl | (simp [errW_none, errW_some] <;> rfl) | (simp [*, errW_none, errW_some] <;> rfl), by repeat (first | (with_reducible first | exact HB.out | apply below_alloc | apply pw_below_drewN | apply below_drew1) | exact HB.out)⟩
            · rw [if_neg c54] at H
              have c54b0 : (t222.toList == ([] : List UInt8)) = false := beq_eq_false_iff_ne.mpr c54
              have c54b1 : (t222.toList != ([] : List UInt8)) = true := bne_iff_ne.mpr c54
              obtain rfl := Option.some.inj H
              go_wp2_with (first | ((with_reducible refine gate_callee (f := 12) rfl ?_); refine goesL_ (some 31) rfl rfl Tryd.func12 (by kernel_rfl) rfl #[.slice A0 l0.length c0] rfl (by (try simp only [List.map_toArray, List.map_cons, List.map_nil]); first | done | rfl | (simp only [List.length_drop, List.length_take]; rfl)) ?_; (with_reducible refine (path_Join.calls _ _ l0 t222 t223 _ ?side1 ?side2 A13.out).mono ?_); (case side1 => repeat (first | exact (Kd.C_below HR0.out HB.out) | (with_reducible refine Kd.C_alloc ?_ _) | (with_reducible refine Kd.C_drewN ?_ _) | (with_reducible refine Kd.C_drew ?_))); (case side2 => exact HC0.out); rintro e w58 ⟨rfl, hb⟩; refine ⟨_, rfl, ?_⟩; have n0_ := Aside0.mk (Kd.R_below (by (with_reducible repeat (first | apply Kd.R_alloc | apply Kd.R_drewN | apply Kd.R_drew)); exact HO_3.out) hb); have n1_ := Aside0.mk (Kd.R_below (by (with_reducible repeat (first | apply Kd.R_alloc | apply Kd.R_drewN | apply Kd.R_drew)); exact HO_4.out) hb); have n2_ := Aside0.mk (below_step (by repeat (first | (with_reducible first | exact HB.out | apply below_alloc | apply pw_below_drewN | apply below_drew1) | exact HB.out)) hb); clear HO_3; clear HO_4; clear HB; have HO_3 := n0_; have HO_4 := n1_; have HB := n2_; clear n0_ n1_ n2_; (try clear hb); (try clear hb2); (try clear hk); (try clear hi)))
              go_ret
              exact ⟨by first | rfl | (simp [errW_none, errW_some] <;> rfl) | (simp [*, errW_none, errW_some] <;> rfl), by repeat (first | (with_reducible first | exact HB.out | apply below_alloc | apply pw_below_drewN | apply below_drew1) | exact HB.out)⟩
  · replace c3 := Bool.eq_false_iff.mpr c3
    subst c3
    have H1 : (some false) = some r := by rw [if_neg (show ¬ (false = true) by decide)] at H; exact H
    clear H
    have H := H1
    clear H1
    obtain rfl := Option.some.inj H
    go_enter Tryd.func7, Tryd.ntmps7
    go_wp2_with (first | ((with_reducible refine gate_callee (f := 8) rfl ?_); refine goesL_ (some 12) rfl rfl Tryd.func8 (by kernel_rfl) rfl #[] rfl (by (try simp only [List.map_toArray, List.map_cons, List.map_nil]); first | done | rfl | (simp only [List.length_drop, List.length_take]; rfl)) ?_; (with_reducible refine (undercroftlaw14_alive.calls  false _ A2.out).mono ?_); rintro e w59 ⟨rfl, hb⟩; refine ⟨_, rfl, ?_⟩; have n0_ := Aside0.mk (below_step (by repeat (first | (with_reducible first | exact HB.out | apply below_alloc | apply pw_below_drewN | apply below_drew1) | exact HB.out)) hb); clear HB; have HB := n0_; clear n0_; (try clear hb); (try clear hb2); (try clear hk); (try clear hi)))
    go_ret
    exact ⟨by first | rfl | (simp [errW_none, errW_some] <;> rfl) | (simp [*, errW_none, errW_some] <;> rfl), by repeat (first | (with_reducible first | exact HB.out | apply below_alloc | apply pw_below_drewN | apply below_drew1) | exact HB.out)⟩
end Go.Proofs.YtgcboobdaeeanaaDoor.Pr
end
section
namespace Go.Proofs.YtgcboobdaeeanaaDoor.Sq
open Go.RowKit Go.Proofs.YtgcboobdaeeanaaDoorW.PrintWords Go.Proofs.YtgcboobdaeeanaaDoorW.PrintMore Go.Proofs.YtgcboobdaeeanaaDoor.Pr Go.Proofs.YtgcboobdaeeanaaDoor.Od
set_option linter.unusedVariables false
set_option linter.unusedSimpArgs false
theorem sum1_length : ∀ ls : List (List UInt8), ls.length ≤ sum1 ls
  | [] => Nat.le_refl _
  | l :: ls => by have := sum1_length ls; rw [sum1_cons, List.length_cons]; omega
theorem catL_length (l : List ByteArray) : l.length ≤ (catL l).length := by
  rw [catL_sum]
  have := sum1_length (l.map (fun s => s.data.toList))
  rwa [List.length_map] at this
theorem path_split (s : ByteArray) : path_Split.f s = some (splitB s.data.toList) := by unfold path_Split.f; rw [split_B]
theorem path_join {l : List ByteArray} (h : (catL l).length ≤ 140737488355328) : path_Join.f l = some (joinR l) := by unfold path_Join.f; rw [if_pos h]
theorem joinR_err {l : List ByteArray} (h : ¬ (joinR l).2 = 0) : (joinR l).1 = ⟨#[]⟩ := by
  unfold joinR at h ⊢
  split
  · rename_i h1
    rw [if_pos h1] at h
    split
    · rfl
    · rename_i h2
      rw [if_neg h2] at h
      split at h <;> exact absurd rfl h
  · rfl
theorem joinR_ok {l : List ByteArray} (h : (joinR l).2 = 0) : (∀ q ∈ l, okJ q = true) ∧ (catL l).length ≤ 256 := by
  unfold joinR at h
  split at h
  · rename_i h1
    split at h
    · cases h
    · exact ⟨List.all_eq_true.1 h1, by omega⟩
  · cases h
theorem pathParts_ev (l : List ByteArray) (hl : (catL l).length < 8796093022208) : Ev (fun k => undercroftlaw14_PathParts.f k l) true := by
  have hll := catL_length l
  have hp := plain_len l []
  rw [List.length_nil] at hp
  have hfree := plain_free l [] (by simp)
  have hself := plain_self (plainL [] l) [] hfree
  rw [List.nil_append] at hself
  unfold undercroftlaw14_PathParts.f
  simp only [alive_some, bs, if_true]
  refine Ev.bind (plain_ev l (by omega)) ?_
  refine Ev.bind (plain_ev _ (by omega)) ?_
  rw [hself]
  generalize plainL [] l = P at *
  have key : ∀ (n i : Nat), i + n = P.length → Ev (fun k => undercroftlaw14_PathParts.l0 k l P P (i : Int)) true := by
    intro n
    induction n with
    | zero =>
      intro i hi
      refine Ev.succ ?_
      simp only [undercroftlaw14_PathParts.l0, if_neg (show ¬((i : Int) < (P.length : Int)) by omega), path_join (show (catL l).length ≤ 140737488355328 by omega), bs]
      by_cases he : (joinR l).2 = 0
      · obtain ⟨hok, h256⟩ := joinR_ok he
        obtain ⟨j1, -⟩ := split_join hok h256
        simp only [if_pos he, path_split, bs, j1, if_true]
        by_cases hz : (l.length : Int) = 0
        · have hn : l = [] := List.eq_nil_of_length_eq_zero (by omega)
          simp only [if_pos hz]
          refine Ev.bind (same_ev l (by omega)) ?_
          have : lastUp l = true := by rw [hn]; rfl
          simp only [this, beq_self_eq_true, if_true]
          refine Ev.bind (same_ev P (by omega)) ?_
          exact Ev.now _
        · have hw : wrap64 ((l.length : Int) - 1) = ((l.length - 1 : Nat) : Int) := by rw [w64 (by omega) (by omega)]; omega
          have hlt : l.length - 1 < l.length := by omega
          simp only [if_neg hz, hw, if_pos (show (0 : Int) ≤ ((l.length - 1 : Nat) : Int) by omega), if_pos (show ((l.length - 1 : Nat) : Int) < (l.length : Int) by omega), rd_get hlt]
          refine Ev.bind (same_ev l (by omega)) ?_
          have : (lastUp l == (l[l.length - 1].toList == ([46, 46] : List UInt8))) = true := by
            unfold lastUp
            rw [List.getLast?_eq_getElem?, List.getElem?_eq_getElem hlt, Lib.toList_data]
            show (decide (l[l.length - 1].data.toList = [46, 46]) == (l[l.length - 1].data.toList == ([46, 46] : List UInt8))) = true
            generalize l[l.length - 1].data.toList = q
            by_cases h : q = [46, 46]
            · rw [decide_eq_true h, h]; rfl
            · rw [decide_eq_false h, beq_eq_false_iff_ne.2 h]; rfl
          simp only [this, if_true]
          refine Ev.bind (same_ev P (by omega)) ?_
          exact Ev.now _
      · simp only [if_neg he, joinR_err he]
        simp only [if_pos (show (⟨#[]⟩ : ByteArray).toList = ([] : List UInt8) by rw [Lib.toList_data])]
        refine Ev.bind (same_ev P (by omega)) ?_
        exact Ev.now _
    | succ n ih =>
      intro i hi
      refine Ev.succ ?_
      have hil : i < P.length := by omega
      have hw2 : wrap64 ((i : Int) + 1) = ((i + 1 : Nat) : Int) := by rw [w64 (by omega) (by omega)]; omega
      have hne := hfree P[i] (List.getElem_mem hil)
      simp only [undercroftlaw14_PathParts.l0, if_pos (show ((i : Int) < (P.length : Int)) by omega), if_pos (show (0 : Int) ≤ (i : Int) by omega), rd_get hil, Lib.toList_data, if_neg hne, hw2]
      exact ih (i + 1) (by omega)
  exact key P.length 0 (by omega)
namespace PaK
theorem PathParts (l : List ByteArray) (h : (catL l).length < 8796093022208) : ∃ k, undercroftlaw14_PathParts.f k l = some true := (pathParts_ev l h).rounds
end PaK
end Go.Proofs.YtgcboobdaeeanaaDoor.Sq
end
section
namespace Go.Proofs.YtgcboobdaeeanaaDoor.Sq
open Go.ChangeShapes Go.WideShapes Go.Deep Go.RowKit Go.Proofs.YtgcboobdaeeanaaDoorW.PrintWords Go.Proofs.YtgcboobdaeeanaaDoorW.PrintMore
set_option linter.unusedVariables false
set_option linter.unusedSimpArgs false
theorem arg_strings {H : Type} {enc : TypeId × Value → H} {P : Program} {W : World} {t e : TypeId} {r : Reach} {b : Nat} {v : Value} {dd : DataW H} {ps : List MemPlace}
    (hu : P.underlying t = some (.slice e)) (he : P.underlying e = some .string) (hc : P.cellsOf e = 1) (h : DataW.Trod enc P W 0 (fun _ => true) true t v dd ps) (hv : Value.okWide P W r b t v) :
    ∃ A l c sp, v = .slice A (List.length l) c ∧ l.length ≤ c ∧ Kd.C Kd.string W A l.length l ∧ (l = [] ∨ dd = .slice (strs l) sp) := by
  obtain ⟨a, len, cap, rfl⟩ := okWide_slice hu hv
  obtain ⟨fuel, hf⟩ := h
  rcases open_strings hu he hc hf with ⟨hcs, -⟩ | ⟨a0, len0, cap0, ss, hcs, -, hl, hm, hlen, hx, hcell, -⟩
  · simp only [Value.cells, List.cons.injEq, and_true] at hcs
    exact ⟨none, [], 0, [], by simpa using hcs, Nat.le_refl _, ⟨rfl, Nat.zero_le _, fun h => absurd h (Nat.lt_irrefl _)⟩, Or.inl rfl⟩
  · simp only [Value.cells, List.cons.injEq, and_true] at hcs
    simp only [if_true] at hlen
    have hle : len0 ≤ ss.length := by omega
    have htl : (ss.take len0).length = len0 := by rw [List.length_take]; omega
    refine ⟨some a0, ss.take len0, cap0, strs (ss.drop len0), by rw [htl]; exact hcs, by rw [htl]; exact hl, ⟨rfl, ?_, fun _ => ⟨a0, rfl, ?_⟩⟩, Or.inr ?_⟩
    · rw [htl]
      have : maxLen ≤ 9223372036854775807 := by decide
      omega
    · intro i s hi
      rw [List.getElem?_take] at hi
      split at hi
      · rename_i hil
        refine ⟨[.string s], rfl, rfl, fun j u hj => ?_⟩
        have hlt : i < ss.length := by omega
        have hs : ss.getD i ByteArray.empty = s := by rw [List.getD_eq_getElem?_getD, hi]; rfl
        cases j with
        | zero =>
          simp only [List.getElem?_cons_zero, Option.some.injEq] at hj
          subst hj
          have := hcell i hlt
          rw [hs] at this
          show W.cell? (a0.add (i * 1 + 0)) = _
          rw [Nat.mul_one, Nat.add_zero]
          exact this
        | succ j => simp at hj
      · cases hi
    · exact (Prod.mk.inj hx).1
theorem bulk_strs {H : Type} : ∀ l : List ByteArray, Rows.uptoBulkAll (strs l : List (DataW H)) = (catL l).length
  | [] => rfl
  | s :: l => by
    show Rows.uptoBulk (.lit (.string s.data.toList) : DataW H) + Rows.uptoBulkAll (strs l : List (DataW H)) = (47 :: (s.data.toList ++ catL l)).length
    rw [bulk_strs l, List.length_cons, List.length_append]
    show s.data.toList.length + 1 + _ = _
    omega
theorem bulk_arg {H : Type} {l : List ByteArray} {dd : DataW H} {sp : List (DataW H)} (h : l = [] ∨ dd = .slice (strs l) sp) (hb : Rows.uptoSmall H ([dd] ++ []) = true) : (catL l).length < 8796093022208 := by
  rcases h with rfl | rfl
  · decide
  · unfold Rows.uptoSmall at hb
    have := of_decide_eq_true hb
    rw [List.append_nil] at this
    simp only [Rows.uptoBulkAll, Rows.uptoBulk, bulk_strs] at this
    omega
end Go.Proofs.YtgcboobdaeeanaaDoor.Sq
end
section
namespace Go.Proofs.YtgcboobdaeeanaaDoor.pathParts
open Go.ChangeShapes Go.WideShapes Go.ChangeAt Go.RowKit Go.Proofs.YtgcboobdaeeanaaDoorW.PrintWords Go.Proofs.YtgcboobdaeeanaaDoor.Pr Go.Joins
open Go.ChangeMaps (open_string shut_string)
set_option linter.unusedVariables false
theorem own : ownKnob Tryd.prog.godebug = none := by kernel_rfl
theorem laidOut : laidOutB Tryd.prog = true := by kernel_rfl
set_option maxRecDepth 100000 in
theorem contract (H : Type) (enc : TypeId × Value → H) (W : World) (base : Nat) (args : Array Value) (ds gs : List (DataW H)) (before : List MemPlace)
    (hval : ∀ (j : Nat) t v, Tryd.f7.params[j]? = some t → args[j]? = some v → Value.okWide Tryd.prog W .any base t v)
    (hW : DataW.Whole enc Tryd.prog Tryd.f7.params.toList Rows.pathPartsSpec.vars false W args.toList ds gs before)
    (hk0 : Rows.uptoSmall H (ds ++ gs) = true)
    (hsz : (DataW.weightsEach Tryd.prog (Tryd.f7.params.toList ++ Rows.pathPartsSpec.plain.varTypes Tryd.prog) (ds ++ gs)).all (· ≤ reachBytes) = true) :
    Calls Tryd.prog 7 args W fun e W' => ∃ v, e = .returned v ∧ Rows.pathPartsSpec.post enc Tryd.prog Tryd.f7 false true false false W args v W' := by
  have hW' := hW
  obtain ⟨p, q, hA0, hV, rfl, hfz, hnd⟩ := hW
  have hA : DataW.TrodAll enc Tryd.prog W 0 (fun _ => true) true Tryd.f7.params.toList args.toList ds p := hA0
  rw [Tryd.params7] at hA hval hsz
  obtain ⟨v0, vs0, d0, ds0, p0, q0, hargs, rfl, rfl, h0, r0⟩ := trodAll_cons hA
  obtain ⟨rfl, rfl, rfl⟩ := trodAll_nil r0
  obtain rfl : args = #[v0] := by cases args; simp_all
  obtain ⟨rfl, rfl⟩ := trodVars_none hV
  have lt0 : ∀ x ∈ p0, x.block < W.heap.size := by obtain ⟨m, hm⟩ := h0; exact DataW.trod_lt m _ _ _ hm
  have k0 := h0
  obtain ⟨A0, l0, c0, sp0, rfl, hc0, hr0, hs0⟩ := Sq.arg_strings Tryd.underlying23 Tryd.underlying9 (by kernel_rfl) h0 (hval 0 23 v0 rfl rfl)
  clear hA0
  obtain ⟨k, hk⟩ := Sq.PaK.PathParts l0 (Sq.bulk_arg hs0 hk0)
  refine (undercroftlaw14_PathParts.calls k A0 c0 l0 true W hr0 hc0 hk).mono fun e W' ⟨he, bel⟩ => ?_
  subst he
  exact ⟨_, rfl, _, _, _, [], _, [], hW', trodAll_mk1 (shut_bool Tryd.underlying4 _), (trodAll_cons_mk (Below.trod laidOut (by kernel_rfl) (of_decide_eq_true (by kernel_rfl)) k0 bel lt0) trodAll_mk0), rfl, bel.frame _, fun h => by cases h⟩
set_option maxRecDepth 100000 in
theorem witness_row (os : Os) {H : Type} (enc : TypeId × Value → H) :
    (Rows.OpenSpec.upto Rows.pathPartsSpec).preRow enc Tryd.prog Tryd.f7 Rows.pathPartsUptoRow.domain false Rows.pathPartsUptoRow.laid ((World.laidAll Tryd.prog os Rows.pathPartsUptoRow.laid).forCall (fun _ _ => 0) ⟨#[], #[.slice none 0 0], []⟩).memory #[(.slice none 0 0 : Value)] := by
  have hw : (DataW.whole enc Tryd.prog ((World.laidAll Tryd.prog os Rows.pathPartsUptoRow.laid).forCall (fun _ _ => 0) ⟨#[], #[.slice none 0 0], []⟩).memory Tryd.f7.params.toList (Rows.OpenSpec.upto Rows.pathPartsSpec).vars false (#[(.slice none 0 0 : Value)]).toList 8).map (fun x => (x.1, x.2.1)) =
      some ([.nil], []) := by kernel_rfl
  obtain ⟨⟨x1, x2, x3⟩, hx, hx1⟩ := Option.map_eq_some_iff.1 hw
  simp only [Prod.mk.injEq] at hx1
  obtain ⟨rfl, rfl⟩ := hx1
  exact OpenSpec.preRow_of_cond 8 hx (by kernel_rfl) (fun k hk => by first | (cases hk; rfl) | cases hk) (by kernel_rfl) (by rw [MakeChecks.laidMetH_plain _ _ _ (by kernel_rfl)]; exact laidMet_laidAll _ (by kernel_rfl) (by kernel_rfl))
set_option maxRecDepth 100000 in
theorem lifted (os : Os) (started : os.Started) (H : Type) (enc : TypeId × Value → H) (F : Stop.Interp) :
    ReturnsInHanded {} Tryd.checked os 7 .any ((Rows.OpenSpec.upto Rows.pathPartsSpec).preRow enc Tryd.prog Tryd.f7 Rows.pathPartsUptoRow.domain false Rows.pathPartsUptoRow.laid) (((Rows.OpenSpec.upto Rows.pathPartsSpec).at F).post enc Tryd.prog Tryd.f7 false true false false) := by
  refine returnsInHanded_of_row (C := Tryd.checked) (s := (Rows.OpenSpec.upto Rows.pathPartsSpec)) own started (by kernel_rfl) Tryd.func7
    (witness_row_atRef (enc := enc) (C := Tryd.checked) false (World.laidAll Tryd.prog os Rows.pathPartsUptoRow.laid) #[(.slice none 0 0 : Value)] (World.laidAll_os _ _ _) (by kernel_rfl) (by kernel_rfl) (by kernel_rfl) (witness_row os enc)) ?_
  intro W base args ds gs before hval hW _ hk hsz _ _ _
  exact contract H enc W base args ds gs before hval hW (hk _ rfl) hsz
theorem over : Rows.pathPartsUptoRow.holds Tryd.pinned (Rows.OpenSpec.upto Rows.pathPartsSpec) :=
  OpenClaim.holds_of_cond 7 Tryd.f7 rfl rfl rfl rfl rfl rfl rfl ⟨rfl, rfl, rfl, rfl, rfl⟩ rfl rfl rfl rfl rfl (by kernel_rfl) Tryd.func7 (by kernel_rfl)
    (of_decide_eq_true (by kernel_rfl)) (by unfold Func.isWrapper; first | (rw [if_pos (by decide +kernel)]; kernel_rfl) | (rw [if_neg (by decide +kernel)]; exact ⟨rfl, rfl⟩))
    (fun os started H enc _ F => by rw [OpenClaim.pre_eq_preRow]; exact lifted os started H enc F)
theorem proved : Rows.PathPartsUptoCardSaid :=
  Claim7.holds_tied_plain_at .later [] [.data, .pinned] true (true, "e7a5b36a5dbb71b9eca38999ec63d2b59cc8aafe58bc535c35ea62523a445272") false over (fun _ h => by cases h) (by kernel_rfl) (fun _ h => by cases h) pathPartsUpto_row_tie rfl ⟨rfl, rfl⟩ (by kernel_rfl) rfl
    (fun f fn hf hfn => by
      obtain rfl : f = 7 := Option.some.inj ((show Tryd.prog.funcNamed "undercroft/undercroftlaw14.PathParts" = some 7 by kernel_rfl).symm.trans hf) |>.symm
      obtain rfl : fn = Tryd.f7 := (Option.some.inj (Tryd.func7.symm.trans hfn)).symm
      exact ⟨by kernel_rfl, fun j t ht => by
        rw [Tryd.params7] at ht
        have hm : t ∈ [23] := by simpa using Array.mem_of_getElem? ht
        have hall : ([23].all fun u => !Tryd.prog.wantsStandIn u) = true := by kernel_rfl
        exact (show Tryd.prog.wantsStandIn t = false by simpa using List.all_eq_true.1 hall t hm)⟩)
    (by kernel_rfl)
end Go.Proofs.YtgcboobdaeeanaaDoor.pathParts
namespace Go.Proofs.YtgcboobdaeeanaaDoor
theorem pathPartsUptoCard_holds : Rows.PathPartsUptoCardSaid := pathParts.proved
end Go.Proofs.YtgcboobdaeeanaaDoor
end
