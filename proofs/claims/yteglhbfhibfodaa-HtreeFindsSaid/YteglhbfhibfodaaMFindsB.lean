/- MFinds: this session's texts for the one law, put together (part 2 of 5): what its program computes, function by function, and that this answers true; the row stands at the end of the last part. Conditions: those that each theorem names; the last theorem has none. -/
import Derived.Shelf.Small.Utf8
import Derived.Shelf.Small.Bits
import Derived.Shelf.Small.Strs
import Derived.Shelf.Strconv.Itoa0
import Derived.Shelf.Strings.Search1
import Derived.Shelf.Strings.Runes
import Derived.Shelf.Strings.IndexAny
import Derived.Shelf.Strings.AsciiSet
import Derived.Shelf.Strings.IndexAnyAll
import Derived.Shelf.Bytes.SlSearch0
import Derived.Ground.SlbCloneProg
import Derived.Shelf.Bytes.SlClone
import Derived.Shelf.Bytes.SlEqualAll
import Derived.Shelf.Bytes.Small
import Derived.Test.YteglhbfhibfodaaProg
import Derived.Below
import Derived.Deep.Draws
import Derived.Deep.AppendLies
import Derived.Maps.AppendAt
import Derived.OwnWalk
import Derived.Laws.BytesArg
import Derived.Laws.MakeOwn
import Derived.Laws.OwnMore
import Derived.Deep.OwnRows
import Derived.Tactics
import Derived.Lib.ConvBytes
import Derived.Laws.Slices
import Derived.WalkKit
import Derived.KernelRfl
import Derived.RowKit3
import Derived.Deep.LoopGhost
import Derived.Deep.QuietTactic
import Derived.BigQuiet
import Derived.WideLaws
import Derived.Deep.DeepCutAuto
import Derived.Deep.CutBlock
import Derived.Deep.RegionHeld3
import Derived.Laws.Rows
import Derived.Lib.AppendStr
import Derived.ArgAppend
import Derived.Laws.IdiomCopy
import Derived.OrdersHeld
import Derived.Laws.BitsLemmas
import Derived.RowKit
import Derived.BigRegion
import Derived.Lib.IndexLaws
import Derived.Lib.OthersKept
import Derived.Laws.RangeAny
import Derived.LoopN
import Derived.WalkMore
import Derived.Laws.Runes
import Derived.Test.YteglhbfhibfodaaMFindsA
section
namespace Go.Proofs
open Go.Shelf
def Try.lays119_ren : Go.Shelf.Ren := ⟨fun | 119 => 106 | n => n, fun | 21 => 21 | 4 => 4 | n => n, fun | n => n⟩
theorem Try.lays119 : Go.Proofs.Lays.n119 Try.prog Try.lays119_ren := {
  mixed := by kernel_rfl
  f119 := Try.func106.trans (congrArg some (by kernel_rfl))
  t4 := Try.underlying4
  a4 := Try.isAgg4
  z4 := Try.sizeOf4
  v4 := Try.zeroValue4
  t21 := Try.underlying21
  a21 := Try.isAgg21
  z21 := Try.sizeOf21
  v21 := Try.zeroValue21 }
theorem Try.utf8_ValidRune (r : Int) (w : World) :
    Calls Try.prog 106 #[.int .i32 r] w fun e w' => e = .returned (.bool (Lib.validRune r)) ∧ w' = w := Any.utf8_ValidRune Try.lays119 r w
def Try.lays106_ren : Go.Shelf.Ren := ⟨fun | 106 => 42 | 213 => 67 | 265 => 87 | n => n, fun | 9 => 9 | 3 => 3 | n => n, fun | n => n⟩
theorem Try.lays106 : Go.Proofs.Lays.n106 Try.prog Try.lays106_ren := {
  mixed := by kernel_rfl
  f106 := Try.func42.trans (congrArg some (by kernel_rfl))
  f213 := Try.func67.trans (congrArg some (by kernel_rfl))
  f265 := Try.func87.trans (congrArg some (by kernel_rfl))
  t3 := Try.underlying3
  a3 := Try.isAgg3
  z3 := Try.sizeOf3
  v3 := Try.zeroValue3
  t9 := Try.underlying9
  a9 := Try.isAgg9
  z9 := Try.sizeOf9
  v9 := Try.zeroValue9 }
open Go.RowKit in
theorem Try.strings_Compare (a b : ByteArray) (w : World) :
    Calls Try.prog 42 #[.string a, .string b] w fun e w' => e = .returned (.int .i64 (Lib.compareBytes a.data.toList b.data.toList)) ∧ w' = w := Any.strings_Compare Try.lays106 a b w
def Try.lays137_ren : Go.Shelf.Ren := ⟨fun | 137 => 105 | 217 => 109 | 266 => 110 | n => n, fun | 9 => 9 | 5 => 5 | 3 => 3 | n => n, fun | n => n⟩
theorem Try.lays137 : Go.Proofs.Lays.n137 Try.prog Try.lays137_ren := {
  mixed := by kernel_rfl
  f137 := Try.func105.trans (congrArg some (by kernel_rfl))
  f217 := Try.func109.trans (congrArg some (by kernel_rfl))
  f266 := Try.func110.trans (congrArg some (by kernel_rfl))
  t3 := Try.underlying3
  a3 := Try.isAgg3
  z3 := Try.sizeOf3
  v3 := Try.zeroValue3
  t5 := Try.underlying5
  a5 := Try.isAgg5
  z5 := Try.sizeOf5
  v5 := Try.zeroValue5
  t9 := Try.underlying9
  a9 := Try.isAgg9
  z9 := Try.sizeOf9
  v9 := Try.zeroValue9 }
open Go.RowKit in
theorem Try.strings_IndexByte (s : ByteArray) (c : Int) (w : World) :
    Calls Try.prog 105 #[.string s, .int .u8 c] w fun e w' => e = .returned (.int .i64 (Lib.indexByte s.data.toList c.toNat.toUInt8)) ∧ w' = w := Any.strings_IndexByte Try.lays137 s c w
def Try.lays152_ren : Go.Shelf.Ren := ⟨fun | 152 => 99 | 137 => 105 | 119 => 106 | 224 => 107 | 225 => 108 | 217 => 109 | 266 => 110 | n => n, fun | 9 => 9 | 21 => 21 | 3 => 3 | 4 => 4 | 5 => 5 | 0 => 0 | 46 => 36 | n => n, fun | n => n⟩
theorem Try.lays152 : Go.Proofs.Lays.n152 Try.prog Try.lays152_ren := {
  mixed := by kernel_rfl
  f119 := Try.func106.trans (congrArg some (by kernel_rfl))
  f137 := Try.func105.trans (congrArg some (by kernel_rfl))
  f152 := Try.func99.trans (congrArg some (by kernel_rfl))
  f217 := Try.func109.trans (congrArg some (by kernel_rfl))
  f224 := Try.func107.trans (congrArg some (by kernel_rfl))
  f225 := Try.func108.trans (congrArg some (by kernel_rfl))
  f266 := Try.func110.trans (congrArg some (by kernel_rfl))
  t0 := Try.underlying0
  a0 := Try.isAgg0
  z0 := Try.sizeOf0
  v0 := Try.zeroValue0
  t3 := Try.underlying3
  a3 := Try.isAgg3
  z3 := Try.sizeOf3
  v3 := Try.zeroValue3
  t4 := Try.underlying4
  a4 := Try.isAgg4
  z4 := Try.sizeOf4
  v4 := Try.zeroValue4
  t5 := Try.underlying5
  a5 := Try.isAgg5
  z5 := Try.sizeOf5
  v5 := Try.zeroValue5
  t9 := Try.underlying9
  a9 := Try.isAgg9
  z9 := Try.sizeOf9
  v9 := Try.zeroValue9
  t21 := Try.underlying21
  a21 := Try.isAgg21
  z21 := Try.sizeOf21
  v21 := Try.zeroValue21
  t46 := Try.underlying36
  a46 := Try.isAgg36
  z46 := Try.sizeOf36
  v46 := Try.zeroValue36 }
open Go.RowKit Go.Lib in
theorem Try.strings_IndexRune_ascii (s : ByteArray) (r : Int) (w : World) (h0 : 0 ≤ r) (h1 : r < 128) :
    Calls Try.prog 99 #[.string s, .int .i32 r] w fun e w' => e = .returned (.int .i64 (Lib.indexByte s.data.toList r.toNat.toUInt8)) ∧ w' = w := Any.strings_IndexRune_ascii Try.lays152 s r w h0 h1
def Try.lays226_ren : Go.Shelf.Ren := ⟨fun | 226 => 100 | n => n, fun | 3 => 3 | 4 => 4 | n => n, fun | n => n⟩
theorem Try.lays226 : Go.Proofs.Lays.n226 Try.prog Try.lays226_ren := {
  mixed := by kernel_rfl
  f226 := Try.func100.trans (congrArg some (by kernel_rfl))
  t3 := Try.underlying3
  a3 := Try.isAgg3
  z3 := Try.sizeOf3
  v3 := Try.zeroValue3
  t4 := Try.underlying4
  a4 := Try.isAgg4
  z4 := Try.sizeOf4
  v4 := Try.zeroValue4 }
open Go.RowKit Go.Lib in
theorem Try.strings_shouldUseASCIISet (n : Int) (w : World) :
    Calls Try.prog 100 #[.int .i64 n] w fun e w' => e = .returned (.bool (decide (8 < n))) ∧ w' = w := Any.strings_shouldUseASCIISet Try.lays226 n w
def Try.lays153_ren : Go.Shelf.Ren := ⟨fun | 153 => 91 | 152 => 99 | 226 => 100 | 227 => 101 | 228 => 102 | 137 => 105 | 119 => 106 | 224 => 107 | 225 => 108 | 217 => 109 | 266 => 110 | n => n, fun | 9 => 9 | 3 => 3 | 4 => 4 | 5 => 5 | 21 => 21 | 117 => 144 | 116 => 143 | 0 => 0 | 46 => 36 | 124 => 153 | n => n, fun | n => n⟩
theorem Try.lays153 : Go.Proofs.Lays.n153 Try.prog Try.lays153_ren := {
  mixed := by kernel_rfl
  f119 := Try.func106.trans (congrArg some (by kernel_rfl))
  f137 := Try.func105.trans (congrArg some (by kernel_rfl))
  f152 := Try.func99.trans (congrArg some (by kernel_rfl))
  f153 := Try.func91.trans (congrArg some (by kernel_rfl))
  f217 := Try.func109.trans (congrArg some (by kernel_rfl))
  f224 := Try.func107.trans (congrArg some (by kernel_rfl))
  f225 := Try.func108.trans (congrArg some (by kernel_rfl))
  f226 := Try.func100.trans (congrArg some (by kernel_rfl))
  f227 := Try.func101.trans (congrArg some (by kernel_rfl))
  f228 := Try.func102.trans (congrArg some (by kernel_rfl))
  f266 := Try.func110.trans (congrArg some (by kernel_rfl))
  t0 := Try.underlying0
  a0 := Try.isAgg0
  z0 := Try.sizeOf0
  v0 := Try.zeroValue0
  t3 := Try.underlying3
  a3 := Try.isAgg3
  z3 := Try.sizeOf3
  v3 := Try.zeroValue3
  t4 := Try.underlying4
  a4 := Try.isAgg4
  z4 := Try.sizeOf4
  v4 := Try.zeroValue4
  t5 := Try.underlying5
  a5 := Try.isAgg5
  z5 := Try.sizeOf5
  v5 := Try.zeroValue5
  t9 := Try.underlying9
  a9 := Try.isAgg9
  z9 := Try.sizeOf9
  v9 := Try.zeroValue9
  t21 := Try.underlying21
  a21 := Try.isAgg21
  z21 := Try.sizeOf21
  v21 := Try.zeroValue21
  t46 := Try.underlying36
  a46 := Try.isAgg36
  z46 := Try.sizeOf36
  v46 := Try.zeroValue36
  t116 := Try.underlying143
  a116 := Try.isAgg143
  z116 := Try.sizeOf143
  t117 := Try.underlying144
  a117 := Try.isAgg144
  z117 := Try.sizeOf144
  v117 := Try.zeroValue144
  t124 := Try.underlying153
  a124 := Try.isAgg153
  z124 := Try.sizeOf153
  v124 := Try.zeroValue153 }
open Go.RowKit Go.Lib in
theorem Try.strings_IndexAny_long (hv116 : ∀ w, (zeroValue 143).run Try.prog w = .ok (.agg (Array.replicate 256 (.bool false))) w) (s chars : ByteArray) (w : World) (h2 : 2 ≤ chars.size) (h8 : 8 < s.size) (hs : s.size < 4294967281) (hcs : chars.size < 4294967281) (hascii : ∀ (j : Nat) b, chars.data.toList[j]? = some b → b.toNat < 128) :
    Calls Try.prog 91 #[.string s, .string chars] w fun e w' => e = .returned (.int .i64 (Lib.indexAny s.data.toList chars.data.toList)) ∧ w' = ((w.alloc (.cells (Lib.setCells chars.data.toList) 143)).alloc (.cells (Lib.setCells chars.data.toList) 143)) := Any.strings_IndexAny_long Try.lays153 hv116 (by kernel_rfl) s chars w h2 h8 hs hcs hascii
def Try.lays150_ren : Go.Shelf.Ren := ⟨fun | 150 => 70 | 153 => 91 | 152 => 99 | 226 => 100 | 227 => 101 | 228 => 102 | 137 => 105 | 119 => 106 | 224 => 107 | 225 => 108 | 217 => 109 | 266 => 110 | n => n, fun | 9 => 9 | 4 => 4 | 3 => 3 | 5 => 5 | 21 => 21 | 117 => 144 | 116 => 143 | 0 => 0 | 46 => 36 | 124 => 153 | n => n, fun | n => n⟩
theorem Try.lays150 : Go.Proofs.Lays.n150 Try.prog Try.lays150_ren := {
  mixed := by kernel_rfl
  f119 := Try.func106.trans (congrArg some (by kernel_rfl))
  f137 := Try.func105.trans (congrArg some (by kernel_rfl))
  f150 := Try.func70.trans (congrArg some (by kernel_rfl))
  f152 := Try.func99.trans (congrArg some (by kernel_rfl))
  f153 := Try.func91.trans (congrArg some (by kernel_rfl))
  f217 := Try.func109.trans (congrArg some (by kernel_rfl))
  f224 := Try.func107.trans (congrArg some (by kernel_rfl))
  f225 := Try.func108.trans (congrArg some (by kernel_rfl))
  f226 := Try.func100.trans (congrArg some (by kernel_rfl))
  f227 := Try.func101.trans (congrArg some (by kernel_rfl))
  f228 := Try.func102.trans (congrArg some (by kernel_rfl))
  f266 := Try.func110.trans (congrArg some (by kernel_rfl))
  t0 := Try.underlying0
  a0 := Try.isAgg0
  z0 := Try.sizeOf0
  v0 := Try.zeroValue0
  t3 := Try.underlying3
  a3 := Try.isAgg3
  z3 := Try.sizeOf3
  v3 := Try.zeroValue3
  t4 := Try.underlying4
  a4 := Try.isAgg4
  z4 := Try.sizeOf4
  v4 := Try.zeroValue4
  t5 := Try.underlying5
  a5 := Try.isAgg5
  z5 := Try.sizeOf5
  v5 := Try.zeroValue5
  t9 := Try.underlying9
  a9 := Try.isAgg9
  z9 := Try.sizeOf9
  v9 := Try.zeroValue9
  t21 := Try.underlying21
  a21 := Try.isAgg21
  z21 := Try.sizeOf21
  v21 := Try.zeroValue21
  t46 := Try.underlying36
  a46 := Try.isAgg36
  z46 := Try.sizeOf36
  v46 := Try.zeroValue36
  t116 := Try.underlying143
  a116 := Try.isAgg143
  z116 := Try.sizeOf143
  t117 := Try.underlying144
  a117 := Try.isAgg144
  z117 := Try.sizeOf144
  v117 := Try.zeroValue144
  t124 := Try.underlying153
  a124 := Try.isAgg153
  z124 := Try.sizeOf153
  v124 := Try.zeroValue153 }
open Go.RowKit Go.Lib in
theorem Try.strings_ContainsAny (hv116 : ∀ w, (zeroValue 143).run Try.prog w = .ok (.agg (Array.replicate 256 (.bool false))) w) (s chars : ByteArray) (w : World) (hs : s.size < 4294967281) (hcs : chars.size < 4294967281) (has : ∀ (j : Nat) b, s.data.toList[j]? = some b → b.toNat < 128) (hac : ∀ (j : Nat) b, chars.data.toList[j]? = some b → b.toNat < 128) :
    Calls Try.prog 70 #[.string s, .string chars] w fun e w' => e = .returned (.bool (Lib.containsAny s.data.toList chars.data.toList)) ∧ Below w.heap.size w w' := Any.strings_ContainsAny Try.lays150 hv116 (by kernel_rfl) s chars w hs hcs has hac
def Try.lays115_ren : Go.Shelf.Ren := ⟨fun | 115 => 61 | n => n, fun | 37 => 66 | 4 => 4 | 9 => 9 | 5 => 5 | n => n, fun | n => n⟩
theorem Try.lays115 : Go.Proofs.Lays.n115 Try.prog Try.lays115_ren := {
  mixed := by kernel_rfl
  f115 := Try.func61.trans (congrArg some (by kernel_rfl))
  t4 := Try.underlying4
  a4 := Try.isAgg4
  z4 := Try.sizeOf4
  v4 := Try.zeroValue4
  t9 := Try.underlying9
  a9 := Try.isAgg9
  z9 := Try.sizeOf9
  v9 := Try.zeroValue9
  t37 := Try.underlying66
  a37 := Try.isAgg66
  z37 := Try.sizeOf66
  v37 := Try.zeroValue66 }
def Try.laysSlK4_ren : Go.Shelf.Ren := ⟨fun | 4 => 73 | n => n, fun | 22 => 66 | 4 => 4 | 5 => 5 | n => n, fun | n => n⟩
theorem Try.laysSlK4 : Go.Proofs.SlLaysK.n4 Try.prog Try.laysSlK4_ren := {
  mixed := by kernel_rfl
  f4 := Try.func73.trans (congrArg some (by kernel_rfl))
  t4 := Try.underlying4
  a4 := Try.isAgg4
  z4 := Try.sizeOf4
  v4 := Try.zeroValue4
  t22 := Try.underlying66
  a22 := Try.isAgg66
  z22 := Try.sizeOf66
  v22 := Try.zeroValue66
  t5 := Try.underlying5
  i5 := by kernel_rfl }
open Go.RowKit Go.Lib in
theorem Try.bytes_Clone_at (a : Addr) (n c : Nat) (xs : List Int) (w : World) (hx : xs.length = n) (hbig : n ≤ 140737488355328) (hc : ∀ i, i < n → w.cell? (a.add i) = some (.int .u8 (xs.getD i 0))) :
    Calls Try.prog 73 #[.slice (some a) n c] w fun e w' => ∃ v', e = .returned v' ∧ w'.ownsRow w.heap.size 5 1 v' n (xs.map (Value.int .u8)) ∧ v' ≠ .slice none 0 0 ∧ Below w.heap.size w w' := Any.bytes_Clone_at Try.laysSlK4 a n c xs w hx hbig hc
open Go.RowKit Go.Lib in
theorem Try.bytes_Clone_nil (n c : Nat) (w : World) :
    Calls Try.prog 73 #[.slice none n c] w fun e w' => e = .returned (.slice none 0 0) ∧ w' = w := Any.bytes_Clone_nil Try.laysSlK4 n c w
theorem Try.bytes_Equal (v1 v2 : Value) (xs ys : List Int) (w : World) (h1 : (convert 66 9 v1).run Try.prog w = .ok (.string (strOfNums xs)) w) (h2 : (convert 66 9 v2).run Try.prog w = .ok (.string (strOfNums ys)) w) :
    Calls Try.prog 61 #[v1, v2] w fun e w' => e = .returned (.bool (Lib.bytesOf xs == Lib.bytesOf ys)) ∧ w' = w := Any.bytes_Equal Try.lays115 v1 v2 xs ys w h1 h2
end Go.Proofs
end
section
namespace Go.Proofs.Yteglhbfhibfodaa.Pr
open Go.RowKit Go.Proofs.YteglhbfhibfodaaW.PrintWords Go.Proofs.YteglhbfhibfodaaW.PrintLast Go.Proofs.YteglhbfhibfodaaW.PrintMore
attribute [local go_sem] max2_int min2_int max_two min_two max_three min_three max_four min_four
attribute [local go_sem] Go.Proofs.Yteglhbfhibfodaa.Hl.str_geq Go.Proofs.Yteglhbfhibfodaa.Hl.str_gtr Go.Proofs.Yteglhbfhibfodaa.Hl.str_leq
set_option linter.unusedVariables false
set_option linter.unusedSimpArgs false
def errW:Option Int→Value
 | none=>.nilIface
 | some c=>.iface 0 (.int .i64 c)
theorem errW_none:errW none=.nilIface:=rfl
theorem errW_some (c:Int):errW (some c)=.iface 0 (.int .i64 c):=rfl
theorem info5:(Try.prog.info? 5).map (fun i=>(i.zero,i.size,i.bytes))=some (some (.int .u8 0),1,1):=by kernel_rfl
theorem info26:(Try.prog.info? 26).map (fun i=>(i.zero,i.size,i.bytes))=some (some (.slice none 0 0),1,24):=by kernel_rfl
theorem info30:(Try.prog.info? 30).map (fun i=>(i.zero,i.size,i.bytes))=some (some (.agg #[(.string ⟨#[]⟩),(.int .i64 0)]),2,24):=by kernel_rfl
theorem info66:(Try.prog.info? 66).map (fun i=>(i.zero,i.size,i.bytes))=some (some (.slice none 0 0),1,24):=by kernel_rfl
theorem info76:(Try.prog.info? 76).map (fun i=>(i.zero,i.size,i.bytes))=some (some (.agg #[(.int .u32 0),(.int .i64 0)]),2,16):=by kernel_rfl
structure S76 where
  f0 : Int
  f1 : Int
def z76:S76:=⟨(0:Int),(0:Int)⟩
def k76:Kd S76:=Kd.iso (Kd.pair (Kd.int .u32) (Kd.int .i64)) (fun x:S76=>(x.f0,x.f1))
theorem k76_open {w:World} {x:S76} {cs:List Value} (h:k76.K w x cs):cs=[.int .u32 x.f0,.int .i64 x.f1]:=by
 obtain ⟨_,_,rfl,rfl,rfl⟩:=h
 exact rfl
theorem k76_openM {w:World} {base:Nat} {ok:Nat→Prop} {x:S76} {cs:List Value} (h:k76.M w base ok x cs):cs=[.int .u32 x.f0,.int .i64 x.f1]:=by
 obtain ⟨_,_,rfl,rfl,rfl⟩:=h
 exact rfl
theorem k76_mk (w:World) (x:S76)  : k76.K w x [.int .u32 x.f0,.int .i64 x.f1]:=⟨[.int .u32 x.f0],[.int .i64 x.f1],rfl,rfl,rfl⟩
theorem k76_mkM (w:World) (base:Nat) (ok:Nat→Prop) (x:S76)  : k76.M w base ok x [.int .u32 x.f0,.int .i64 x.f1]:=⟨[.int .u32 x.f0],[.int .i64 x.f1],rfl,rfl,rfl⟩
def rd_T76 (xs:List S76) (i:Int):S76:=xs.getD i.toNat z76
theorem at_T76 {w:World} {A:Option Addr} {n:Nat} {xs:List S76} (h:Kd.C k76 w A n xs) (i:Int) (h0:0≤i) (h1:i < n):∃ ad , A=some ad∧w.cell? (ad.add (i.toNat*2))=some (.int .u32 (rd_T76 xs i).f0)∧w.cell? ⟨(ad.add (i.toNat*2)).block,(ad.add (i.toNat*2)).off+1,none⟩=some (.int .i64 (rd_T76 xs i).f1):=by
 obtain ⟨ad,c,e,_,hK,hc0⟩:=Kd.C_get h z76 i h0 h1
 have hc:∀ j u,c[j]? = some u→w.cell? (ad.add (i.toNat*2+j))=some u:=hc0
 obtain rfl:=k76_open hK
 exact ⟨ad,e,hc 0 _ rfl,by rw [← add_field _ _ 1 (by omega)];exact hc 1 _ rfl⟩
structure S30 where
  f0 : ByteArray
  f1 : Int
def z30:S30:=⟨(⟨#[]⟩:ByteArray),(0:Int)⟩
def k30:Kd S30:=Kd.iso (Kd.pair Kd.string (Kd.int .i64)) (fun x:S30=>(x.f0,x.f1))
theorem k30_open {w:World} {x:S30} {cs:List Value} (h:k30.K w x cs):cs=[.string x.f0,.int .i64 x.f1]:=by
 obtain ⟨_,_,rfl,rfl,rfl⟩:=h
 exact rfl
theorem k30_openM {w:World} {base:Nat} {ok:Nat→Prop} {x:S30} {cs:List Value} (h:k30.M w base ok x cs):cs=[.string x.f0,.int .i64 x.f1]:=by
 obtain ⟨_,_,rfl,rfl,rfl⟩:=h
 exact rfl
theorem k30_mk (w:World) (x:S30)  : k30.K w x [.string x.f0,.int .i64 x.f1]:=⟨[.string x.f0],[.int .i64 x.f1],rfl,rfl,rfl⟩
theorem k30_mkM (w:World) (base:Nat) (ok:Nat→Prop) (x:S30)  : k30.M w base ok x [.string x.f0,.int .i64 x.f1]:=⟨[.string x.f0],[.int .i64 x.f1],rfl,rfl,rfl⟩
def rd_T30 (xs:List S30) (i:Int):S30:=xs.getD i.toNat z30
theorem at_T30 {w:World} {A:Option Addr} {n:Nat} {xs:List S30} (h:Kd.C k30 w A n xs) (i:Int) (h0:0≤i) (h1:i < n):∃ ad , A=some ad∧w.cell? (ad.add (i.toNat*2))=some (.string (rd_T30 xs i).f0)∧w.cell? ⟨(ad.add (i.toNat*2)).block,(ad.add (i.toNat*2)).off+1,none⟩=some (.int .i64 (rd_T30 xs i).f1):=by
 obtain ⟨ad,c,e,_,hK,hc0⟩:=Kd.C_get h z30 i h0 h1
 have hc:∀ j u,c[j]? = some u→w.cell? (ad.add (i.toNat*2+j))=some u:=hc0
 obtain rfl:=k30_open hK
 exact ⟨ad,e,hc 0 _ rfl,by rw [← add_field _ _ 1 (by omega)];exact hc 1 _ rfl⟩
def rd_L6 (xs:List (List S30)) (i:Int):(List S30):=xs.getD i.toNat ([]:List S30)
theorem at_L6 {w:World} {A:Option Addr} {n:Nat} {xs:List (List S30)} (h:Kd.C (Kd.slice 30 k30) w A n xs) (i:Int) (h0:0≤i) (h1:i < n):∃ ad A0 c0,A=some ad∧w.cell? (ad.add i.toNat)=some (.slice A0 (rd_L6 xs i).length c0)∧(rd_L6 xs i).length≤c0∧k30.C w A0 (rd_L6 xs i).length (rd_L6 xs i):=by
 obtain ⟨ad,c,e,_,hK,hc0⟩:=Kd.C_get h ([]:List S30) i h0 h1
 have hc:∀ j u,c[j]? = some u→w.cell? (ad.add (i.toNat*1+j))=some u:=hc0
 obtain ⟨A0,c0,rfl,l0,g0⟩:=hK
 exact ⟨ad,A0,c0,e,by have hq:=hc 0 _ rfl;rwa [Nat.mul_one,Nat.add_zero] at hq,l0,g0⟩
def rd_L7 (xs:List (List Int)) (i:Int):(List Int):=xs.getD i.toNat ([]:List Int)
theorem at_L7 {w:World} {A:Option Addr} {n:Nat} {xs:List (List Int)} (h:Kd.C (Kd.slice 5 (Kd.int .u8)) w A n xs) (i:Int) (h0:0≤i) (h1:i < n):∃ ad A0 c0,A=some ad∧w.cell? (ad.add i.toNat)=some (.slice A0 (rd_L7 xs i).length c0)∧(rd_L7 xs i).length≤c0∧(Kd.int .u8).C w A0 (rd_L7 xs i).length (rd_L7 xs i):=by
 obtain ⟨ad,c,e,_,hK,hc0⟩:=Kd.C_get h ([]:List Int) i h0 h1
 have hc:∀ j u,c[j]? = some u→w.cell? (ad.add (i.toNat*1+j))=some u:=hc0
 obtain ⟨A0,c0,rfl,l0,g0⟩:=hK
 exact ⟨ad,A0,c0,e,by have hq:=hc 0 _ rfl;rwa [Nat.mul_one,Nat.add_zero] at hq,l0,g0⟩
structure S44 where
  f0 : Int
  f1 : ByteArray
  f2 : Int
def z44:S44:=⟨(0:Int),(⟨#[]⟩:ByteArray),(0:Int)⟩
def k44:Kd S44:=Kd.iso (Kd.pair (Kd.int .i64) (Kd.pair Kd.string (Kd.int .i64))) (fun x:S44=>(x.f0,x.f1,x.f2))
theorem k44_open {w:World} {x:S44} {cs:List Value} (h:k44.K w x cs):cs=[.int .i64 x.f0,.string x.f1,.int .i64 x.f2]:=by
 obtain ⟨_,_,rfl,rfl,⟨_,_,rfl,rfl,rfl⟩⟩:=h
 exact rfl
def rd_T44 (xs:List S44) (i:Int):S44:=xs.getD i.toNat z44
theorem at_T44 {w:World} {A:Option Addr} {n:Nat} {xs:List S44} (h:Kd.C k44 w A n xs) (i:Int) (h0:0≤i) (h1:i < n):∃ ad , A=some ad∧w.cell? (ad.add (i.toNat*3))=some (.int .i64 (rd_T44 xs i).f0)∧w.cell? ⟨(ad.add (i.toNat*3)).block,(ad.add (i.toNat*3)).off+1,none⟩=some (.string (rd_T44 xs i).f1)∧w.cell? ⟨(ad.add (i.toNat*3)).block,(ad.add (i.toNat*3)).off+2,none⟩=some (.int .i64 (rd_T44 xs i).f2):=by
 obtain ⟨ad,c,e,_,hK,hc0⟩:=Kd.C_get h z44 i h0 h1
 have hc:∀ j u,c[j]? = some u→w.cell? (ad.add (i.toNat*3+j))=some u:=hc0
 obtain rfl:=k44_open hK
 exact ⟨ad,e,hc 0 _ rfl,by rw [← add_field _ _ 1 (by omega)];exact hc 1 _ rfl,by rw [← add_field _ _ 2 (by omega)];exact hc 2 _ rfl⟩
def crc_Bytes.l0:Nat→Int→List Int→Int→Int→Option (List Int)
 | 0,_,_,_,_=>none
 | k+1,x0,x5,x12,x13=>if x13 < x12 then (if 0≤(wrap64 (8*x13)) then (if 0≤x13 then (if x13 < (x5.length:Int) then (crc_Bytes.l0 k x0 (x5.set (x13:Int).toNat ((shr .u64 x0 (wrap64 (8*x13))) % 256)) x12 (wrap64 (x13+1))) else (none)) else (none)) else (none)) else (some x5)
def crc_Bytes.f (k:Nat) (a0:Int) (a1:Int):Option (List Int):=if 0≤(mx 0 (mn a1 8)) then (if (mx 0 (mn a1 8):Int).toNat≤281474976710656 then ((some (List.replicate (mx 0 (mn a1 8):Int).toNat 0:List Int)).bind fun y102=>(crc_Bytes.l0 k a0 y102 (y102.length:Int) 0)) else (none)) else (none)
set_option maxHeartbeats 8000000 in
set_option maxRecDepth 100000 in
theorem crc_Bytes.calls (k:Nat) (a0:Int) (a1:Int) (r:List Int) (w:World) (h:crc_Bytes.f k a0 a1=some r) :
  Calls Try.prog 46 #[.int .u64 a0,.int .i64 a1] w fun e w'=>∃ v0_:Value,e=.returned (v0_)∧Kd.R (Kd.int .u8) 5 w' w.heap.size (fun _=>True) v0_ r∧Below w.heap.size w w':=by
 have HB:=am (Below.refl w.heap.size w)
 have H:(if 0≤(mx 0 (mn a1 8)) then (if (mx 0 (mn a1 8):Int).toNat≤281474976710656 then ((some (List.replicate (mx 0 (mn a1 8):Int).toNat 0:List Int)).bind fun y102=>(crc_Bytes.l0 k a0 y102 (y102.length:Int) 0)) else (none)) else (none))=some r:=h
 clear h
 obtain ⟨ji3,hji3⟩:∃ j_:Int,(mn a1 8)=j_:=⟨_,rfl⟩
 replace H:(if 0≤(mx 0 (ji3)) then (if (mx 0 (ji3):Int).toNat≤281474976710656 then ((some (List.replicate (mx 0 (ji3):Int).toNat 0:List Int)).bind fun y102=>(crc_Bytes.l0 k a0 y102 (y102.length:Int) 0)) else (none)) else (none))=some r:=by first|(rw [hji3] at H;exact H)|(simp only [hji3] at H ⊢;exact H)
 (try (have hji3h:ji3≤8:=by (rw [← hji3];unfold mn;(repeat' split)<;>omega)))
 (try (have hji3g:ji3≤64:=by omega))
 have hji3_:(if 8 < a1 then 8 else a1)=ji3:=hji3
 obtain ⟨ji4,hji4⟩:∃ j_:Int,(mx 0 (ji3))=j_:=⟨_,rfl⟩
 replace H:(if 0≤(ji4) then (if (ji4:Int).toNat≤281474976710656 then ((some (List.replicate (ji4:Int).toNat 0:List Int)).bind fun y102=>(crc_Bytes.l0 k a0 y102 (y102.length:Int) 0)) else (none)) else (none))=some r:=by first|(rw [hji4] at H;exact H)|(simp only [hji4] at H ⊢;exact H)
 have hji4_:(if 0 < (ji3) then (ji3) else 0)=ji4:=hji4
 by_cases c5:0≤(ji4)
 ·rw [if_pos c5] at H
  have c5b0:=eq_true c5
  have c5b1:decide (0≤(ji4))=true:=decide_eq_true c5
  clear c5
  by_cases c6:(ji4:Int).toNat≤281474976710656
  ·rw [if_pos c6] at H
   have c6b0:=eq_true c6
   have c6b1:decide ((ji4:Int).toNat≤281474976710656)=true:=decide_eq_true c6
   clear c6
   obtain ⟨y102,hy102⟩:∃ y_:List Int,y_=(List.replicate (ji4:Int).toNat 0):=⟨_,rfl⟩
   replace H:(crc_Bytes.l0 k a0 y102 (y102.length:Int) 0)=some r:=by first|(rw [hy102];with_reducible exact H)|(have H2_:=(Option.bind_some _ _).symm.trans H;rw [hy102];with_reducible exact H2_)|(have H2_:=(Option.bind_some _ _).symm.trans H;with_reducible exact H2_)|with_reducible exact H|(rw [hy102];exact H)|exact H
   have Ny102:=am hy102
   clear hy102
   have H':=am H
   clear H
   go_enter Try.func46,Try.ntmps46
   go_wp2_with (first|((with_reducible refine gate_dst (N:=10) rfl ?_);refine Kd.R_make (Kd.int .u8) _ 5 rfl (N:=10) rfl 66 _ _ rfl ji4 rfl rfl Try.underlying66 (.int .u8 0) 1 info5 rfl (by decide) (by omega) 0 (ok:=fun _=>True) (okp:=fun _=>True) rfl (fun _ hk=>hk) trivial (od) (Nat.le_trans (Nat.mul_le_mul_right _ (od:ji4.toNat≤281474976710656)) (by omega)) (Below.refl _ _) (Nat.le_refl _) ?_;intro v103 w7 ho8 hb hg_ hnew_;clear hg_ hnew_;(first|rw [← Ny102.out] at ho8|(simp only [Int.reduceToNat] at ho8;rw [← Ny102.out] at ho8));have n0_:=am (Kd.R_lower ho8 (bz HB));have n1_:=bst HB hb;clear HB;have HO104:=n0_;have HB:=n1_;clear n0_ n1_;clear hb ho8;obtain ⟨Ao9,co9,eo9⟩:=Kd.R_slice HO104.out;subst eo9))
   go_loopg [13] k (fun kq v13 w'=>∃ (x5_1:List Int) (x13_1:Int),v13=.int .i64 x13_1∧Aside0 (crc_Bytes.l0 kq a0 x5_1 (y102.length:Int) x13_1=some r)∧Aside0 (kq≤k)∧Aside0 (Kd.R (Kd.int .u8) 5 w' w.heap.size (fun _=>True) (.slice Ao9 y102.length co9) x5_1)∧Aside0 (Below w.heap.size w w'))
   case atStart=>exact ⟨(y102),(0),(by first|rfl|(simp;done)|(simp [*];done)),H',⟨Nat.le_refl _⟩,⟨by (with_reducible repeat (first|apply Kd.R_alloc|apply Kd.R_drewN|apply Kd.R_drew));exact HO104.out⟩,⟨bb HB⟩⟩
   case round =>
    clear H'
    try clear p2
    try clear c4
    try clear c5
    try clear c5b0
    try clear c5b1
    try clear c6
    try clear c6b0
    try clear c6b1
    obtain ⟨x5_1,x13_1,rfl,HA,HK1,HO_5,HB⟩:=hrel
    have hl5_1:=(Kd.R_reads' HO_5.out).1
    rw [hl5_1] at HO_5
    (try simp only [hl5_1])
    cases gk with
    | zero=>exact absurd HA.out (by intro h_;cases h_)
    | succ k1 =>
     have H:=HA.out
     clear HA
     simp only [crc_Bytes.l0] at H
     by_cases c10:x13_1 < (y102.length:Int)
     ·rw [if_pos c10] at H
      have c10b0:decide (x13_1 < (y102.length:Int))=true:=decide_eq_true c10
      have c10b0x5_1:decide (x13_1 < (x5_1.length:Int))=true:=by rw [← hl5_1];exact c10b0
      clear c10
      obtain ⟨ji11,hji11⟩:∃ j_:Int,(wrap64 (8*x13_1))=j_:=⟨_,rfl⟩
      replace H:(if 0≤(ji11) then (if 0≤x13_1 then (if x13_1 < (x5_1.length:Int) then (crc_Bytes.l0 k1 a0 (x5_1.set (x13_1:Int).toNat ((shr .u64 a0 (ji11)) % 256)) (y102.length:Int) (wrap64 (x13_1+1))) else (none)) else (none)) else (none))=some r:=by first|(rw [hji11] at H;exact H)|(simp only [hji11] at H ⊢;exact H)
      have hji11w:(IntKind.i64.wrap (8*x13_1))=ji11:=(i64_w _).trans hji11
      (try rw [hji11] at c5b0)
      (try rw [hji11] at c5b1)
      (try rw [hji11] at c6b0)
      (try rw [hji11] at c6b1)
      (try rw [hji11] at c10b0)
      by_cases c12:0≤(ji11)
      ·rw [if_pos c12] at H
       have c12b0:=eq_true c12
       have c12b1:decide (0≤(ji11))=true:=decide_eq_true c12
       clear c12
       obtain ⟨ji13,hji13⟩:∃ j_:Int,(shr .u64 a0 (ji11))=j_:=⟨_,rfl⟩
       replace H:(if 0≤x13_1 then (if x13_1 < (x5_1.length:Int) then (crc_Bytes.l0 k1 a0 (x5_1.set (x13_1:Int).toNat ((ji13) % 256)) (y102.length:Int) (wrap64 (x13_1+1))) else (none)) else (none))=some r:=by first|(rw [hji13] at H;exact H)|(simp only [hji13] at H ⊢;exact H)
       have hji13_:(a0 / 2 ^ min (ji11).toNat 64)=ji13:=hji13
       have hji13z:(ji11)≤64→(a0 / 2 ^ (ji11).toNat)=ji13:=shr_small hji13
       by_cases c14:0≤x13_1
       ·rw [if_pos c14] at H
        have c14b0:decide (0≤x13_1)=true:=decide_eq_true c14
        clear c14
        by_cases c15:x13_1 < (x5_1.length:Int)
        ·rw [if_pos c15] at H
         have c15b0:decide (x13_1 < (x5_1.length:Int))=true:=decide_eq_true c15
         clear c15
         obtain ⟨y105,hy105⟩:∃ y_:List Int,y_=(x5_1.set (x13_1:Int).toNat ((ji13) % 256)):=⟨_,rfl⟩
         replace H:(crc_Bytes.l0 k1 a0 y105 (y102.length:Int) (wrap64 (x13_1+1)))=some r:=by first|(rw [hy105];with_reducible exact H)|(have H2_:=(Option.bind_some _ _).symm.trans H;rw [hy105];with_reducible exact H2_)|(have H2_:=(Option.bind_some _ _).symm.trans H;with_reducible exact H2_)|with_reducible exact H|(rw [hy105];exact H)|exact H
         have Ny105:=am hy105
         clear hy105
         have H':=am H
         clear H
         have p16:0≤(x13_1:Int):=od
         have q16:(x13_1:Int) < ((x5_1.length:Int):Int):=od
         obtain ⟨go16,co16,eo16,gb16,gl16,cl16,HG16⟩:=Kd.R_form HO_5.out (by omega)
         (first|cases eo16|(injection eo16 with ea_ en_ ec_;(first|subst ea_|(injection ea_ with ea_;subst ea_));subst ec_;clear en_))
         have GB16:=am gb16
         have GG16:=am HG16
         clear gb16 gl16 HG16
         obtain ⟨hx16_0,hf16_0⟩:=Kd.R_celln 0 HO_5.out (x13_1:Int) p16 q16
         replace p16:=eq_true p16;replace q16:=eq_true q16
         have HP17:=Kd.R_putg HO_5.out (x13_1:Int) ((ji13) % 256)
         go_wp2_with (first|((with_reducible refine gate_store (t:=5) (p:=23) rfl ?_);refine store_event (t:=5) (p:=23) (v:=?vo_w18) (w1:=(wr.setCell ⟨go16,(x13_1:Int).toNat,none⟩ (.int .u8 ((ji13) % 256)))) ?hg ?ho ?hn ?hr ?_;(case ho=>rfl);(case hg=>rfl);(case hn=>rfl);(case hr=>first|(go_simp;done)|(go_simp;rfl));intro w18 hw;have hg:wr.grownBy w18 (some go16):=(by rw [hw];exact HP17.2);have hp_:Kd.R (Kd.int .u8) 5 w18 w.heap.size (fun _=>True) (.slice (some ⟨go16,0,none⟩) x5_1.length co9) y105:=(by rw [hw,Ny105.out];exact HP17.1);clear HP17;have n0_:=am (hp_);have n1_:=am ((by rw [hw];exact below_set (HB.out) GB16.out:Below w.heap.size w w18));clear HO_5;clear HB;have HO_5:=n0_;have HB:=n1_;clear n0_ n1_;clear hg hw hp_))
         (try simp only [← hl5_1])
         go_roundg k1
         case measure=>have:=HK1.out;omega
         case rel=>exact ⟨(y105),(wrap64 (x13_1+1)),(by first|rfl|(simp;done)|(simp [*];done)),H',⟨by have:=HK1.out;omega⟩,⟨by (try simp only [hl5_1]);(with_reducible repeat (first|apply Kd.R_alloc|apply Kd.R_drewN|apply Kd.R_drew));exact HO_5.out⟩,⟨bb HB⟩⟩
        ·rw [if_neg c15] at H
         exact absurd H (by simp)
       ·rw [if_neg c14] at H
        exact absurd H (by simp)
      ·rw [if_neg c12] at H
       exact absurd H (by simp)
     ·rw [if_neg c10] at H
      have c10b0:decide (x13_1 < (y102.length:Int))=false:=decide_eq_false c10
      have c10b0x5_1:decide (x13_1 < (x5_1.length:Int))=false:=by rw [← hl5_1];exact c10b0
      clear c10;obtain rfl:=Option.some.inj H;go_wp2;go_ret
      exact ⟨_,by first|rfl|(simp [errW_none,errW_some]<;>rfl)|(simp only [← hji3,← hji4];first|rfl|(simp [errW_none,errW_some]<;>rfl))|(simp [*,errW_none,errW_some]<;>rfl),by (with_reducible repeat (first|apply Kd.R_alloc|apply Kd.R_drewN|apply Kd.R_drew));exact HO_5.out,bb HB⟩
  ·rw [if_neg c6] at H
   exact absurd H (by simp)
 ·rw [if_neg c5] at H
  exact absurd H (by simp)
def crc_nibble.l0:Nat→Int→Int→Option (Int)
 | 0,_,_=>none
 | k+1,x0,x3=>if x3 < 4 then (crc_nibble.l0 k (Go.bits .xor .u32 (x0 / 2) (Go.bits .and .u32 2197175160 ((-(Go.bits .and .u32 x0 1)) % 4294967296))) (wrap64 (x3+1))) else (some x0)
def crc_nibble.f (k:Nat) (a0:Int):Option (Int):=crc_nibble.l0 k a0 0
set_option maxHeartbeats 8000000 in
set_option maxRecDepth 100000 in
theorem crc_nibble.calls (k:Nat) (a0:Int) (r:Int) (w:World) (h:crc_nibble.f k a0=some r) :
  Calls Try.prog 89 #[.int .u32 a0] w fun e w'=>e=.returned (.int .u32 r)∧Drawn0 w w':=by
 have H:(crc_nibble.l0 k a0 0)=some r:=h
 clear h
 have H':=am H
 clear H
 go_enter Try.func89,Try.ntmps89
 go_wp2
 go_loopg [0,3] k (fun kq v0 v3 w'=>∃ (x0_1:Int) (x3_1:Int),v0=.int .u32 x0_1∧v3=.int .i64 x3_1∧Aside0 (crc_nibble.l0 kq x0_1 x3_1=some r)∧Aside0 (kq≤k)∧Drawn0 w w')
 case atStart=>exact ⟨(a0),(0),(by first|rfl|(simp;done)|(simp [*];done)),(by first|rfl|(simp;done)|(simp [*];done)),H',⟨Nat.le_refl _⟩,by repeat (first|exact Drawn0.refl _|apply Drawn0.step)⟩
 case round =>
  clear H'
  obtain ⟨x0_1,x3_1,rfl,rfl,HA,HK1,⟨m1,rfl⟩⟩:=hrel
  cases gk with
  | zero=>exact absurd HA.out (by intro h_;cases h_)
  | succ k1 =>
   have H:=HA.out
   clear HA
   simp only [crc_nibble.l0] at H
   by_cases c2:x3_1 < 4
   ·rw [if_pos c2] at H
    have c2b0:decide (x3_1 < 4)=true:=decide_eq_true c2
    clear c2
    have H':=am H
    clear H;go_wp2
    go_roundg k1
    case measure=>have:=HK1.out;omega
    case rel=>exact ⟨(Go.bits .xor .u32 (x0_1 / 2) (Go.bits .and .u32 2197175160 ((-(Go.bits .and .u32 x0_1 1)) % 4294967296))),(wrap64 (x3_1+1)),(by first|rfl|(simp;done)|(simp [*];done)),(by first|rfl|(simp;done)|(simp [*];done)),H',⟨by have:=HK1.out;omega⟩,by repeat (first|exact Drawn0.refl _|apply Drawn0.step)⟩
   ·rw [if_neg c2] at H
    have c2b0:decide (x3_1 < 4)=false:=decide_eq_false c2
    clear c2;obtain rfl:=Option.some.inj H;go_wp2;go_ret
    exact ⟨by first|rfl|(simp;done)|(simp [*];done),by repeat (first|exact Drawn0.refl _|apply Drawn0.step)⟩
def crc_More.l0:Nat→Int→List Int→Int→Int→Option (Int)
 | 0,_,_,_,_=>none
 | k+1,x5,x16,x17,x18=>if x18 < x17 then (if 0≤x18 then (if x18 < (x16.length:Int) then ((crc_nibble.f k (Go.bits .and .u32 (Go.bits .xor .u32 x5 ((rd x16 x18) % 4294967296)) 15)).bind fun t107=>((crc_nibble.f k (Go.bits .and .u32 (Go.bits .xor .u32 ((Go.bits .xor .u32 x5 ((rd x16 x18) % 4294967296)) / 16) t107) 15)).bind fun t108=>(crc_More.l0 k (Go.bits .xor .u32 ((Go.bits .xor .u32 ((Go.bits .xor .u32 x5 ((rd x16 x18) % 4294967296)) / 16) t107) / 16) t108) x16 x17 (wrap64 (x18+1))))) else (none)) else (none)) else (some (Go.bits .xor .u32 (4294967295) x5))
def crc_More.f (k:Nat) (a0:Int) (l1:List Int):Option (Int):=if (l1.length:Int) < 512 then (crc_More.l0 k (Go.bits .xor .u32 (4294967295) a0) l1 (l1.length:Int) 0) else (none)
set_option maxHeartbeats 8000000 in
set_option maxRecDepth 100000 in
theorem crc_More.calls (k:Nat) (a0:Int) (A1:Option Addr) (c1:Nat) (l1:List Int) (r:Int) (w:World) (hr1:Kd.C (Kd.int .u8) w A1 l1.length l1) (hc1:l1.length≤c1) (h:crc_More.f k a0 l1=some r) :
  Calls Try.prog 69 #[.int .u32 a0,.slice A1 l1.length c1] w fun e w'=>e=.returned (.int .u32 r)∧Below w.heap.size w w':=by
 have HR1:=am hr1
 have HC1:=am hc1
 clear hr1 hc1
 have HB:=am (Below.refl w.heap.size w)
 have H:(if (l1.length:Int) < 512 then (crc_More.l0 k (Go.bits .xor .u32 (4294967295) a0) l1 (l1.length:Int) 0) else (none))=some r:=h
 clear h
 by_cases c3:(l1.length:Int) < 512
 ·rw [if_pos c3] at H
  have c3b0:decide ((l1.length:Int) < 512)=true:=decide_eq_true c3
  have c3b1:decide (l1.length < 512)=true:=decide_eq_true (by omega)
  clear c3
  have H':=am H
  clear H
  go_enter Try.func69,Try.ntmps69
  go_wp2
  go_loopg [5,18] k (fun kq v5 v18 w'=>∃ (x5_1:Int) (x18_1:Int),v5=.int .u32 x5_1∧v18=.int .i64 x18_1∧Aside0 (crc_More.l0 kq x5_1 l1 (l1.length:Int) x18_1=some r)∧Aside0 (kq≤k)∧Aside0 (Below w.heap.size w w'))
  case atStart=>exact ⟨(Go.bits .xor .u32 (4294967295) a0),(0),(by first|rfl|(simp;done)|(simp [*];done)),(by first|rfl|(simp;done)|(simp [*];done)),H',⟨Nat.le_refl _⟩,⟨bb HB⟩⟩
  case round =>
   clear H'
   try clear c1
   try clear p2
   try clear c3
   try clear c3b0
   try clear c3b1
   obtain ⟨x5_1,x18_1,rfl,rfl,HA,HK1,HB⟩:=hrel
   cases gk with
   | zero=>exact absurd HA.out (by intro h_;cases h_)
   | succ k1 =>
    have H:=HA.out
    clear HA
    simp only [crc_More.l0] at H
    by_cases c4:x18_1 < (l1.length:Int)
    ·rw [if_pos c4] at H
     have c4b0:decide (x18_1 < (l1.length:Int))=true:=decide_eq_true c4
     clear c4
     by_cases c5:0≤x18_1
     ·rw [if_pos c5] at H
      have c5b0:decide (0≤x18_1)=true:=decide_eq_true c5
      clear c5
      by_cases c6:x18_1 < (l1.length:Int)
      ·rw [if_pos c6] at H
       have c6b0:decide (x18_1 < (l1.length:Int))=true:=decide_eq_true c6
       clear c6
       replace H:=Option.bind_eq_some_iff.mp H
       obtain ⟨t107,A70,H⟩:=H
       replace H:((crc_nibble.f k1 (Go.bits .and .u32 (Go.bits .xor .u32 ((Go.bits .xor .u32 x5_1 ((rd l1 x18_1) % 4294967296)) / 16) t107) 15)).bind fun t108=>(crc_More.l0 k1 (Go.bits .xor .u32 ((Go.bits .xor .u32 ((Go.bits .xor .u32 x5_1 ((rd l1 x18_1) % 4294967296)) / 16) t107) / 16) t108) l1 (l1.length:Int) (wrap64 (x18_1+1))))=some r:=H
       have A7:=am A70
       clear A70
       replace H:=Option.bind_eq_some_iff.mp H
       obtain ⟨t108,A80,H⟩:=H
       replace H:(crc_More.l0 k1 (Go.bits .xor .u32 ((Go.bits .xor .u32 ((Go.bits .xor .u32 x5_1 ((rd l1 x18_1) % 4294967296)) / 16) t107) / 16) t108) l1 (l1.length:Int) (wrap64 (x18_1+1)))=some r:=H
       have A8:=am A80
       clear A80
       have H':=am H
       clear H
       have p106:0≤(x18_1:Int):=od
       have q106:x18_1 < (l1.length:Int):=od
       obtain ⟨ad106,e106,hx106_0⟩:=Kd.at_int HR1.out x18_1 p106 q106
       cases e106
       replace hx106_0:=hB HB hx106_0
       replace p106:=eq_true p106;replace q106:=eq_true q106
       go_wp2_with (first|((with_reducible refine gate_callee (f:=89) rfl ?_);refine goesL_ (some 30) rfl rfl Try.func89 (by kernel_rfl) rfl #[.int .u32 (Go.bits .and .u32 (Go.bits .xor .u32 x5_1 ((rd l1 x18_1) % 4294967296)) 15)] rfl (by (try simp only [List.map_toArray,List.map_cons,List.map_nil]);first|done|rfl|(simp only [List.length_drop,List.length_take];rfl)) ?_;(with_reducible refine (crc_nibble.calls k1 (Go.bits .and .u32 (Go.bits .xor .u32 x5_1 ((rd l1 x18_1) % 4294967296)) 15) t107 _ A7.out).mono ?_);rintro e w' ⟨rfl,⟨nd,rfl⟩⟩;refine ⟨_,rfl,?_⟩)|((with_reducible refine gate_callee (f:=89) rfl ?_);refine goesL_ (some 36) rfl rfl Try.func89 (by kernel_rfl) rfl #[.int .u32 (Go.bits .and .u32 (Go.bits .xor .u32 ((Go.bits .xor .u32 x5_1 ((rd l1 x18_1) % 4294967296)) / 16) t107) 15)] rfl (by (try simp only [List.map_toArray,List.map_cons,List.map_nil]);first|done|rfl|(simp only [List.length_drop,List.length_take];rfl)) ?_;(with_reducible refine (crc_nibble.calls k1 (Go.bits .and .u32 (Go.bits .xor .u32 ((Go.bits .xor .u32 x5_1 ((rd l1 x18_1) % 4294967296)) / 16) t107) 15) t108 _ A8.out).mono ?_);rintro e w' ⟨rfl,⟨nd,rfl⟩⟩;refine ⟨_,rfl,?_⟩))
       go_roundg k1
       case measure=>have:=HK1.out;omega
       case rel=>exact ⟨(Go.bits .xor .u32 ((Go.bits .xor .u32 ((Go.bits .xor .u32 x5_1 ((rd l1 x18_1) % 4294967296)) / 16) t107) / 16) t108),(wrap64 (x18_1+1)),(by first|rfl|(simp;done)|(simp [*];done)),(by first|rfl|(simp;done)|(simp [*];done)),H',⟨by have:=HK1.out;omega⟩,⟨bb HB⟩⟩
      ·rw [if_neg c6] at H
       exact absurd H (by simp)
     ·rw [if_neg c5] at H
      exact absurd H (by simp)
    ·rw [if_neg c4] at H
     have c4b0:decide (x18_1 < (l1.length:Int))=false:=decide_eq_false c4
     clear c4;obtain rfl:=Option.some.inj H;go_wp2;go_ret
     exact ⟨by first|rfl|(simp [errW_none,errW_some]<;>rfl)|(simp [*,errW_none,errW_some]<;>rfl),bb HB⟩
 ·rw [if_neg c3] at H
  exact absurd H (by simp)
def crc_Sum.f (k:Nat) (l0:List Int):Option (Int):=(crc_More.f k 0 l0).bind fun t109=>(some t109)
set_option maxHeartbeats 8000000 in
set_option maxRecDepth 100000 in
theorem crc_Sum.calls (k:Nat) (A0:Option Addr) (c0:Nat) (l0:List Int) (r:Int) (w:World) (hr0:Kd.C (Kd.int .u8) w A0 l0.length l0) (hc0:l0.length≤c0) (h:crc_Sum.f k l0=some r) :
  Calls Try.prog 47 #[.slice A0 l0.length c0] w fun e w'=>e=.returned (.int .u32 r)∧Below w.heap.size w w':=by
 have HR0:=am hr0
 have HC0:=am hc0
 clear hr0 hc0
 have HB:=am (Below.refl w.heap.size w)
 have H:((crc_More.f k 0 l0).bind fun t109=>(some t109))=some r:=h
 clear h
 replace H:=Option.bind_eq_some_iff.mp H
 obtain ⟨t109,A20,H⟩:=H
 replace H:(some t109)=some r:=H
 have A2:=am A20
 clear A20;obtain rfl:=Option.some.inj H
 go_enter Try.func47,Try.ntmps47
 go_wp2_with (first|((with_reducible refine gate_callee (f:=69) rfl ?_);refine goesL_ (some 4) rfl rfl Try.func69 (by kernel_rfl) rfl #[.int .u32 0,.slice A0 l0.length c0] rfl (by (try simp only [List.map_toArray,List.map_cons,List.map_nil]);first|done|rfl|(simp only [List.length_drop,List.length_take];rfl)) ?_;(with_reducible refine (crc_More.calls k 0 _ _ l0 t109 _ ?side1 ?side2 A2.out).mono ?_);(case side1=>exact cc HR0.out);(case side2=>exact HC0.out);rintro e w3 ⟨rfl,hb⟩;refine ⟨_,rfl,?_⟩;have n0_:=bst HB hb;clear HB;have HB:=n0_;clear n0_;(try clear hb);(try clear hb2);(try clear hk);(try clear hi)))
 go_ret
 exact ⟨by first|rfl|(simp [errW_none,errW_some]<;>rfl)|(simp [*,errW_none,errW_some]<;>rfl),bb HB⟩
def htree_index.l0:Nat→List Int→List (S76)→Int→Int→Option (List Int)
 | 0,_,_,_,_=>none
 | k+1,x3,x12,x13,x14=>if x14 < x13 then (if 0≤x14 then (if x14 < (x12.length:Int) then ((crc_Bytes.f k (IntKind.u64.wrap ((rd_T76 x12 x14).f0)) 4).bind fun t121=>(if x3.length+t121.length < 140737488355328 then ((some (x3++t121:List Int)).bind fun y124=>((crc_Bytes.f k (IntKind.u64.wrap ((rd_T76 x12 x14).f1)) 4).bind fun t127=>(if y124.length+t127.length < 140737488355328 then (htree_index.l0 k (y124++t127) x12 x13 (wrap64 (x14+1))) else (none)))) else (none))) else (none)) else (none)) else (if 0≤(wrap64 (252 - (x3.length:Int))) then (if x3.length+(wrap64 (252 - (x3.length:Int)):Int).toNat < 140737488355328 then ((some (x3++List.replicate (wrap64 (252 - (x3.length:Int)):Int).toNat 0:List Int)).bind fun y133=>((crc_Sum.f k y133).bind fun t136=>((crc_Bytes.f k (IntKind.u64.wrap (t136)) 4).bind fun t137=>(if y133.length+t137.length < 140737488355328 then (some (y133++t137)) else (none))))) else (none)) else (none))
def htree_index.f (k:Nat) (l0:List (S76)):Option (List Int):=(crc_Bytes.f k (IntKind.u64.wrap ((l0.length:Int))) 2).bind fun t110=>((crc_Bytes.f k 65535 2).bind fun t113=>(if t110.length+t113.length < 140737488355328 then (htree_index.l0 k (t110++t113) l0 (l0.length:Int) 0) else (none)))
set_option maxHeartbeats 8000000 in
set_option maxRecDepth 100000 in
theorem htree_index.calls (k:Nat) (A0:Option Addr) (c0:Nat) (l0:List (S76)) (r:List Int) (w:World) (hr0:Kd.C k76 w A0 l0.length l0) (hc0:l0.length≤c0) (h:htree_index.f k l0=some r) :
  Calls Try.prog 55 #[.slice A0 l0.length c0] w fun e w'=>∃ v0_:Value,e=.returned (v0_)∧Kd.R (Kd.int .u8) 5 w' w.heap.size (fun _=>True) v0_ r∧Below w.heap.size w w':=by
 have hu76:=Try.underlying76
 have HR0:=am hr0
 have HC0:=am hc0
 clear hr0 hc0
 have HB:=am (Below.refl w.heap.size w)
 have H:((crc_Bytes.f k (IntKind.u64.wrap ((l0.length:Int))) 2).bind fun t110=>((crc_Bytes.f k 65535 2).bind fun t113=>(if t110.length+t113.length < 140737488355328 then (htree_index.l0 k (t110++t113) l0 (l0.length:Int) 0) else (none))))=some r:=h
 clear h
 replace H:=Option.bind_eq_some_iff.mp H
 obtain ⟨t110,A20,H⟩:=H
 replace H:((crc_Bytes.f k 65535 2).bind fun t113=>(if t110.length+t113.length < 140737488355328 then (htree_index.l0 k (t110++t113) l0 (l0.length:Int) 0) else (none)))=some r:=H
 have A2:=am A20
 clear A20
 replace H:=Option.bind_eq_some_iff.mp H
 obtain ⟨t113,A30,H⟩:=H
 replace H:(if t110.length+t113.length < 140737488355328 then (htree_index.l0 k (t110++t113) l0 (l0.length:Int) 0) else (none))=some r:=H
 have A3:=am A30
 clear A30
 by_cases c4:t110.length+t113.length < 140737488355328
 ·rw [if_pos c4] at H
  have LMc4:=am c4
  clear c4
  obtain ⟨y116,hy116⟩:∃ y_:List Int,y_=(t110++t113):=⟨_,rfl⟩
  replace H:(htree_index.l0 k y116 l0 (l0.length:Int) 0)=some r:=by first|(rw [hy116];with_reducible exact H)|(have H2_:=(Option.bind_some _ _).symm.trans H;rw [hy116];with_reducible exact H2_)|(have H2_:=(Option.bind_some _ _).symm.trans H;with_reducible exact H2_)|with_reducible exact H|(rw [hy116];exact H)|exact H
  have Ny116:=am hy116
  clear hy116
  have H':=am H
  clear H
  go_enter Try.func55,Try.ntmps55
  go_wp2_with (first|((with_reducible refine gate_callee (f:=46) rfl ?_);refine goesL_ (some 9) rfl rfl Try.func46 (by kernel_rfl) rfl #[.int .u64 (IntKind.u64.wrap ((l0.length:Int))),.int .i64 2] rfl (by (try simp only [List.map_toArray,List.map_cons,List.map_nil]);first|done|rfl|(simp only [List.length_drop,List.length_take];rfl)) ?_;(with_reducible refine (crc_Bytes.calls k (IntKind.u64.wrap ((l0.length:Int))) 2 t110 _ A2.out).mono ?_);rintro e w5 ⟨v111,rfl,ho0,hb⟩;refine ⟨_,rfl,?_⟩;have n0_:=am (Kd.R_lower ho0 (bz HB));have n1_:=bst HB hb;clear HB;have HO112:=n0_;have HB:=n1_;clear n0_ n1_;(try clear hb);(try clear hb2);(try clear hk);(try clear hi);(try clear ho0))|((with_reducible refine gate_callee (f:=46) rfl ?_);refine goesL_ (some 10) rfl rfl Try.func46 (by kernel_rfl) rfl #[.int .u64 65535,.int .i64 2] rfl (by (try simp only [List.map_toArray,List.map_cons,List.map_nil]);first|done|rfl|(simp only [List.length_drop,List.length_take];rfl)) ?_;(with_reducible refine (crc_Bytes.calls k 65535 2 t113 _ A3.out).mono ?_);rintro e w6 ⟨v114,rfl,ho0,hb⟩;refine ⟨_,rfl,?_⟩;have n0_:=am (Kd.R_elder' (rR HO112) (Kd.R_base ho0) hb);have n1_:=am (Kd.R_lower (Kd.R_new' ho0 (Kd.R_lt (rR HO112))) (bz HB));have n2_:=bst HB hb;clear HO112;clear HB;have HO112:=n0_;have HO115:=n1_;have HB:=n2_;clear n0_ n1_ n2_;(try clear hb);(try clear hb2);(try clear hk);(try clear hi);(try clear ho0);obtain ⟨Ao8,co8,eo8⟩:=Kd.R_slice HO115.out;subst eo8)|((with_reducible refine gate_builtin (b:=.append) (xs:=#[.tmp 9,.tmp 10]) rfl ?_);at_builtin;refine Kd.R_append_rows (Kd.int .u8) (w0:=w) w.heap.size rfl (.tmp 9) (.tmp 10) 66 5 (.int .u8 0) 1 rfl Try.underlying66 info5 rfl (by decide) (by omega) v111 t110 t113 _ _ _ (fun k_=>some k_≠(.slice Ao8 t113.length co8:Value).ownBlock) (fun _=>False) rfl rfl ?aO ?aR (fun _ _ h=>h) (fun _ h=>h.elim) ?aF ?aB ?aS ?aL ?_;(case aR=>exact cc (Kd.R_reads' HO115.out).2.2);(case aB=>exact (bb HB));(case aF=>exact (fun k_ hk=>Kd.fresh' (Kd.R_lt (rR HO115)) k_ hk));(case aO=>exact (by (with_reducible repeat (first|apply Kd.R_alloc|apply Kd.R_drewN|apply Kd.R_drew));exact Kd.R_mono HO112.out (fun _ hk=>hk.2)));(case aS=>exact (bz HB));(case aL=>have:=LMc4.out;omega);intro v117 w7 ho hb hg hat;rw [← Ny116.out] at ho;have n0_:=am (Kd.R_after (ok:=(fun _=>True)) (rR HO115) hg hat);have n1_:=am (hb);have n2_:=am (ho);clear HO115;clear HB;clear HO112;have HO115:=n0_;have HB:=n1_;have HO118:=n2_;clear n0_ n1_ n2_;clear ho hb hg hat))
  go_loopg [3,14] k (fun kq v3 v14 w'=>∃ (x3_1:List Int) (x14_1:Int),v14=.int .i64 x14_1∧Aside0 (htree_index.l0 kq x3_1 l0 (l0.length:Int) x14_1=some r)∧Aside0 (kq≤k)∧Aside0 (Kd.R (Kd.int .u8) 5 w' w.heap.size (fun _=>True) v3 x3_1)∧Aside0 (Below w.heap.size w w'))
  case atStart=>exact ⟨(y116),(0),(by first|rfl|(simp;done)|(simp [*];done)),H',⟨Nat.le_refl _⟩,⟨by (with_reducible repeat (first|apply Kd.R_alloc|apply Kd.R_drewN|apply Kd.R_drew));exact Kd.R_mono HO118.out (fun _ hk=>trivial)⟩,⟨bb HB⟩⟩
  case round =>
   clear H'
   try clear p2
   try clear c4
   try clear c5
   obtain ⟨x3_1,x14_1,rfl,HA,HK1,HO_3,HB⟩:=hrel
   cases gk with
   | zero=>exact absurd HA.out (by intro h_;cases h_)
   | succ k1 =>
    have H:=HA.out
    clear HA
    simp only [htree_index.l0] at H
    by_cases c9:x14_1 < (l0.length:Int)
    ·rw [if_pos c9] at H
     have c9b0:decide (x14_1 < (l0.length:Int))=true:=decide_eq_true c9
     clear c9
     by_cases c10:0≤x14_1
     ·rw [if_pos c10] at H
      have c10b0:decide (0≤x14_1)=true:=decide_eq_true c10
      clear c10
      by_cases c11:x14_1 < (l0.length:Int)
      ·rw [if_pos c11] at H
       have c11b0:decide (x14_1 < (l0.length:Int))=true:=decide_eq_true c11
       clear c11
       replace H:=Option.bind_eq_some_iff.mp H
       obtain ⟨t121,A120,H⟩:=H
       replace H:(if x3_1.length+t121.length < 140737488355328 then ((some (x3_1++t121:List Int)).bind fun y124=>((crc_Bytes.f k1 (IntKind.u64.wrap ((rd_T76 l0 x14_1).f1)) 4).bind fun t127=>(if y124.length+t127.length < 140737488355328 then (htree_index.l0 k1 (y124++t127) l0 (l0.length:Int) (wrap64 (x14_1+1))) else (none)))) else (none))=some r:=H
       have A12:=am A120
       clear A120
       by_cases c13:x3_1.length+t121.length < 140737488355328
       ·rw [if_pos c13] at H
        have LMc13:=am c13
        clear c13
        obtain ⟨y124,hy124⟩:∃ y_:List Int,y_=(x3_1++t121):=⟨_,rfl⟩
        replace H:((crc_Bytes.f k1 (IntKind.u64.wrap ((rd_T76 l0 x14_1).f1)) 4).bind fun t127=>(if y124.length+t127.length < 140737488355328 then (htree_index.l0 k1 (y124++t127) l0 (l0.length:Int) (wrap64 (x14_1+1))) else (none)))=some r:=by first|(rw [hy124];with_reducible exact H)|(have H2_:=(Option.bind_some _ _).symm.trans H;rw [hy124];with_reducible exact H2_)|(have H2_:=(Option.bind_some _ _).symm.trans H;with_reducible exact H2_)|with_reducible exact H|(rw [hy124];exact H)|exact H
        have Ny124:=am hy124
        clear hy124
        replace H:=Option.bind_eq_some_iff.mp H
        obtain ⟨t127,A140,H⟩:=H
        replace H:(if y124.length+t127.length < 140737488355328 then (htree_index.l0 k1 (y124++t127) l0 (l0.length:Int) (wrap64 (x14_1+1))) else (none))=some r:=H
        have A14:=am A140
        clear A140
        by_cases c15:y124.length+t127.length < 140737488355328
        ·rw [if_pos c15] at H
         have LMc15:=am c15
         clear c15
         obtain ⟨y130,hy130⟩:∃ y_:List Int,y_=(y124++t127):=⟨_,rfl⟩
         replace H:(htree_index.l0 k1 y130 l0 (l0.length:Int) (wrap64 (x14_1+1)))=some r:=by first|(rw [hy130];with_reducible exact H)|(have H2_:=(Option.bind_some _ _).symm.trans H;rw [hy130];with_reducible exact H2_)|(have H2_:=(Option.bind_some _ _).symm.trans H;with_reducible exact H2_)|with_reducible exact H|(rw [hy130];exact H)|exact H
         have Ny130:=am hy130
         clear hy130
         have H':=am H
         clear H
         have p119:0≤(x14_1:Int):=od
         have q119:x14_1 < (l0.length:Int):=od
         obtain ⟨ad119,e119,hx119_0,hx119_1⟩:=at_T76 HR0.out x14_1 p119 q119
         cases e119
         replace hx119_0:=hB HB hx119_0
         replace hx119_1:=hB HB hx119_1
         replace p119:=eq_true p119;replace q119:=eq_true q119
         go_wp2_with (first|((with_reducible refine gate_dst (N:=5) rfl ?_);refine box_event ?hg (N:=5) ?hd (cs:=#[.int .u32 0,.int .i64 0]) (t:=76) ?hr ?_;(case hd=>rfl);(case hg=>rfl);(case hr=>first|(go_simp;done)|(go_simp;rfl));intro gb120 hg w16 hbox hb;have n0_:=am (Kd.R_below (rR HO_3) hb);have n1_:=bst HB hb;have n2_:=am (hbox);have n3_:=am ((gz hg HB));have n4_:=am ((gz hg HB));clear HO_3;clear HB;have HO_3:=n0_;have HB:=n1_;have BK120:=n2_;have GW120:=n3_;have GE120:=n4_;clear n0_ n1_ n2_ n3_ n4_;clear hb hbox hg;have hcz17_0:w16.cell? ⟨gb120,0,none⟩=some (.int .u32 0):=kC BK120 0;have hcz17_1:w16.cell? ⟨gb120,1,none⟩=some (.int .i64 0):=kC BK120 1;have hfz17_0:=blk_frozen BK120.out 0;have hfz17_1:=blk_frozen BK120.out 1)|((with_reducible refine gate_callee (f:=46) rfl ?_);refine goesL_ (some 22) rfl rfl Try.func46 (by kernel_rfl) rfl #[.int .u64 (IntKind.u64.wrap ((rd_T76 l0 x14_1).f0)),.int .i64 4] rfl (by (try simp only [List.map_toArray,List.map_cons,List.map_nil]);first|done|rfl|(simp only [List.length_drop,List.length_take];rfl)) ?_;(with_reducible refine (crc_Bytes.calls k1 (IntKind.u64.wrap ((rd_T76 l0 x14_1).f0)) 4 t121 _ A12.out).mono ?_);rintro e w18 ⟨v122,rfl,ho0,hb⟩;refine ⟨_,rfl,?_⟩;have n0_:=am (Kd.R_elder' (by (with_reducible repeat (first|apply Kd.R_alloc|apply Kd.R_drewN|apply Kd.R_drew));exact (Kd.R_mono (Kd.R_far (p:=⟨gb120,1,none⟩) (Kd.R_far (p:=⟨gb120,0,none⟩) (Kd.R_types HO_3.out BK120.out (by decide)) (fun _ hk=>hk.2) (.int .u32 ((rd_T76 l0 x14_1).f0))) (fun _ hk=>hk.2) (.int .i64 ((rd_T76 l0 x14_1).f1))) (fun _ h_=>h_.1))) (Kd.R_base ho0) hb);have n1_:=am (Kd.R_lower (Kd.R_new' ho0 (Kd.R_lt (by (with_reducible repeat (first|apply Kd.R_alloc|apply Kd.R_drewN|apply Kd.R_drew));exact (Kd.R_mono (Kd.R_far (p:=⟨gb120,1,none⟩) (Kd.R_far (p:=⟨gb120,0,none⟩) (Kd.R_types HO_3.out BK120.out (by decide)) (fun _ hk=>hk.2) (.int .u32 ((rd_T76 l0 x14_1).f0))) (fun _ hk=>hk.2) (.int .i64 ((rd_T76 l0 x14_1).f1))) (fun _ h_=>h_.1))))) (below_size (bxs HB GE120)));have n2_:=am (blk_below (g:=gb120) (o:=.cells #[.int .u32 ((rd_T76 l0 x14_1).f0),.int .i64 ((rd_T76 l0 x14_1).f1)] 76 (0,0)) (by (with_reducible repeat (first|refine blk_drewN ?_ _|refine blk_drew ?_|refine blk_alloc ?_ _));refine blk_put (cs:=#[.int .u32 ((rd_T76 l0 x14_1).f0),.int .i64 0]) ?_ 1 _ rfl;(with_reducible repeat (first|refine blk_drewN ?_ _|refine blk_drew ?_|refine blk_alloc ?_ _));refine blk_put (cs:=#[.int .u32 0,.int .i64 0]) ?_ 0 _ rfl;(with_reducible repeat (first|refine blk_drewN ?_ _|refine blk_drew ?_|refine blk_alloc ?_ _));exact BK120.out) hb);have n3_:=am (below_step (bxs HB GE120) hb);clear HO_3;clear BK120;clear HB;have HO_3:=n0_;have HO123:=n1_;have BK120:=n2_;have HB:=n3_;clear n0_ n1_ n2_ n3_;(try clear hb);(try clear hb2);(try clear hk);(try clear hi);(try clear ho0);obtain ⟨Ao20,co20,eo20⟩:=Kd.R_slice HO123.out;subst eo20)|((with_reducible refine gate_builtin (b:=.append) (xs:=#[.tmp 18,.tmp 22]) rfl ?_);at_builtin;refine Kd.R_append_rows (Kd.int .u8) (w0:=w) w.heap.size rfl (.tmp 18) (.tmp 22) 66 5 (.int .u8 0) 1 rfl Try.underlying66 info5 rfl (by decide) (by omega) u3 x3_1 t121 _ _ _ (fun k_=>some k_≠(.slice Ao20 t121.length co20:Value).ownBlock) (fun _=>False) rfl rfl ?aO ?aR (fun _ _ h=>h) (fun _ h=>h.elim) ?aF ?aB ?aS ?aL ?_;(case aR=>exact cc (Kd.R_reads' HO123.out).2.2);(case aB=>exact (bxs HB GE120));(case aF=>exact (fun k_ hk=>Kd.fresh' (Kd.R_lt (rR HO123)) k_ hk));(case aO=>exact (by (with_reducible repeat (first|apply Kd.R_alloc|apply Kd.R_drewN|apply Kd.R_drew));exact Kd.R_mono HO_3.out (fun _ hk=>hk.2)));(case aS=>exact (below_size (bxs HB GE120)));(case aL=>have:=LMc13.out;omega);intro v125 w19 ho hb hg hat;rw [← Ny124.out] at ho;have n0_:=am (blk_grown (g:=gb120) (o:=.cells #[.int .u32 ((rd_T76 l0 x14_1).f0),.int .i64 ((rd_T76 l0 x14_1).f1)] 76 (0,0)) (rK BK120) hg (Kd.R_ne HO_3.out BK120.out (by decide)));have n1_:=am (Kd.R_after (ok:=(fun _=>True)) (rR HO123) hg hat);have n2_:=am (hb);have n3_:=am (ho);clear BK120;clear HO123;clear HB;clear HO_3;have BK120:=n0_;have HO123:=n1_;have HB:=n2_;have HO126:=n3_;clear n0_ n1_ n2_ n3_;clear ho hb hg hat;have hcz21_0:w19.cell? ⟨gb120,0,none⟩=some (.int .u32 ((rd_T76 l0 x14_1).f0)):=kC BK120 0;have hcz21_1:w19.cell? ⟨gb120,1,none⟩=some (.int .i64 ((rd_T76 l0 x14_1).f1)):=kC BK120 1;have hfz21_0:=blk_frozen BK120.out 0;have hfz21_1:=blk_frozen BK120.out 1)|((with_reducible refine gate_callee (f:=46) rfl ?_);refine goesL_ (some 28) rfl rfl Try.func46 (by kernel_rfl) rfl #[.int .u64 (IntKind.u64.wrap ((rd_T76 l0 x14_1).f1)),.int .i64 4] rfl (by (try simp only [List.map_toArray,List.map_cons,List.map_nil]);first|done|rfl|(simp only [List.length_drop,List.length_take];rfl)) ?_;(with_reducible refine (crc_Bytes.calls k1 (IntKind.u64.wrap ((rd_T76 l0 x14_1).f1)) 4 t127 _ A14.out).mono ?_);rintro e w22 ⟨v128,rfl,ho0,hb⟩;refine ⟨_,rfl,?_⟩;have n0_:=am (Kd.R_elder' (rR HO123) (Kd.R_base ho0) hb);have n1_:=am (Kd.R_elder' (rR HO126) (Kd.R_base ho0) hb);have n2_:=am (Kd.R_lower (Kd.R_new' (Kd.R_new' ho0 (Kd.R_lt (rR HO123))) (Kd.R_lt (rR HO126))) (below_size (bxs HB GE120)));have n3_:=am (blk_below (g:=gb120) (o:=.cells #[.int .u32 ((rd_T76 l0 x14_1).f0),.int .i64 ((rd_T76 l0 x14_1).f1)] 76 (0,0)) (rK BK120) hb);have n4_:=am (below_step (bxs HB GE120) hb);clear HO123;clear HO126;clear BK120;clear HB;have HO123:=n0_;have HO126:=n1_;have HO129:=n2_;have BK120:=n3_;have HB:=n4_;clear n0_ n1_ n2_ n3_ n4_;(try clear hb);(try clear hb2);(try clear hk);(try clear hi);(try clear ho0);obtain ⟨Ao24,co24,eo24⟩:=Kd.R_slice HO129.out;subst eo24)|((with_reducible refine gate_builtin (b:=.append) (xs:=#[.tmp 24,.tmp 28]) rfl ?_);at_builtin;refine Kd.R_append_rows (Kd.int .u8) (w0:=w) w.heap.size rfl (.tmp 24) (.tmp 28) 66 5 (.int .u8 0) 1 rfl Try.underlying66 info5 rfl (by decide) (by omega) v125 y124 t127 _ _ _ (fun k_=>some k_≠(.slice Ao20 t121.length co20:Value).ownBlock∧some k_≠(.slice Ao24 t127.length co24:Value).ownBlock) (fun _=>False) rfl rfl ?aO ?aR (fun _ _ h=>h) (fun _ h=>h.elim) ?aF ?aB ?aS ?aL ?_;(case aR=>exact cc (Kd.R_reads' HO129.out).2.2);(case aB=>exact (bxs HB GE120));(case aF=>exact (fun k_ hk=>⟨Kd.fresh' (Kd.R_lt (rR HO123)) k_ hk,Kd.fresh' (Kd.R_lt (rR HO129)) k_ hk⟩));(case aO=>exact (rR HO126));(case aS=>exact (below_size (bxs HB GE120)));(case aL=>have:=LMc15.out;omega);intro v131 w23 ho hb hg hat;rw [← Ny130.out] at ho;have n0_:=am (blk_grown (g:=gb120) (o:=.cells #[.int .u32 ((rd_T76 l0 x14_1).f0),.int .i64 ((rd_T76 l0 x14_1).f1)] 76 (0,0)) (rK BK120) hg (Kd.R_ne HO126.out BK120.out (by decide)));have n1_:=am (Kd.R_after (ok:=(fun k_=>some k_≠(.slice Ao24 t127.length co24:Value).ownBlock)) (by (with_reducible repeat (first|apply Kd.R_alloc|apply Kd.R_drewN|apply Kd.R_drew));exact Kd.R_mono HO123.out (fun _ hk=>⟨hk.2,hk.1.2⟩)) hg hat);have n2_:=am (Kd.R_after (ok:=(fun k_=>some k_≠(.slice Ao20 t121.length co20:Value).ownBlock)) (by (with_reducible repeat (first|apply Kd.R_alloc|apply Kd.R_drewN|apply Kd.R_drew));exact Kd.R_mono HO129.out (fun _ hk=>⟨hk.1.2,hk.2⟩)) hg hat);have n3_:=am (hb);have n4_:=am (ho);clear BK120;clear HO123;clear HO129;clear HB;clear HO126;have BK120:=n0_;have HO123:=n1_;have HO129:=n2_;have HB:=n3_;have HO132:=n4_;clear n0_ n1_ n2_ n3_ n4_;clear ho hb hg hat))
         go_roundg k1
         case measure=>have:=HK1.out;omega
         case rel=>exact ⟨(y130),(wrap64 (x14_1+1)),(by first|rfl|(simp;done)|(simp [*];done)),H',⟨by have:=HK1.out;omega⟩,⟨by (with_reducible repeat (first|apply Kd.R_alloc|apply Kd.R_drewN|apply Kd.R_drew));exact Kd.R_mono HO132.out (fun _ hk=>trivial)⟩,⟨bxs HB GE120⟩⟩
        ·rw [if_neg c15] at H
         exact absurd H (by simp)
       ·rw [if_neg c13] at H
        exact absurd H (by simp)
      ·rw [if_neg c11] at H
       exact absurd H (by simp)
     ·rw [if_neg c10] at H
      exact absurd H (by simp)
    ·rw [if_neg c9] at H
     have c9b0:decide (x14_1 < (l0.length:Int))=false:=decide_eq_false c9
     clear c9
     obtain ⟨ji25,hji25⟩:∃ j_:Int,(wrap64 (252 - (x3_1.length:Int)))=j_:=⟨_,rfl⟩
     replace H:(if 0≤(ji25) then (if x3_1.length+(ji25:Int).toNat < 140737488355328 then ((some (x3_1++List.replicate (ji25:Int).toNat 0:List Int)).bind fun y133=>((crc_Sum.f k1 y133).bind fun t136=>((crc_Bytes.f k1 (IntKind.u64.wrap (t136)) 4).bind fun t137=>(if y133.length+t137.length < 140737488355328 then (some (y133++t137)) else (none))))) else (none)) else (none))=some r:=by first|(rw [hji25] at H;exact H)|(simp only [hji25] at H ⊢;exact H)
     have hji25w:(IntKind.i64.wrap (252 - (x3_1.length:Int)))=ji25:=(i64_w _).trans hji25
     (try rw [hji25] at c9b0)
     by_cases c26:0≤(ji25)
     ·rw [if_pos c26] at H
      have c26b0:=eq_true c26
      have c26b1:decide (0≤(ji25))=true:=decide_eq_true c26
      clear c26
      by_cases c27:x3_1.length+(ji25:Int).toNat < 140737488355328
      ·rw [if_pos c27] at H
       have LMc27:=am c27
       clear c27
       obtain ⟨y133,hy133⟩:∃ y_:List Int,y_=(x3_1++List.replicate (ji25:Int).toNat 0):=⟨_,rfl⟩
       replace H:((crc_Sum.f k1 y133).bind fun t136=>((crc_Bytes.f k1 (IntKind.u64.wrap (t136)) 4).bind fun t137=>(if y133.length+t137.length < 140737488355328 then (some (y133++t137)) else (none))))=some r:=by first|(rw [hy133];with_reducible exact H)|(have H2_:=(Option.bind_some _ _).symm.trans H;rw [hy133];with_reducible exact H2_)|(have H2_:=(Option.bind_some _ _).symm.trans H;with_reducible exact H2_)|with_reducible exact H|(rw [hy133];exact H)|exact H
       have Ny133:=am hy133
       clear hy133
       replace H:=Option.bind_eq_some_iff.mp H
       obtain ⟨t136,A280,H⟩:=H
       replace H:((crc_Bytes.f k1 (IntKind.u64.wrap (t136)) 4).bind fun t137=>(if y133.length+t137.length < 140737488355328 then (some (y133++t137)) else (none)))=some r:=H
       have A28:=am A280
       clear A280
       replace H:=Option.bind_eq_some_iff.mp H
       obtain ⟨t137,A290,H⟩:=H
       replace H:(if y133.length+t137.length < 140737488355328 then (some (y133++t137)) else (none))=some r:=H
       have A29:=am A290
       clear A290
       by_cases c30:y133.length+t137.length < 140737488355328
       ·rw [if_pos c30] at H
        have LMc30:=am c30
        clear c30
        obtain ⟨y140,hy140⟩:∃ y_:List Int,y_=(y133++t137):=⟨_,rfl⟩
        replace H:(some y140)=some r:=by first|(rw [hy140];with_reducible exact H)|(have H2_:=(Option.bind_some _ _).symm.trans H;rw [hy140];with_reducible exact H2_)|(have H2_:=(Option.bind_some _ _).symm.trans H;with_reducible exact H2_)|with_reducible exact H|(rw [hy140];exact H)|exact H
        have Ny140:=am hy140
        clear hy140;obtain rfl:=Option.some.inj H
        obtain ⟨Ao31,co31,eo31⟩:=Kd.R_slice HO_3.out
        subst eo31
        go_wp2_with (first|(at_builtin;refine Kd.R_append_zeros (Kd.int .u8) (w0:=w) w.heap.size rfl (.tmp 31) (.tmp 34) 66 3 5 (.int .u8 0) 1 rfl Try.underlying66 Try.underlying3 info5 rfl (by decide) (by omega) (.slice Ao31 x3_1.length co31) x3_1 0 (ji25:Int) (fun _=>True) rfl rfl rfl ?aF ?aO (od) ?aB ?aS ?aL ?_;(case aB=>exact (bb HB));(case aF=>exact (fun _ _=>trivial));(case aO=>exact (rR HO_3));(case aS=>exact (bz HB));(case aL=>have:=LMc27.out;omega);intro v134 w32 ho hb hg hat;rw [← Ny133.out] at ho;have n0_:=am (hb);have n1_:=am (ho);clear HB;clear HO_3;have HB:=n0_;have HO135:=n1_;clear n0_ n1_;clear ho hb hg hat;obtain ⟨Ao33,co33,eo33⟩:=Kd.R_slice HO135.out;subst eo33)|((with_reducible refine gate_callee (f:=47) rfl ?_);refine goesL_ (some 38) rfl rfl Try.func47 (by kernel_rfl) rfl #[.slice Ao33 y133.length co33] rfl (by (try simp only [List.map_toArray,List.map_cons,List.map_nil]);first|done|rfl|(simp only [List.length_drop,List.length_take];rfl)) ?_;(with_reducible refine (crc_Sum.calls k1 _ _ y133 t136 _ ?side1 ?side2 A28.out).mono ?_);(case side1=>exact cc (Kd.R_reads' HO135.out).2.2);(case side2=>exact (Kd.R_reads' HO135.out).2.1);rintro e w34 ⟨rfl,hb⟩;refine ⟨_,rfl,?_⟩;have n0_:=am (Kd.R_below (rR HO135) hb);have n1_:=bst HB hb;clear HO135;clear HB;have HO135:=n0_;have HB:=n1_;clear n0_ n1_;(try clear hb);(try clear hb2);(try clear hk);(try clear hi))|((with_reducible refine gate_callee (f:=46) rfl ?_);refine goesL_ (some 40) rfl rfl Try.func46 (by kernel_rfl) rfl #[.int .u64 (IntKind.u64.wrap (t136)),.int .i64 4] rfl (by (try simp only [List.map_toArray,List.map_cons,List.map_nil]);first|done|rfl|(simp only [List.length_drop,List.length_take];rfl)) ?_;(with_reducible refine (crc_Bytes.calls k1 (IntKind.u64.wrap (t136)) 4 t137 _ A29.out).mono ?_);rintro e w35 ⟨v138,rfl,ho0,hb⟩;refine ⟨_,rfl,?_⟩;have n0_:=am (Kd.R_elder' (rR HO135) (Kd.R_base ho0) hb);have n1_:=am (Kd.R_lower (Kd.R_new' ho0 (Kd.R_lt (rR HO135))) (bz HB));have n2_:=bst HB hb;clear HO135;clear HB;have HO135:=n0_;have HO139:=n1_;have HB:=n2_;clear n0_ n1_ n2_;(try clear hb);(try clear hb2);(try clear hk);(try clear hi);(try clear ho0);obtain ⟨Ao37,co37,eo37⟩:=Kd.R_slice HO139.out;subst eo37)|((with_reducible refine gate_builtin (b:=.append) (xs:=#[.tmp 36,.tmp 40]) rfl ?_);at_builtin;refine Kd.R_append_rows (Kd.int .u8) (w0:=w) w.heap.size rfl (.tmp 36) (.tmp 40) 66 5 (.int .u8 0) 1 rfl Try.underlying66 info5 rfl (by decide) (by omega) (.slice Ao33 y133.length co33) y133 t137 _ _ _ (fun k_=>some k_≠(.slice Ao37 t137.length co37:Value).ownBlock) (fun _=>False) rfl rfl ?aO ?aR (fun _ _ h=>h) (fun _ h=>h.elim) ?aF ?aB ?aS ?aL ?_;(case aR=>exact cc (Kd.R_reads' HO139.out).2.2);(case aB=>exact (bb HB));(case aF=>exact (fun k_ hk=>Kd.fresh' (Kd.R_lt (rR HO139)) k_ hk));(case aO=>exact (by (with_reducible repeat (first|apply Kd.R_alloc|apply Kd.R_drewN|apply Kd.R_drew));exact Kd.R_mono HO135.out (fun _ hk=>hk.2)));(case aS=>exact (bz HB));(case aL=>have:=LMc30.out;omega);intro v141 w36 ho hb hg hat;rw [← Ny140.out] at ho;have n0_:=am (Kd.R_after (ok:=(fun _=>True)) (rR HO139) hg hat);have n1_:=am (hb);have n2_:=am (ho);clear HO139;clear HB;clear HO135;have HO139:=n0_;have HB:=n1_;have HO142:=n2_;clear n0_ n1_ n2_;clear ho hb hg hat))
        go_ret
        exact ⟨_,by first|rfl|(simp [errW_none,errW_some]<;>rfl)|(simp only [← hji25];first|rfl|(simp [errW_none,errW_some]<;>rfl))|(simp [*,errW_none,errW_some]<;>rfl),by (with_reducible repeat (first|apply Kd.R_alloc|apply Kd.R_drewN|apply Kd.R_drew));exact Kd.R_mono HO142.out (fun _ hk=>trivial),bb HB⟩
       ·rw [if_neg c30] at H
        exact absurd H (by simp)
      ·rw [if_neg c27] at H
       exact absurd H (by simp)
     ·rw [if_neg c26] at H
      exact absurd H (by simp)
 ·rw [if_neg c4] at H
  exact absurd H (by simp)
def crc_Number.l0:Nat→List Int→Int→Int→Option (Int×Bool)
 | 0,_,_,_=>none
 | k+1,x0,x4,x5=>if x5≥0 then (if 0≤x5 then (if x5 < (x0.length:Int) then (crc_Number.l0 k x0 (Go.bits .or .u64 (IntKind.u64.wrap (x4*256)) (IntKind.u64.wrap (rd x0 x5))) (wrap64 (x5 - 1))) else (none)) else (none)) else (some (x4,true))
def crc_Number.f (k:Nat) (l0:List Int):Option (Int×Bool):=if (l0.length:Int) > 8 then (some (0,false)) else (crc_Number.l0 k l0 0 (wrap64 ((l0.length:Int) - 1)))
set_option maxHeartbeats 8000000 in
set_option maxRecDepth 100000 in
theorem crc_Number.calls (k:Nat) (A0:Option Addr) (c0:Nat) (l0:List Int) (r1:Int) (r2:Bool) (w:World) (hr0:Kd.C (Kd.int .u8) w A0 l0.length l0) (hc0:l0.length≤c0) (h:crc_Number.f k l0=some (r1,r2)) :
  Calls Try.prog 60 #[.slice A0 l0.length c0] w fun e w'=>e=.returned (.tuple #[.int .u64 r1,.bool r2])∧Drawn0 w w':=by
 have HR0:=am hr0
 have HC0:=am hc0
 clear hr0 hc0
 have H:(if (l0.length:Int) > 8 then (some (0,false)) else (crc_Number.l0 k l0 0 (wrap64 ((l0.length:Int) - 1))))=some (r1,r2):=h
 clear h
 by_cases c2:(l0.length:Int) > 8
 ·rw [if_pos c2] at H
  have c2b0:decide (8 < (l0.length:Int))=true:=decide_eq_true c2
  have c2b1:decide (8 < l0.length)=true:=decide_eq_true (by omega)
  clear c2
  simp only [Option.some.injEq,Prod.mk.injEq] at H
  obtain ⟨rfl,rfl⟩:=H
  go_enter Try.func60,Try.ntmps60
  go_wp2
  go_ret2
  exact ⟨by first|rfl|(simp;done)|(simp [*];done),by repeat (first|exact Drawn0.refl _|apply Drawn0.step)⟩
 ·rw [if_neg c2] at H
  have c2b0:decide (8 < (l0.length:Int))=false:=decide_eq_false c2
  have c2b1:decide (8 < l0.length)=false:=decide_eq_false (by omega)
  clear c2
  have H':=am H
  clear H
  go_enter Try.func60,Try.ntmps60
  go_wp2
  go_loopg [4,5] k (fun kq v4 v5 w'=>∃ (x4_1:Int) (x5_1:Int),v4=.int .u64 x4_1∧v5=.int .i64 x5_1∧Aside0 (crc_Number.l0 kq l0 x4_1 x5_1=some (r1,r2))∧Aside0 (kq≤k)∧Drawn0 w w')
  case atStart=>exact ⟨(0),(wrap64 ((l0.length:Int) - 1)),(by first|rfl|(simp;done)|(simp [*];done)),(by first|rfl|(simp;done)|(simp [*];done)),H',⟨Nat.le_refl _⟩,by repeat (first|exact Drawn0.refl _|apply Drawn0.step)⟩
  case round =>
   clear H'
   try clear c2
   try clear c2b0
   try clear c2b1
   try clear p2
   obtain ⟨x4_1,x5_1,rfl,rfl,HA,HK1,⟨m1,rfl⟩⟩:=hrel
   cases gk with
   | zero=>exact absurd HA.out (by intro h_;cases h_)
   | succ k1 =>
    have H:=HA.out
    clear HA
    simp only [crc_Number.l0] at H
    by_cases c3:x5_1≥0
    ·rw [if_pos c3] at H
     have c3b0:decide (0≤x5_1)=true:=decide_eq_true c3
     clear c3
     by_cases c4:0≤x5_1
     ·rw [if_pos c4] at H
      have c4b0:decide (0≤x5_1)=true:=decide_eq_true c4
      clear c4
      by_cases c5:x5_1 < (l0.length:Int)
      ·rw [if_pos c5] at H
       have c5b0:decide (x5_1 < (l0.length:Int))=true:=decide_eq_true c5
       clear c5
       have H':=am H
       clear H
       have p101:0≤(x5_1:Int):=od
       have q101:x5_1 < (l0.length:Int):=od
       obtain ⟨ad101,e101,hx101_0⟩:=Kd.at_int HR0.out x5_1 p101 q101
       cases e101
       replace p101:=eq_true p101;replace q101:=eq_true q101;go_wp2
       go_roundg k1
       case measure=>have:=HK1.out;omega
       case rel=>exact ⟨(Go.bits .or .u64 (IntKind.u64.wrap (x4_1*256)) (IntKind.u64.wrap (rd l0 x5_1))),(wrap64 (x5_1 - 1)),(by first|rfl|(simp;done)|(simp [*];done)),(by first|rfl|(simp;done)|(simp [*];done)),H',⟨by have:=HK1.out;omega⟩,by repeat (first|exact Drawn0.refl _|apply Drawn0.step)⟩
      ·rw [if_neg c5] at H
       exact absurd H (by simp)
     ·rw [if_neg c4] at H
      exact absurd H (by simp)
    ·rw [if_neg c3] at H
     have c3b0:decide (0≤x5_1)=false:=decide_eq_false c3
     clear c3
     simp only [Option.some.injEq,Prod.mk.injEq] at H
     obtain ⟨rfl,rfl⟩:=H
     go_wp2
     go_ret2
     exact ⟨by first|rfl|(simp;done)|(simp [*];done),by repeat (first|exact Drawn0.refl _|apply Drawn0.step)⟩
def bytes_Equal.f (l0:List Int) (l1:List Int):Option (Bool):=some ((strOfNums l0).toList==(strOfNums l1).toList)
set_option maxHeartbeats 8000000 in
set_option maxRecDepth 100000 in
theorem bytes_Equal.calls (A0:Option Addr) (c0:Nat) (l0:List Int) (A1:Option Addr) (c1:Nat) (l1:List Int) (r:Bool) (w:World) (hr0:Kd.C (Kd.int .u8) w A0 l0.length l0) (hc0:l0.length≤c0) (hr1:Kd.C (Kd.int .u8) w A1 l1.length l1) (hc1:l1.length≤c1) (h:bytes_Equal.f l0 l1=some r) :
  Calls Try.prog 61 #[.slice A0 l0.length c0,.slice A1 l1.length c1] w fun e w'=>e=.returned (.bool r)∧Drawn0 w w':=by
 have HR0:=am hr0
 have HC0:=am hc0
 clear hr0 hc0
 have HR1:=am hr1
 have HC1:=am hc1
 clear hr1 hc1
 have H:(some ((strOfNums l0).toList==(strOfNums l1).toList))=some r:=h
 clear h;obtain rfl:=Option.some.inj H
 have hcv3:=Kd.C_string (P:=Try.prog) (A:=A0) (c:=c0) Try.underlying66 Try.underlying5 Try.underlying9 HR0.out
 have hcv4:=Kd.C_string (P:=Try.prog) (A:=A1) (c:=c1) Try.underlying66 Try.underlying5 Try.underlying9 HR1.out
 go_enter Try.func61,Try.ntmps61
 go_wp2;go_ret
 exact ⟨by first|rfl|(simp;done)|(simp [*];done),by repeat (first|exact Drawn0.refl _|apply Drawn0.step)⟩
end Go.Proofs.Yteglhbfhibfodaa.Pr
end
section
namespace Go.Proofs.Yteglhbfhibfodaa.Cr
open Go.RowKit Go.Proofs.YteglhbfhibfodaaW.PrintWords Go.Proofs.YteglhbfhibfodaaW.PrintMore Go.Proofs.Yteglhbfhibfodaa.Pr Go.Proofs.Yteglhbfhibfodaa.Od
set_option linter.unusedVariables false
set_option linter.unusedSimpArgs false
theorem Ev.succ {α : Type} {g : Nat → Option α} {r : α} (h : Ev (fun k => g (k + 1)) r) : Ev g r := Ev.step (fun _ => rfl) h
theorem bs {α β : Type} (a : α) (f : α → Option β) : (some a).bind f = f a := by
  cases h : f a with
  | none => exact (Option.bind_some a f).trans h
  | some v => exact (Option.bind_some a f).trans h
theorem w64 {n : Int} (h0 : -9223372036854775808 ≤ n) (h1 : n ≤ 9223372036854775807) : wrap64 n = n := by unfold wrap64; omega
theorem u32w (n : Int) : IntKind.u32.wrap n = n % 4294967296 := by simp [IntKind.wrap, IntKind.signed, IntKind.bits]
theorem u64w (n : Int) : IntKind.u64.wrap n = n % 18446744073709551616 := by simp [IntKind.wrap, IntKind.signed, IntKind.bits]
theorem xor32 (a b : Int) : Go.bits .xor .u32 a b = ((BitVec.ofInt 32 a ^^^ BitVec.ofInt 32 b).toNat : Int) := by
  unfold Go.bits
  rw [u32w]
  have := (BitVec.ofInt 32 a ^^^ BitVec.ofInt 32 b).isLt
  show (((BitVec.ofInt 32 a ^^^ BitVec.ofInt 32 b).toNat : Nat) : Int) % 4294967296 = _
  omega
theorem and32 (a b : Int) : Go.bits .and .u32 a b = ((BitVec.ofInt 32 a &&& BitVec.ofInt 32 b).toNat : Int) := by
  unfold Go.bits
  rw [u32w]
  have := (BitVec.ofInt 32 a &&& BitVec.ofInt 32 b).isLt
  show (((BitVec.ofInt 32 a &&& BitVec.ofInt 32 b).toNat : Nat) : Int) % 4294967296 = _
  omega
theorem of_to (w : B32) : BitVec.ofInt 32 (w.toNat : Int) = w := by simp
theorem of_mod (c : Int) : BitVec.ofInt 32 (c % 4294967296) = BitVec.ofInt 32 c := by
  apply BitVec.eq_of_toNat_eq
  rw [BitVec.toNat_ofInt, BitVec.toNat_ofInt]
  omega
theorem half (w : B32) : ((w.toNat : Int) / (2 : Int)) = ((w >>> 1).toNat : Int) := by
  rw [BitVec.toNat_ushiftRight, Nat.shiftRight_eq_div_pow]; omega
theorem lsb_odd (w : B32) : w.getLsbD 0 = decide (w.toNat % 2 = 1) := by
  rw [BitVec.getLsbD, Nat.testBit_zero]
theorem and_one (w : B32) : (w &&& BitVec.ofInt 32 1).toNat = if w.getLsbD 0 then 1 else 0 := by
  rw [BitVec.toNat_and, lsb_odd]
  show w.toNat &&& 1 = _
  rw [Nat.and_one_is_mod]
  by_cases h : w.toNat % 2 = 1
  · simp [h]
  · simp [h]; omega
theorem round_prog (w : B32) : Go.bits .xor .u32 ((w.toNat : Int) / 2) (Go.bits .and .u32 2197175160 ((-(Go.bits .and .u32 (w.toNat : Int) 1)) % 4294967296)) = ((T w).toNat : Int) := by
  rw [half, xor32, of_to, and32, and32, of_to, of_to, and_one]
  unfold T
  by_cases h : w.getLsbD 0
  · rw [if_pos h, if_pos h]; rfl
  · rw [if_neg h, if_neg h]; rfl
theorem nibble_ev (w : B32) : Ev (fun k => crc_nibble.f k (w.toNat : Int)) ((Tn 4 w).toNat : Int) := by
  unfold crc_nibble.f
  have key : ∀ (n i : Nat) (v : B32), i + n = 4 → Ev (fun k => crc_nibble.l0 k (v.toNat : Int) (i : Int)) ((Tn n v).toNat : Int) := by
    intro n
    induction n with
    | zero =>
      intro i v hi
      refine Ev.succ ?_
      simp only [crc_nibble.l0, if_neg (show ¬((i : Int) < 4) by omega)]
      exact Ev.now _
    | succ n ih =>
      intro i v hi
      refine Ev.succ ?_
      simp only [crc_nibble.l0, if_pos (show (i : Int) < 4 by omega), round_prog, w64 (show -9223372036854775808 ≤ (i : Int) + 1 by omega) (by omega)]
      exact ih (i + 1) (T v) (by omega)
  exact key 4 0 w rfl
theorem low_half (w : B32) : (w &&& BitVec.ofInt 32 15) = BitVec.ofNat 32 (w.toNat % 16) := by
  apply BitVec.eq_of_toNat_eq
  rw [BitVec.toNat_and, BitVec.toNat_ofNat]
  show w.toNat &&& 15 = _
  rw [show (15 : Nat) = 2 ^ 4 - 1 from rfl, Nat.and_two_pow_sub_one_eq_mod]
  omega
theorem Tn4_high (v : B32) : Tn 4 (v <<< 4) = (v <<< 4) >>> 4 := by
  have h : ∀ k, k ≤ 4 → Tn k (v <<< 4) = (v <<< 4) >>> k := by
    intro k
    induction k with
    | zero => intro _; simp [Tn]
    | succ k ih =>
      intro hk
      rw [Tn_add k 1, ih (by omega)]
      show T _ = _
      rw [T_shift, ← BitVec.shiftRight_add]
      rw [BitVec.getLsbD_ushiftRight, BitVec.getLsbD_shiftLeft]
      simp; omega
  exact h 4 (Nat.le_refl _)
theorem nib_split (w : B32) : w = BitVec.ofNat 32 (w.toNat % 16) ^^^ ((w >>> 4) <<< 4) := by
  apply BitVec.eq_of_getLsbD_eq
  intro i hi
  rw [BitVec.getLsbD_xor, BitVec.getLsbD_shiftLeft, BitVec.getLsbD_ushiftRight]
  simp only [BitVec.getLsbD_ofNat, hi, decide_true, Bool.true_and]
  rw [show (16 : Nat) = 2 ^ 4 from rfl, Nat.testBit_mod_two_pow]
  by_cases h : i < 4
  · simp [h, BitVec.getLsbD]
  · have e : 4 + (i - 4) = i := by omega
    simp [h, e]
theorem nib (w : B32) : Tn 4 w = (w >>> 4) ^^^ Tn 4 (w &&& BitVec.ofInt 32 15) := by
  rw [low_half]
  conv => lhs; rw [nib_split w]
  rw [Tn_xor, Tn4_high, BitVec.xor_comm]
  congr 1
  apply BitVec.eq_of_getLsbD_eq
  intro i hi
  simp only [BitVec.getLsbD_ushiftRight, BitVec.getLsbD_shiftLeft]
  by_cases h : 4 + i < 32
  · simp [h]
  · have e : w.getLsbD (4 + i) = false := BitVec.getLsbD_of_ge _ _ (by omega)
    simp [h, e]
theorem sixteenth (w : B32) : ((w.toNat : Int) / (16 : Int)) = ((w >>> 4).toNat : Int) := by
  rw [BitVec.toNat_ushiftRight, Nat.shiftRight_eq_div_pow]; omega
theorem more_ev (bs : List Int) (h : bs.length < 512) (u : B32) : Ev (fun k => crc_More.f k (u.toNat : Int) bs) ((~~~ regB (~~~ u) bs).toNat : Int) := by
  unfold crc_More.f
  simp only [if_pos (show (bs.length : Int) < 512 by omega)]
  have key : ∀ (n i : Nat) (v : B32), i + n = bs.length → Ev (fun k => crc_More.l0 k (v.toNat : Int) bs (bs.length : Int) (i : Int)) ((~~~ regB v (bs.drop i)).toNat : Int) := by
    intro n
    induction n with
    | zero =>
      intro i v hi
      refine Ev.succ ?_
      simp only [crc_More.l0, if_neg (show ¬((i : Int) < (bs.length : Int)) by omega)]
      rw [List.drop_of_length_le (by omega), regB_nil, xor32, of_to]
      rw [show BitVec.ofInt 32 4294967295 = BitVec.allOnes 32 by decide, BitVec.allOnes_xor]
      exact Ev.now _
    | succ n ih =>
      intro i v hi
      refine Ev.succ ?_
      simp only [crc_More.l0]
      have hil : i < bs.length := by omega
      have e1 : Go.bits .xor .u32 (v.toNat : Int) (rd bs (i : Int) % 4294967296) = ((v ^^^ BitVec.ofInt 32 (rd bs i)).toNat : Int) := by rw [xor32, of_to, of_mod]
      have e2 : ∀ x : B32, Go.bits .and .u32 (x.toNat : Int) 15 = ((x &&& BitVec.ofInt 32 15).toNat : Int) := fun x => by rw [and32, of_to]
      have e3 : ∀ x y : B32, Go.bits .xor .u32 (x.toNat : Int) (y.toNat : Int) = ((x ^^^ y).toNat : Int) := fun x y => by rw [xor32, of_to, of_to]
      simp only [if_pos (show (i : Int) < (bs.length : Int) by omega), if_pos (show (0 : Int) ≤ (i : Int) by omega), e1, e2, sixteenth]
      refine Ev.bind (nibble_ev _) ?_
      simp only [e3, e2, ← nib]
      refine Ev.bind (nibble_ev _) ?_
      simp only [e3, sixteenth, ← nib]
      rw [w64 (by omega) (by omega), ← Tn_add 4 4, show (i : Int) + 1 = ((i + 1 : Nat) : Int) by omega]
      have := ih (i + 1) (Tn 8 (v ^^^ BitVec.ofInt 32 (rd bs i))) (by omega)
      rw [List.drop_eq_getElem_cons hil, regB_cons]
      have er : rd bs (i : Int) = bs[i] := by unfold rd; rw [List.getD_eq_getElem?_getD, Int.toNat_natCast, List.getElem?_eq_getElem hil]; rfl
      rw [er] at this ⊢
      exact this
  have := key bs.length 0 (~~~ u) (by omega)
  rw [List.drop_zero] at this
  have e : Go.bits .xor .u32 4294967295 (u.toNat : Int) = ((~~~ u).toNat : Int) := by
    rw [xor32, of_to, show BitVec.ofInt 32 4294967295 = BitVec.allOnes 32 by decide, BitVec.allOnes_xor]
  rw [e]
  exact this
theorem crc_sum_ev (bs : List Int) (h : bs.length < 512) : Ev (fun k => crc_Sum.f k bs) ((sumB bs).toNat : Int) := by
  unfold crc_Sum.f
  have := more_ev bs h 0#32
  refine Ev.bind this (Ev.now _)
theorem bytesN_len : ∀ n v, (bytesN n v).length = n
  | 0, _ => rfl
  | n + 1, v => by rw [bytesN, List.length_cons, bytesN_len n]
theorem bytesN_snoc : ∀ n v, bytesN (n + 1) v = bytesN n v ++ [((v / 256 ^ n % 256 : Nat) : Int)]
  | 0, v => by simp [bytesN]
  | n + 1, v => by
    rw [bytesN, bytesN_snoc n, bytesN, List.cons_append, Nat.div_div_eq_div_mul, Nat.pow_succ, Nat.mul_comm]
theorem bytesN_byte : ∀ n v, ∀ x ∈ bytesN n v, isByte x
  | 0, _, x, h => by simp [bytesN] at h
  | n + 1, v, x, h => by
    rw [bytesN] at h
    rcases List.mem_cons.1 h with rfl | h
    · constructor <;> omega
    · exact bytesN_byte n _ x h
theorem shr_byte (v i : Nat) (hi : i < 8) : shr .u64 (v : Int) (wrap64 (8 * (i : Int))) % 256 = ((v / 256 ^ i % 256 : Nat) : Int) := by
  rw [w64 (by omega) (by omega)]
  unfold shr
  have e : min (8 * (i : Int)).toNat IntKind.u64.bits = 8 * i := by
    show min _ 64 = _
    omega
  rw [e, show (256 : Nat) = 2 ^ 8 from rfl, ← Nat.pow_mul]
  rw [show ((2 : Int) ^ (8 * i)) = ((2 ^ (8 * i) : Nat) : Int) by push_cast; rfl]
  omega
theorem crc_bytes_ev (v n : Nat) (hn : n ≤ 8) : Ev (fun k => crc_Bytes.f k (v : Int) (n : Int)) (bytesN n v) := by
  have hm : mx 0 (mn (n : Int) 8) = n := by unfold mx mn; split <;> split <;> omega
  unfold crc_Bytes.f
  simp only [hm, if_pos (show (0 : Int) ≤ (n : Int) by omega), Option.bind_some, Int.toNat_natCast, List.length_replicate, if_pos (show n ≤ 281474976710656 by omega)]
  have key : ∀ (m i : Nat), i + m = n → Ev (fun k => crc_Bytes.l0 k (v : Int) (bytesN i v ++ List.replicate m 0) (n : Int) (i : Int)) (bytesN n v) := by
    intro m
    induction m with
    | zero =>
      intro i hi
      refine Ev.succ ?_
      simp only [crc_Bytes.l0, if_neg (show ¬((i : Int) < (n : Int)) by omega)]
      obtain rfl : i = n := by omega
      rw [List.replicate_zero, List.append_nil]
      exact Ev.now _
    | succ m ih =>
      intro i hi
      refine Ev.succ ?_
      have hl : (bytesN i v ++ List.replicate (m + 1) (0 : Int)).length = n := by rw [List.length_append, bytesN_len, List.length_replicate]; omega
      have h0 : 0 ≤ wrap64 (8 * (i : Int)) := by rw [w64 (by omega) (by omega)]; omega
      simp only [crc_Bytes.l0, if_pos (show (i : Int) < (n : Int) by omega), if_pos h0, if_pos (show (0 : Int) ≤ (i : Int) by omega), hl, shr_byte v i (by omega), Int.toNat_natCast, w64 (show -9223372036854775808 ≤ (i : Int) + 1 by omega) (by omega)]
      have hs : (bytesN i v ++ List.replicate (m + 1) (0 : Int)).set i ((v / 256 ^ i % 256 : Nat) : Int) = bytesN (i + 1) v ++ List.replicate m 0 := by
        rw [bytesN_snoc, List.set_append, if_neg (by rw [bytesN_len]; omega), bytesN_len, Nat.sub_self, List.replicate_succ, List.set_cons_zero, List.append_assoc]; rfl
      rw [hs]
      exact ih (i + 1) (by omega)
  exact key n 0 (by omega)
def numN : List Int → Nat
  | [] => 0
  | b :: bs => b.toNat + 256 * numN bs
theorem numN_lt : ∀ bs : List Int, (∀ x ∈ bs, isByte x) → numN bs < 256 ^ bs.length
  | [], _ => by simp [numN]
  | b :: bs, h => by
    have h1 := h b List.mem_cons_self
    have h2 := numN_lt bs (fun x hx => h x (List.mem_cons_of_mem _ hx))
    rw [numN, List.length_cons, Nat.pow_succ]
    unfold isByte at h1
    omega
theorem numN_bytesN : ∀ n v, v < 256 ^ n → numN (bytesN n v) = v
  | 0, v, h => by simp at h; subst h; rfl
  | n + 1, v, h => by
    rw [Nat.pow_succ] at h
    rw [bytesN, numN, numN_bytesN n _ (by omega), Int.toNat_natCast]
    omega
theorem or64 (a b : Nat) (ha : a < 18446744073709551616) (hb : b < 18446744073709551616) : Go.bits .or .u64 (a : Int) (b : Int) = ((a ||| b : Nat) : Int) := by
  unfold Go.bits
  rw [u64w]
  have h := (BitVec.ofInt 64 (a : Int) ||| BitVec.ofInt 64 (b : Int)).isLt
  show (((BitVec.ofInt 64 (a : Int) ||| BitVec.ofInt 64 (b : Int)).toNat : Nat) : Int) % 18446744073709551616 = _
  have e : (BitVec.ofInt 64 (a : Int) ||| BitVec.ofInt 64 (b : Int)).toNat = a ||| b := by
    rw [BitVec.toNat_or]
    simp
    rw [Nat.mod_eq_of_lt ha, Nat.mod_eq_of_lt hb]
  rw [e] at h ⊢
  omega
theorem or_add (x b i : Nat) (hb : b < 2 ^ i) : x * 2 ^ i ||| b = x * 2 ^ i + b := by
  have := Nat.shiftLeft_add_eq_or_of_lt hb x
  rw [Nat.shiftLeft_eq] at this
  exact this.symm
theorem rd_get {bs : List Int} {i : Nat} (h : i < bs.length) : rd bs (i : Int) = bs[i] := by
  unfold rd; rw [List.getD_eq_getElem?_getD, Int.toNat_natCast, List.getElem?_eq_getElem h]; rfl
theorem crc_number_ev (bs : List Int) (hl : bs.length ≤ 8) (hb : ∀ x ∈ bs, isByte x) : Ev (fun k => crc_Number.f k bs) ((numN bs : Int), true) := by
  unfold crc_Number.f
  simp only [if_neg (show ¬ ((bs.length : Int) > 8) by omega)]
  have key : ∀ (i : Nat), i ≤ bs.length → Ev (fun k => crc_Number.l0 k bs ((numN (bs.drop i) : Nat) : Int) (wrap64 ((i : Int) - 1))) ((numN bs : Int), true) := by
    intro i
    induction i with
    | zero =>
      intro hi
      refine Ev.succ ?_
      simp only [crc_Number.l0]
      rw [show wrap64 (((0 : Nat) : Int) - 1) = -1 from by unfold wrap64; omega]
      simp only [if_neg (show ¬ ((-1 : Int) ≥ 0) by decide), List.drop_zero]
      exact Ev.now _
    | succ i ih =>
      intro hi
      refine Ev.succ ?_
      have hil : i < bs.length := by omega
      rw [w64 (by omega) (by omega), show ((i + 1 : Nat) : Int) - 1 = (i : Int) by omega]
      simp only [crc_Number.l0, if_pos (show (i : Int) ≥ 0 by omega), if_pos (show (i : Int) < (bs.length : Int) by omega), rd_get hil]
      have h1 : isByte bs[i] := hb _ (List.getElem_mem hil)
      have h2 := numN_lt (bs.drop (i + 1)) (fun x hx => hb x (List.mem_of_mem_drop hx))
      rw [List.length_drop] at h2
      have h3 : numN (bs.drop (i + 1)) < 256 ^ 7 := Nat.lt_of_lt_of_le h2 (Nat.pow_le_pow_right (by decide) (by omega))
      unfold isByte at h1
      have e : Go.bits .or .u64 (IntKind.u64.wrap (((numN (bs.drop (i + 1)) : Nat) : Int) * 256)) (IntKind.u64.wrap bs[i]) = ((numN (bs.drop i) : Nat) : Int) := by
        rw [u64w, u64w, show (((numN (bs.drop (i + 1)) : Nat) : Int) * 256) % 18446744073709551616 = ((numN (bs.drop (i + 1)) * 256 : Nat) : Int) by
          rw [show (256 : Nat) ^ 7 = 72057594037927936 from rfl] at h3; omega, show bs[i] % 18446744073709551616 = ((bs[i].toNat : Nat) : Int) by omega]
        rw [or64 _ _ (by rw [show (256 : Nat) ^ 7 = 72057594037927936 from rfl] at h3; omega) (by omega), show numN (bs.drop (i + 1)) * 256 = numN (bs.drop (i + 1)) * 2 ^ 8 from rfl, or_add _ _ _ (by omega)]
        rw [List.drop_eq_getElem_cons hil, numN]
        omega
      rw [e]
      exact ih (by omega)
  have := key bs.length (Nat.le_refl _)
  rw [List.drop_length] at this
  exact this
end Go.Proofs.Yteglhbfhibfodaa.Cr
end
section
namespace Go.Proofs.Yteglhbfhibfodaa.Pr
open Go.RowKit Go.Proofs.YteglhbfhibfodaaW.PrintWords Go.Proofs.YteglhbfhibfodaaW.PrintLast Go.Proofs.YteglhbfhibfodaaW.PrintMore
attribute [local go_sem] max2_int min2_int max_two min_two max_three min_three max_four min_four
attribute [local go_sem] Go.Proofs.Yteglhbfhibfodaa.Hl.str_geq Go.Proofs.Yteglhbfhibfodaa.Hl.str_gtr Go.Proofs.Yteglhbfhibfodaa.Hl.str_leq
set_option linter.unusedVariables false
set_option linter.unusedSimpArgs false
def strings_Compare.f (a0:ByteArray) (a1:ByteArray):Option (Int):=some (Lib.compareBytes a0.data.toList a1.data.toList)
set_option maxHeartbeats 8000000 in
set_option maxRecDepth 100000 in
theorem strings_Compare.calls (a0:ByteArray) (a1:ByteArray) (r:Int) (w:World) (h:strings_Compare.f a0 a1=some r) :
  Calls Try.prog 42 #[.string a0,.string a1] w fun e w'=>e=.returned (.int .i64 r)∧Drawn0 w w':=by
 obtain rfl:=Option.some.inj h
 exact (Try.strings_Compare a0 a1 w).mono (fun e w' ⟨he,hw⟩=>⟨he,⟨⟨0,by rw [hw];rfl⟩⟩⟩)
theorem enc_two (r:Int) (h0:128≤r):∃ e:ByteArray,Utf8.encode r=e∧2≤e.size∧e.size≤4∧(e.size=2→∃ x:UInt8,e.data.toList[1]? = some x∧128≤x.toNat):=by
 refine ⟨_,rfl,?_⟩
 have hc:128≤(if Utf8.valid r then r.toNat else Utf8.runeError):=by
  split
  (omega)
  ·decide
 unfold Utf8.encode
 generalize (if Utf8.valid r then r.toNat else Utf8.runeError)=c at hc ⊢
 simp only []
 rw [if_neg (by omega)]
 split
 ·refine ⟨Nat.le_refl 2,Nat.le_add_right 2 2,fun _=>⟨_,rfl,?_⟩⟩
  rw [UInt8.toNat_ofNat']
  omega
 ·split
  ·exact ⟨Nat.le_add_right 2 1,Nat.le_add_right 3 1,fun h=>absurd h (by show ¬ (3=2);decide)⟩
  ·exact ⟨Nat.le_add_right 2 2,Nat.le_refl 4,fun h=>absurd h (by show ¬ (4=2);decide)⟩
set_option maxHeartbeats 4000000 in
set_option maxRecDepth 1000000 in
theorem indexRune_high (r:Int) (w:World) (h0:128≤r) (h1:r≤2147483647) :
  Calls Try.prog 99 #[.string ⟨#[47,0]⟩,.int .i32 r] w fun e w'=>e=.returned (.int .i64 (-1))∧Below w.heap.size w w':=by
 have hs:(⟨#[47,0]⟩:ByteArray).size=2:=rfl
 have hle:decide (r < 128)=false:=decide_eq_false (by omega)
 by_cases he:r=65533
 ·subst he
  go_enter Try.func99,Try.ntmps99
  have hn0:=fun ty=>run_next_ascii (P:=Try.prog) w ⟨#[47,0]⟩ 0 ty (by decide) (by decide)
  have hn1:=fun ty=>run_next_ascii (P:=Try.prog) w ⟨#[47,0]⟩ 1 ty (by decide) (by decide)
  have hn2:=fun ty=>run_next_end (P:=Try.prog) w ⟨#[47,0]⟩ 2 ty (by decide)
  go_wp2
  refine wp_loop_rounds 3 ?_
  repeat (rw [rounds_succ];go_wp2)
  all_goals go_ret
  exact ⟨rfl,(Below.refl _ _).alloc (Nat.le_refl _) _⟩
 ·have hne:(r==65533)=false:=beq_eq_false_iff_ne.2 he
  obtain ⟨e,hee,he2,he4,hex⟩:=enc_two r h0
  have hcv:∀ W:World,(convert 21 9 (.int .i32 r)).run Try.prog W=.ok (.string e) W:=by
   intro W
   rw [run_convert_int_string W 21 9 .i32 r (by rw [Try.underlying21];rfl) Try.underlying9,hee]
  go_enter Try.func99,Try.ntmps99
  go_wp2_with (go_at_call 106;refine (Try.utf8_ValidRune _ _).mono ?_;rintro e2 w2 ⟨rfl,hw⟩;rw [hw])
  ·go_ret
   exact ⟨rfl,Below.refl _ _⟩
  ·by_cases h2:e.size=2
   ·obtain ⟨x,hx,hx128⟩:=hex h2
    have hx1:e[1]'(by omega)=x:=by
     have:=Lib.data_getElem? e 1 (by omega)
     rw [hx] at this
     exact (Option.some.inj this).symm
    have hxz:(0==x.toNat)=false:=beq_eq_false_iff_ne.2 (by omega)
    go_step3
    go_wp2
    refine wp_loop_rounds 1 ?_
    rw [rounds_succ]
    go_wp2
    go_step3
    go_wp2
    go_quiet (fail)
    have h47:((⟨#[47,0]⟩:ByteArray)[1]'(by decide)).toNat=0:=rfl
    go_wp2
    ·go_quiet ((go_at_call 105;refine (Try.strings_IndexByte _ _ _).mono ?_;rintro e wq ⟨rfl,hwq⟩;exact ⟨rfl,_,hwq⟩))
     go_wp2
     rw [Exit.noGoto_ret]
     go_wp2
     (try rw [Exit.noGoto_ret])
     go_wp2;go_ret
     exact ⟨rfl,by repeat (first|exact Below.refl _ _|apply pw_below_drewN)⟩
   ·have h3:3≤e.size:=by omega
    have h3d:decide ((e.size:Int) - 1 < 2)=false:=decide_eq_false (by omega)
    go_step3
    go_wp2
    refine wp_loop_rounds 1 ?_
    rw [rounds_succ]
    go_wp2
    rw [Exit.noGoto_ret]
    go_wp2;go_ret
    exact ⟨rfl,Below.refl _ _⟩
theorem get_of (s:ByteArray) (j:Nat) (h:j < s.size):s.get! j=s[j]'h:=by
 simp [ByteArray.get!,getElem!_pos,h]
 rfl
theorem decode_bytes (s:ByteArray) (i:Nat) (h:i < s.size) (ha:128≤(s[i]'h).toNat) :
  i+(Utf8.decode s i).2≤s.size∧∀ j,i≤j→j < i+(Utf8.decode s i).2→128≤(s.get! j).toNat:=by
 have h0:128≤(s.get! i).toNat:=by rw [get_of s i h];exact ha
 have hc:∀ k,(decide (i+k < s.size)&&(s.get! (i+k)).toNat / 64==2)=true→i+k < s.size∧128≤(s.get! (i+k)).toNat:=by
  intro k hk
  rw [Bool.and_eq_true] at hk
  have h1:=of_decide_eq_true hk.1
  have h2:=eq_of_beq hk.2
  exact ⟨h1,by omega⟩
 have w1:i+1≤s.size∧∀ j,i≤j→j < i+1→128≤(s.get! j).toNat:=⟨by omega,fun j h1 h2=>by rw [show j=i by omega];exact h0⟩
 unfold Utf8.decode
 simp only [Nat.add_zero]
 rw [if_neg (by omega)]
 split
 ·rename_i hx
  rw [Bool.and_eq_true] at hx
  have c1:=hc 1 hx.2
  split
  ·refine ⟨by show i+2≤_;omega,fun j h1 h2=>?_⟩
   have h2:j < i+2:=h2
   rcases (show j=i∨j=i+1 by omega) with rfl|rfl
   ·exact h0
   ·exact c1.2
  ·exact w1
 ·split
  ·rename_i hx
   rw [Bool.and_eq_true,Bool.and_eq_true] at hx
   have c1:=hc 1 hx.1.2
   have c2:=hc 2 hx.2
   split
   ·refine ⟨by show i+3≤_;omega,fun j h1 h2=>?_⟩
    have h2:j < i+3:=h2
    rcases (show j=i∨j=i+1∨j=i+2 by omega) with rfl|rfl|rfl
    ·exact h0
    ·exact c1.2
    ·exact c2.2
   ·exact w1
  ·split
   ·rename_i hx
    rw [Bool.and_eq_true,Bool.and_eq_true,Bool.and_eq_true] at hx
    have c1:=hc 1 hx.1.1.2
    have c2:=hc 2 hx.1.2
    have c3:=hc 3 hx.2
    split
    ·refine ⟨by show i+4≤_;omega,fun j h1 h2=>?_⟩
     have h2:j < i+4:=h2
     rcases (show j=i∨j=i+1∨j=i+2∨j=i+3 by omega) with rfl|rfl|rfl|rfl
     ·exact h0
     ·exact c1.2
     ·exact c2.2
     ·exact c3.2
    ·exact w1
   ·exact w1
theorem noAny_by (s:ByteArray) (i n:Nat) (h:Lib.NoAny s.data.toList [47,0] i) (hn:i+n≤s.size) (hb:∀ j,i≤j→j < i+n→128≤(s.get! j).toNat):Lib.NoAny s.data.toList [47,0] (i+n):=by
 induction n with
 | zero=>exact h
 | succ n ih =>
  have h1:=ih (by omega) (fun j h1 h2=>hb j h1 (by omega))
  have h2:=hb (i+n) (by omega) (by omega)
  rw [get_of s (i+n) (by omega)] at h2
  have hx:s.data.toList[i+n]? = some (s[i+n]'(by omega)):=Lib.data_getElem? s (i+n) (by omega)
  refine h1.succ hx ?_
  generalize s[i+n]'(by omega)=x at h2
  have a:(x==47)=false:=beq_eq_false_iff_ne.2 (fun e=>by rw [e] at h2;revert h2;decide)
  have b:(x==0)=false:=beq_eq_false_iff_ne.2 (fun e=>by rw [e] at h2;revert h2;decide)
  simp [List.contains,List.elem,a,b]
set_option maxHeartbeats 4000000 in
set_option maxRecDepth 1000000 in
theorem indexAny_short (s:ByteArray) (w:World) (h8:s.size≤8) :
  Calls Try.prog 91 #[.string s,.string ⟨#[47,0]⟩] w fun e w'=>e=.returned (.int .i64 (Lib.indexAny s.data.toList [47,0]))∧Below w.heap.size w w':=by
 have h8z:decide ((8:Int) < (s.size:Int))=false:=decide_eq_false (by omega)
 go_enter Try.func91,Try.ntmps91
 go_wp2_with (go_at_call 100;refine (Try.strings_shouldUseASCIISet _ _).mono ?_;rintro e w' ⟨rfl,hw⟩;rw [hw,h8z])
 go_loopg [9,10] s.size (fun g _ _ wx=>∃ i:Nat,i≤s.size∧s.size - i≤g∧wx.heap[w.heap.size]? = some (.stringIter s i)∧Below w.heap.size w wx∧Aside0 (Lib.NoAny s.data.toList [47,0] i))
 case atStart=>exact ⟨0,Nat.zero_le _,by omega,World.iter_heap w s 0,(Below.refl _ _).alloc (Nat.le_refl _) _,⟨Lib.NoAny.zero _ _⟩⟩
 case round =>
  obtain ⟨i,hil,hig,hit,hbel,HN⟩:=hrel
  by_cases hi:i < s.size
  ·cases gk with
   | zero=>exact absurd hi (by omega)
   | succ g =>
    obtain ⟨x,hx⟩:∃ x:UInt8,s[i]'hi=x:=⟨_,rfl⟩
    have hxl:s.data.toList[i]? = some x:=by rw [← hx];exact Lib.data_getElem? s i hi
    have Hx:=am hxl
    clear hxl
    by_cases hx128:x.toNat < 128
    ·have hnx:=fun ty=>Go.Lib.run_next_ascii_at (P:=Try.prog) wr w.heap.size s i ty hit hi (by rw [hx];exact hx128)
     rw [hx] at hnx
     have hit2:=am (Go.Lib.iterAt_heap wr w.heap.size s i (i+1) hit)
     have hbel2:=am (Go.Lib.below_iterAt hbel (Nat.le_refl _) s (i+1))
     clear hit hbel hx
     generalize wr.iterAt w.heap.size s (i+1)=w3 at hnx hit2 hbel2
     have hcon:=Lib.contains_iff_indexByte [47,0] x
     have hback:((x.toNat:Int)).toNat.toUInt8=x:=by simp
     cases hin:[47,0].contains x
     ·rw [hin] at hcon
      have hlt:¬ ((0:Int)≤Lib.indexByte [47,0] x):=of_decide_eq_false hcon.symm
      clear hcon
      go_wp2_with (go_at_call 99;refine (Try.strings_IndexRune_ascii _ _ _ (by omega) (by omega)).mono ?_;rintro e w' ⟨rfl,hw⟩;rw [hw,hback])
      go_roundg g
      case measure=>omega
      case rel=>exact ⟨i+1,by omega,by omega,hit2.out,hbel2.out,⟨HN.out.succ Hx.out hin⟩⟩
     ·rw [hin] at hcon
      have hge:(0:Int)≤Lib.indexByte [47,0] x:=of_decide_eq_true hcon.symm
      clear hcon
      go_wp2_with (go_at_call 99;refine (Try.strings_IndexRune_ascii _ _ _ (by omega) (by omega)).mono ?_;rintro e w' ⟨rfl,hw⟩;rw [hw,hback])
      go_ret
      exact ⟨by rw [Lib.indexAny_hit HN.out Hx.out hin];rfl,hbel2.out⟩
    ·have hnx:=fun ty=>Lib.run_next_any_at (P:=Try.prog) wr w.heap.size s i ty hit hi
     have hhigh:=decode_high s i hi (by rw [hx];omega)
     have hle:=decode_le s i
     have hby:=decode_bytes s i hi (by rw [hx];omega)
     obtain ⟨r,hr⟩:∃ r,(Utf8.decode s i).1=r:=⟨_,rfl⟩
     obtain ⟨d,hd⟩:∃ d,(Utf8.decode s i).2=d:=⟨_,rfl⟩
     rw [hr] at hnx hhigh hle
     rw [hd] at hnx hhigh hby
     have hit2:=Lib.iterAt_heap wr w.heap.size s i (i+d) hit
     have hbel2:=Lib.below_iterAt hbel (Nat.le_refl _) s (i+d)
     clear hit hbel hx
     generalize wr.iterAt w.heap.size s (i+d)=w3 at hnx hit2 hbel2
     have hlt3:w.heap.size < w3.heap.size:=(Array.getElem?_eq_some_iff.1 hit2).1
     have hit3:=am hit2
     have hbel3:=am hbel2
     clear hit2 hbel2
     have HBY:=am hby.2
     have hby1:=hby.1
     clear hby
     go_wp2_with (go_at_call 99;refine (indexRune_high _ _ (by omega) (by omega)).mono ?_;rintro e w4 ⟨rfl,hb4⟩;have hit4:=am ((hb4.block _ hlt3).trans hit3.out);have hbel4:=am (hbel3.out.trans (hb4.mono (Nat.le_of_lt hlt3)));clear hb4)
     go_roundg g
     case measure=>omega
     case rel=>exact ⟨i+d,by omega,by omega,hit4.out,hbel4.out,⟨noAny_by s i d HN.out hby1 HBY.out⟩⟩
  ·obtain rfl:i=s.size:=by omega
   have hnx:=fun ty=>Lib.run_next_end_at (P:=Try.prog) wr w.heap.size s s.size ty hit (Nat.lt_irrefl _)
   have hbel2:=am hbel
   clear hbel hit;go_wp2;go_ret
   exact ⟨by rw [Lib.indexAny_none (by rw [← Lib.size_eq];exact HN.out)];rfl,hbel2.out⟩
theorem containsAny_two (s:ByteArray) (w:World) (hs:s.size < 4294967281) :
  Calls Try.prog 70 #[.string s,.string ⟨#[47,0]⟩] w fun e w'=>e=.returned (.bool (Lib.containsAny s.data.toList [47,0]))∧Below w.heap.size w w':=by
 have hany:∀ W:World,Calls Try.prog 91 #[.string s,.string ⟨#[47,0]⟩] W fun e w'=>e=.returned (.int .i64 (Lib.indexAny s.data.toList [47,0]))∧Below W.heap.size W w':=by
  intro W
  by_cases h8:s.size≤8
  ·exact indexAny_short s W h8
  ·refine (Try.strings_IndexAny_long (fun w=>by rw [Try.zeroValue143];exact congrArg (fun c=>Result.ok (Value.agg c) w) (by kernel_rfl)) s ⟨#[47,0]⟩ W (by decide) (by omega) hs (by decide) ?_).mono ?_
   ·intro j b hb
    match j,hb with
    | 0,hb=>cases hb;decide
    | 1,hb=>cases hb;decide
    | j+2,hb=>simp at hb
   ·rintro e w' ⟨rfl,rfl⟩
    exact ⟨rfl,((Below.refl _ _).alloc (Nat.le_refl _) _).alloc (by simp) _⟩
 go_enter Try.func70,Try.ntmps70
 go_wp2_with (go_at_call 91;refine (hany _).mono ?_;rintro e w' ⟨rfl,hb⟩)
 go_ret
 exact ⟨rfl,hb⟩
def strings_ContainsAny.f (a0:ByteArray) (a1:ByteArray):Option (Bool):=if a1=⟨#[47,0]⟩∧a0.size < 4294967281 then some (Lib.containsAny a0.data.toList [47,0]) else none
set_option maxHeartbeats 8000000 in
set_option maxRecDepth 100000 in
theorem strings_ContainsAny.calls (a0:ByteArray) (a1:ByteArray) (r:Bool) (w:World) (h:strings_ContainsAny.f a0 a1=some r) :
  Calls Try.prog 70 #[.string a0,.string a1] w fun e w'=>e=.returned (.bool r)∧Below w.heap.size w w':=by
 unfold strings_ContainsAny.f at h
 split at h
 ·rename_i hx
  obtain ⟨rfl,hs⟩:=hx
  obtain rfl:=Option.some.inj h
  exact containsAny_two a0 w hs
 ·cases h
def leaf_May.f (a0:ByteArray):Option (Bool):=if a0.toList=([]:List UInt8) then (some false) else (if (a0.size:Int) > 32 then (some false) else (if a0.toList=([46]:List UInt8) then (some false) else (if a0.toList=([46,46]:List UInt8) then (some false) else ((strings_ContainsAny.f a0 (⟨#[47,0]⟩:ByteArray)).bind fun t143=>(some (!t143))))))
set_option maxHeartbeats 8000000 in
set_option maxRecDepth 100000 in
theorem leaf_May.calls (a0:ByteArray) (r:Bool) (w:World) (h:leaf_May.f a0=some r) :
  Calls Try.prog 48 #[.string a0] w fun e w'=>e=.returned (.bool r)∧Below w.heap.size w w':=by
 have HB:=am (Below.refl w.heap.size w)
 have H:(if a0.toList=([]:List UInt8) then (some false) else (if (a0.size:Int) > 32 then (some false) else (if a0.toList=([46]:List UInt8) then (some false) else (if a0.toList=([46,46]:List UInt8) then (some false) else ((strings_ContainsAny.f a0 (⟨#[47,0]⟩:ByteArray)).bind fun t143=>(some (!t143)))))))=some r:=h
 clear h
 by_cases c2:a0.toList=([]:List UInt8)
 ·rw [if_pos c2] at H
  have c2b0:(a0.toList==([]:List UInt8))=true:=beq_iff_eq.mpr c2
  have c2b1:(a0.toList != ([]:List UInt8))=false:=bne_eq_false_iff_eq.mpr c2
  clear c2;obtain rfl:=Option.some.inj H
  go_enter Try.func48,Try.ntmps48
  go_wp2;go_ret
  exact ⟨by first|rfl|(simp [errW_none,errW_some]<;>rfl)|(simp [*,errW_none,errW_some]<;>rfl),bb HB⟩
 ·rw [if_neg c2] at H
  have c2b0:(a0.toList==([]:List UInt8))=false:=beq_eq_false_iff_ne.mpr c2
  have c2b1:(a0.toList != ([]:List UInt8))=true:=bne_iff_ne.mpr c2
  by_cases c3:(a0.size:Int) > 32
  ·rw [if_pos c3] at H
   have c3b0:decide (32 < (a0.size:Int))=true:=decide_eq_true c3
   have c3b1:decide (32 < a0.size)=true:=decide_eq_true (by omega)
   clear c3;obtain rfl:=Option.some.inj H
   go_enter Try.func48,Try.ntmps48
   go_wp2;go_ret
   exact ⟨by first|rfl|(simp [errW_none,errW_some]<;>rfl)|(simp [*,errW_none,errW_some]<;>rfl),bb HB⟩
  ·rw [if_neg c3] at H
   have c3b0:decide (32 < (a0.size:Int))=false:=decide_eq_false c3
   have c3b1:decide (32 < a0.size)=false:=decide_eq_false (by omega)
   clear c3
   by_cases c4:a0.toList=([46]:List UInt8)
   ·rw [if_pos c4] at H
    have c4b0:(a0.toList==([46]:List UInt8))=true:=beq_iff_eq.mpr c4
    have c4b1:(a0.toList != ([46]:List UInt8))=false:=bne_eq_false_iff_eq.mpr c4
    clear c4;obtain rfl:=Option.some.inj H
    go_enter Try.func48,Try.ntmps48
    go_wp2;go_ret
    exact ⟨by first|rfl|(simp [errW_none,errW_some]<;>rfl)|(simp [*,errW_none,errW_some]<;>rfl),bb HB⟩
   ·rw [if_neg c4] at H
    have c4b0:(a0.toList==([46]:List UInt8))=false:=beq_eq_false_iff_ne.mpr c4
    have c4b1:(a0.toList != ([46]:List UInt8))=true:=bne_iff_ne.mpr c4
    by_cases c5:a0.toList=([46,46]:List UInt8)
    ·rw [if_pos c5] at H
     have c5b0:(a0.toList==([46,46]:List UInt8))=true:=beq_iff_eq.mpr c5
     have c5b1:(a0.toList != ([46,46]:List UInt8))=false:=bne_eq_false_iff_eq.mpr c5
     clear c5;obtain rfl:=Option.some.inj H
     go_enter Try.func48,Try.ntmps48
     go_wp2;go_ret
     exact ⟨by first|rfl|(simp [errW_none,errW_some]<;>rfl)|(simp [*,errW_none,errW_some]<;>rfl),bb HB⟩
    ·rw [if_neg c5] at H
     have c5b0:(a0.toList==([46,46]:List UInt8))=false:=beq_eq_false_iff_ne.mpr c5
     have c5b1:(a0.toList != ([46,46]:List UInt8))=true:=bne_iff_ne.mpr c5
     replace H:=Option.bind_eq_some_iff.mp H
     obtain ⟨t143,A60,H⟩:=H
     replace H:(some (!t143))=some r:=H
     have A6:=am A60
     clear A60;obtain rfl:=Option.some.inj H
     go_enter Try.func48,Try.ntmps48
     go_wp2_with (first|((with_reducible refine gate_callee (f:=70) rfl ?_);refine goesL_ (some 14) rfl rfl Try.func70 (by kernel_rfl) rfl #[.string a0,.string (⟨#[47,0]⟩:ByteArray)] rfl (by (try simp only [List.map_toArray,List.map_cons,List.map_nil]);first|done|rfl|(simp only [List.length_drop,List.length_take];rfl)) ?_;(with_reducible refine (strings_ContainsAny.calls a0 (⟨#[47,0]⟩:ByteArray) t143 _ A6.out).mono ?_);rintro e w7 ⟨rfl,hb⟩;refine ⟨_,rfl,?_⟩;have n0_:=bst HB hb;clear HB;have HB:=n0_;clear n0_;(try clear hb);(try clear hb2);(try clear hk);(try clear hi)))
     go_ret
     exact ⟨by first|rfl|(simp [errW_none,errW_some]<;>rfl)|(simp [*,errW_none,errW_some]<;>rfl),bb HB⟩
def leaf_Size.l0:Nat→List (S30)→Int→List (S30)→Int→Int→Option (Int×Int)
 | 0,_,_,_,_,_=>none
 | k+1,x0,x4,x7,x8,x9=>if x9 < x8 then (if 0≤x9 then (if x9 < (x7.length:Int) then ((leaf_May.f ((rd_T30 x7 x9).f0)).bind fun t146=>(if t146=true then (if ((rd_T30 x7 x9).f1) < 0 then (some (0,1)) else (if ((rd_T30 x7 x9).f1) > 1048576 then (some (0,1)) else (if x9 > 0 then (if 0≤(wrap64 (x9 - 1)) then (if (wrap64 (x9 - 1)) < (x0.length:Int) then ((strings_Compare.f ((rd_T30 x0 (wrap64 (x9 - 1))).f0) ((rd_T30 x7 x9).f0)).bind fun t148=>(if t148≥0 then (some (0,1)) else (leaf_Size.l0 k x0 (wrap64 (x4+(wrap64 (5+(((rd_T30 x7 x9).f0).size:Int))))) x7 x8 (wrap64 (x9+1))))) else (none)) else (none)) else (leaf_Size.l0 k x0 (wrap64 (x4+(wrap64 (5+(((rd_T30 x7 x9).f0).size:Int))))) x7 x8 (wrap64 (x9+1)))))) else (some (0,1)))) else (none)) else (none)) else (some (x4,0))
def leaf_Size.f (k:Nat) (l0:List (S30)):Option (Int×Int):=leaf_Size.l0 k l0 0 l0 (l0.length:Int) 0
def leaf_Size.T5:Bool×List (List Nat×List Nat):=(true,[([],[]),([0],[0]),([1],[1]),([2],[2]),([3,2],[3]),([4],[4]),([5,4],[4,5]),([6,4],[4,6]),([4,7],[4,7]),([8,4],[8]),([9],[9]),([10,9],[9,10]),([11,9],[9,11]),([9,12],[9,12]),([13,9],[13]),([14],[14]),([15,14],[14,15]),([16,14,14],[14,16]),([17],[17]),([17],[17]),([19,17],[17,19]),([18,20,17],[17,18,20]),([21,17],[17,21]),([22,17],[17,22]),([17],[17]),([24,17],[17,24]),([23,25,17,17],[17,23,25]),([26,17],[17,26]),([17,27,14],[14,17,27]),([14,28],[14,28])])
def leaf_Size.B5:List Nat:=[0,1,3,7,15,31,63,127,255,511,1023,2047,4095,8191,16383,32767,65535,131071,262143,262143,786431,2097151,4194303,8388607,262143,17039359,67108863,134217727,268435455,536870911]
theorem leaf_Size.tab5:rtab .any (opsOf Try.f44 5)=leaf_Size.T5:=by kernel_rfl
theorem leaf_Size.bits5:waitsOk leaf_Size.T5.2 leaf_Size.B5=true:=by kernel_rfl
set_option maxHeartbeats 8000000 in
set_option maxRecDepth 100000 in
theorem leaf_Size.calls (k:Nat) (A0:Option Addr) (c0:Nat) (l0:List (S30)) (r1:Int) (r2:Int) (w:World) (hr0:Kd.C k30 w A0 l0.length l0) (hc0:l0.length≤c0) (h:leaf_Size.f k l0=some (r1,r2)) :
  Calls Try.prog 44 #[.slice A0 l0.length c0] w fun e w'=>e=.returned (.tuple #[.int .i64 r1,.int .i64 r2])∧Below w.heap.size w w':=by
 have hu30:=Try.underlying30
 have HR0:=am hr0
 have HC0:=am hc0
 clear hr0 hc0
 have HB:=am (Below.refl w.heap.size w)
 have H:(leaf_Size.l0 k l0 0 l0 (l0.length:Int) 0)=some (r1,r2):=h
 clear h
 have H':=am H
 clear H
 go_enter Try.func44,Try.ntmps44
 go_wp2
 go_loopg [4,9] k (fun kq v4 v9 w'=>∃ (x4_1:Int) (x9_1:Int),v4=.int .i64 x4_1∧v9=.int .i64 x9_1∧Aside0 (leaf_Size.l0 kq l0 x4_1 l0 (l0.length:Int) x9_1=some (r1,r2))∧Aside0 (kq≤k)∧Aside0 (Below w.heap.size w w'))
 case atStart=>exact ⟨(0),(0),(by first|rfl|(simp;done)|(simp [*];done)),(by first|rfl|(simp;done)|(simp [*];done)),H',⟨Nat.le_refl _⟩,⟨bb HB⟩⟩
 case round =>
  clear H'
  obtain ⟨x4_1,x9_1,rfl,rfl,HA,HK1,HB⟩:=hrel
  cases gk with
  | zero=>exact absurd HA.out (by intro h_;cases h_)
  | succ k1 =>
   have H:=HA.out
   clear HA
   simp only [leaf_Size.l0] at H
   by_cases c2:x9_1 < (l0.length:Int)
   ·rw [if_pos c2] at H
    have c2b0:decide (x9_1 < (l0.length:Int))=true:=decide_eq_true c2
    clear c2
    by_cases c3:0≤x9_1
    ·rw [if_pos c3] at H
     have c3b0:decide (0≤x9_1)=true:=decide_eq_true c3
     clear c3
     by_cases c4:x9_1 < (l0.length:Int)
     ·rw [if_pos c4] at H
      have c4b0:decide (x9_1 < (l0.length:Int))=true:=decide_eq_true c4
      clear c4
      replace H:=Option.bind_eq_some_iff.mp H
      obtain ⟨t146,A50,H⟩:=H
      replace H:(if t146=true then (if ((rd_T30 l0 x9_1).f1) < 0 then (some (0,1)) else (if ((rd_T30 l0 x9_1).f1) > 1048576 then (some (0,1)) else (if x9_1 > 0 then (if 0≤(wrap64 (x9_1 - 1)) then (if (wrap64 (x9_1 - 1)) < (l0.length:Int) then ((strings_Compare.f ((rd_T30 l0 (wrap64 (x9_1 - 1))).f0) ((rd_T30 l0 x9_1).f0)).bind fun t148=>(if t148≥0 then (some (0,1)) else (leaf_Size.l0 k1 l0 (wrap64 (x4_1+(wrap64 (5+(((rd_T30 l0 x9_1).f0).size:Int))))) l0 (l0.length:Int) (wrap64 (x9_1+1))))) else (none)) else (none)) else (leaf_Size.l0 k1 l0 (wrap64 (x4_1+(wrap64 (5+(((rd_T30 l0 x9_1).f0).size:Int))))) l0 (l0.length:Int) (wrap64 (x9_1+1)))))) else (some (0,1)))=some (r1,r2):=H
      have A5:=am A50
      clear A50
      by_cases c6:t146=true
      ·subst c6
       have H1:(if ((rd_T30 l0 x9_1).f1) < 0 then (some (0,1)) else (if ((rd_T30 l0 x9_1).f1) > 1048576 then (some (0,1)) else (if x9_1 > 0 then (if 0≤(wrap64 (x9_1 - 1)) then (if (wrap64 (x9_1 - 1)) < (l0.length:Int) then ((strings_Compare.f ((rd_T30 l0 (wrap64 (x9_1 - 1))).f0) ((rd_T30 l0 x9_1).f0)).bind fun t148=>(if t148≥0 then (some (0,1)) else (leaf_Size.l0 k1 l0 (wrap64 (x4_1+(wrap64 (5+(((rd_T30 l0 x9_1).f0).size:Int))))) l0 (l0.length:Int) (wrap64 (x9_1+1))))) else (none)) else (none)) else (leaf_Size.l0 k1 l0 (wrap64 (x4_1+(wrap64 (5+(((rd_T30 l0 x9_1).f0).size:Int))))) l0 (l0.length:Int) (wrap64 (x9_1+1))))))=some (r1,r2):=by rw [if_pos rfl] at H;exact H
       clear H;have H:=H1;clear H1
       by_cases c7:((rd_T30 l0 x9_1).f1) < 0
       ·rw [if_pos c7] at H
        have c7b0:decide (((rd_T30 l0 x9_1).f1) < 0)=true:=decide_eq_true c7
        clear c7
        simp only [Option.some.injEq,Prod.mk.injEq] at H
        obtain ⟨rfl,rfl⟩:=H
        have p144:0≤(x9_1:Int):=od
        have q144:x9_1 < (l0.length:Int):=od
        obtain ⟨ad144,e144,hx144_0,hx144_1⟩:=at_T30 HR0.out x9_1 p144 q144
        cases e144
        replace hx144_0:=hB HB hx144_0
        replace hx144_1:=hB HB hx144_1
        replace p144:=eq_true p144;replace q144:=eq_true q144
        try go_wp2_with (first|((with_reducible refine gate_dst (N:=6) rfl ?_);refine box_event ?hg (N:=6) ?hd (cs:=#[.string (⟨#[]⟩:ByteArray),.int .i64 0]) (t:=30) ?hr ?_;(case hd=>rfl);(case hg=>rfl);(case hr=>first|(go_simp;done)|(go_simp;rfl));intro gb145 hg w8 hbox hb;have n0_:=bst HB hb;have n1_:=am (hbox);have n2_:=am ((gz hg HB));have n3_:=am ((gz hg HB));clear HB;have HB:=n0_;have BK145:=n1_;have GW145:=n2_;have GE145:=n3_;clear n0_ n1_ n2_ n3_;clear hb hbox hg;have hcz9_0:w8.cell? ⟨gb145,0,none⟩=some (.string (⟨#[]⟩:ByteArray)):=kC BK145 0;have hcz9_1:w8.cell? ⟨gb145,1,none⟩=some (.int .i64 0):=kC BK145 1;have hfz9_0:=blk_frozen BK145.out 0;have hfz9_1:=blk_frozen BK145.out 1))
        have n0_:Aside0 (((w8.setCell ⟨gb145,0,none⟩ (.string ((rd_T30 l0 x9_1).f0))).setCell ⟨gb145,1,none⟩ (.int .i64 ((rd_T30 l0 x9_1).f1))).heap[gb145]? = some (.cells #[.string ((rd_T30 l0 x9_1).f0),.int .i64 ((rd_T30 l0 x9_1).f1)] 30 (0,0))):=⟨by (with_reducible repeat (first|refine blk_drewN ?_ _|refine blk_drew ?_|refine blk_alloc ?_ _));refine blk_put (cs:=#[.string ((rd_T30 l0 x9_1).f0),.int .i64 0]) ?_ 1 _ rfl;(with_reducible repeat (first|refine blk_drewN ?_ _|refine blk_drew ?_|refine blk_alloc ?_ _));refine blk_put (cs:=#[.string (⟨#[]⟩:ByteArray),.int .i64 0]) ?_ 0 _ rfl;(with_reducible repeat (first|refine blk_drewN ?_ _|refine blk_drew ?_|refine blk_alloc ?_ _));exact BK145.out⟩
        have n1_:Aside0 (Below w.heap.size w ((w8.setCell ⟨gb145,0,none⟩ (.string ((rd_T30 l0 x9_1).f0))).setCell ⟨gb145,1,none⟩ (.int .i64 ((rd_T30 l0 x9_1).f1)))):=⟨bxs HB GE145⟩
        (try clear BK145)
        (try clear HB)
        generalize ((w8.setCell ⟨gb145,0,none⟩ (.string ((rd_T30 l0 x9_1).f0))).setCell ⟨gb145,1,none⟩ (.int .i64 ((rd_T30 l0 x9_1).f1)))=w10 at n0_ n1_ ⊢
        have BK145:=n0_;have HB:=n1_;clear n0_ n1_
        have n0_:=am (blk_drew BK145.out)
        have n1_:=am (below_drew1 HB.out)
        clear BK145;clear HB;have BK145:=n0_;have HB:=n1_;clear n0_ n1_
        refine start_ (n:=30) (S:=fun w'=>w'.cell? ⟨gb145,0,none⟩=some (.string ((rd_T30 l0 x9_1).f0))∧w'.cell? ⟨gb145,1,none⟩=some (.int .i64 ((rd_T30 l0 x9_1).f1))) (ds:=[]) _ (by kernel_rfl) rfl rfl ⟨kC BK145 0,kC BK145 1⟩ (fun hHeld=>?_);refine with_tabW leaf_Size.tab5 leaf_Size.bits5 (fun HT_ HW_=>?_)
        generalize w10.drew=w11 at BK145 HB hHeld ⊢
        refine pS 0 14 HT_ ?_;refine tS 1 15 HT_ HW_ hHeld ?_ (hy:=by rintro w' ⟨s0,s1⟩;go_simp;with_reducible rfl)
        refine oS 2 (some 16) HT_ (fun K hK=>?_)
        refine gS Try.func48 #[.string ((rd_T30 l0 x9_1).f0)] ?_
        with_reducible refine (leaf_May.calls ((rd_T30 l0 x9_1).f0) true _ A5.out).mono ?_
        rintro e w12 ⟨rfl,hb⟩
        refine ⟨_,rfl,?_⟩
        have n0_:=am (blk_below (g:=gb145) (o:=.cells #[.string ((rd_T30 l0 x9_1).f0),.int .i64 ((rd_T30 l0 x9_1).f1)] 30 (0,0)) (rK BK145) hb)
        have n1_:=am (below_step (bxs HB GE145) hb)
        clear BK145;clear HB;have BK145:=n0_;have HB:=n1_;clear n0_ n1_
        (try clear hb)
        (try clear hb2)
        (try clear hk)
        (try clear hi)
        refine hK.out _ _ ⟨kC BK145 0,kC BK145 1⟩ (fun hHeld=>?_)
        clear hK K;refine norm_ (a':=?_) ?_ ?_;rotate_left
        ·show Act.put _ (some 16) _=_
         simp only [Act.put,sIb,sC0,sCs,i64_w,i32_w];rfl
        refine pS 3 17 HT_ ?_;refine pS 4 18 HT_ ?_;refine pS 5 19 HT_ ?_;refine tS 6 20 HT_ HW_ hHeld ?_ (hy:=by rintro w' ⟨s0,s1⟩;go_simp;with_reducible rfl);refine pS 7 21 HT_ ?_;refine pS 8 22 HT_ ?_;refine pS 9 23 HT_ ?_;refine uS 10 24 HT_ ?_;refine uS 11 25 HT_ ?_;refine uS 12 26 HT_ ?_;refine pS 13 27 HT_ ?_;refine pS 14 28 HT_ ?_;refine uS 15 29 HT_ ?_;refine uS 16 30 HT_ ?_;refine uS 17 31 HT_ ?_;refine uS 18 32 HT_ ?_;refine uS 19 33 HT_ ?_;refine uS 20 34 HT_ ?_;refine uS 21 35 HT_ ?_;refine uS 22 36 HT_ ?_;refine uS 23 37 HT_ ?_;refine uS 24 38 HT_ ?_;refine uS 25 39 HT_ ?_;refine uS 26 40 HT_ ?_;refine uS 27 41 HT_ ?_;refine uS 28 42 HT_ ?_;refine pS 29 43 HT_ ?_
        refine done_ (done_of HT_.out (by kernel_rfl)) ?_
        try go_wp2
        go_ret2
        exact ⟨by first|rfl|(simp [errW_none,errW_some]<;>rfl)|(simp [*,errW_none,errW_some]<;>rfl),bxs HB GE145⟩
       ·rw [if_neg c7] at H
        have c7b0:decide (((rd_T30 l0 x9_1).f1) < 0)=false:=decide_eq_false c7
        clear c7
        by_cases c13:((rd_T30 l0 x9_1).f1) > 1048576
        ·rw [if_pos c13] at H
         have c13b0:decide (1048576 < ((rd_T30 l0 x9_1).f1))=true:=decide_eq_true c13
         clear c13
         simp only [Option.some.injEq,Prod.mk.injEq] at H
         obtain ⟨rfl,rfl⟩:=H
         have p144:0≤(x9_1:Int):=od
         have q144:x9_1 < (l0.length:Int):=od
         obtain ⟨ad144,e144,hx144_0,hx144_1⟩:=at_T30 HR0.out x9_1 p144 q144
         cases e144
         replace hx144_0:=hB HB hx144_0
         replace hx144_1:=hB HB hx144_1
         replace p144:=eq_true p144;replace q144:=eq_true q144
         try go_wp2_with (first|((with_reducible refine gate_dst (N:=6) rfl ?_);refine box_event ?hg (N:=6) ?hd (cs:=#[.string (⟨#[]⟩:ByteArray),.int .i64 0]) (t:=30) ?hr ?_;(case hd=>rfl);(case hg=>rfl);(case hr=>first|(go_simp;done)|(go_simp;rfl));intro gb145 hg w14 hbox hb;have n0_:=bst HB hb;have n1_:=am (hbox);have n2_:=am ((gz hg HB));have n3_:=am ((gz hg HB));clear HB;have HB:=n0_;have BK145:=n1_;have GW145:=n2_;have GE145:=n3_;clear n0_ n1_ n2_ n3_;clear hb hbox hg;have hcz15_0:w14.cell? ⟨gb145,0,none⟩=some (.string (⟨#[]⟩:ByteArray)):=kC BK145 0;have hcz15_1:w14.cell? ⟨gb145,1,none⟩=some (.int .i64 0):=kC BK145 1;have hfz15_0:=blk_frozen BK145.out 0;have hfz15_1:=blk_frozen BK145.out 1))
         have n0_:Aside0 (((w14.setCell ⟨gb145,0,none⟩ (.string ((rd_T30 l0 x9_1).f0))).setCell ⟨gb145,1,none⟩ (.int .i64 ((rd_T30 l0 x9_1).f1))).heap[gb145]? = some (.cells #[.string ((rd_T30 l0 x9_1).f0),.int .i64 ((rd_T30 l0 x9_1).f1)] 30 (0,0))):=⟨by (with_reducible repeat (first|refine blk_drewN ?_ _|refine blk_drew ?_|refine blk_alloc ?_ _));refine blk_put (cs:=#[.string ((rd_T30 l0 x9_1).f0),.int .i64 0]) ?_ 1 _ rfl;(with_reducible repeat (first|refine blk_drewN ?_ _|refine blk_drew ?_|refine blk_alloc ?_ _));refine blk_put (cs:=#[.string (⟨#[]⟩:ByteArray),.int .i64 0]) ?_ 0 _ rfl;(with_reducible repeat (first|refine blk_drewN ?_ _|refine blk_drew ?_|refine blk_alloc ?_ _));exact BK145.out⟩
         have n1_:Aside0 (Below w.heap.size w ((w14.setCell ⟨gb145,0,none⟩ (.string ((rd_T30 l0 x9_1).f0))).setCell ⟨gb145,1,none⟩ (.int .i64 ((rd_T30 l0 x9_1).f1)))):=⟨bxs HB GE145⟩
         (try clear BK145)
         (try clear HB)
         generalize ((w14.setCell ⟨gb145,0,none⟩ (.string ((rd_T30 l0 x9_1).f0))).setCell ⟨gb145,1,none⟩ (.int .i64 ((rd_T30 l0 x9_1).f1)))=w16 at n0_ n1_ ⊢
         have BK145:=n0_;have HB:=n1_;clear n0_ n1_
         have n0_:=am (blk_drew BK145.out)
         have n1_:=am (below_drew1 HB.out)
         clear BK145;clear HB;have BK145:=n0_;have HB:=n1_;clear n0_ n1_
         refine start_ (n:=30) (S:=fun w'=>w'.cell? ⟨gb145,0,none⟩=some (.string ((rd_T30 l0 x9_1).f0))∧w'.cell? ⟨gb145,1,none⟩=some (.int .i64 ((rd_T30 l0 x9_1).f1))) (ds:=[]) _ (by kernel_rfl) rfl rfl ⟨kC BK145 0,kC BK145 1⟩ (fun hHeld=>?_);refine with_tabW leaf_Size.tab5 leaf_Size.bits5 (fun HT_ HW_=>?_)
         generalize w16.drew=w17 at BK145 HB hHeld ⊢
         refine pS 0 14 HT_ ?_;refine tS 1 15 HT_ HW_ hHeld ?_ (hy:=by rintro w' ⟨s0,s1⟩;go_simp;with_reducible rfl)
         refine oS 2 (some 16) HT_ (fun K hK=>?_)
         refine gS Try.func48 #[.string ((rd_T30 l0 x9_1).f0)] ?_
         with_reducible refine (leaf_May.calls ((rd_T30 l0 x9_1).f0) true _ A5.out).mono ?_
         rintro e w18 ⟨rfl,hb⟩
         refine ⟨_,rfl,?_⟩
         have n0_:=am (blk_below (g:=gb145) (o:=.cells #[.string ((rd_T30 l0 x9_1).f0),.int .i64 ((rd_T30 l0 x9_1).f1)] 30 (0,0)) (rK BK145) hb)
         have n1_:=am (below_step (bxs HB GE145) hb)
         clear BK145;clear HB;have BK145:=n0_;have HB:=n1_;clear n0_ n1_
         (try clear hb)
         (try clear hb2)
         (try clear hk)
         (try clear hi)
         refine hK.out _ _ ⟨kC BK145 0,kC BK145 1⟩ (fun hHeld=>?_)
         clear hK K;refine norm_ (a':=?_) ?_ ?_;rotate_left
         ·show Act.put _ (some 16) _=_
          simp only [Act.put,sIb,sC0,sCs,i64_w,i32_w];rfl
         refine pS 3 17 HT_ ?_;refine pS 4 18 HT_ ?_;refine pS 5 19 HT_ ?_;refine tS 6 20 HT_ HW_ hHeld ?_ (hy:=by rintro w' ⟨s0,s1⟩;go_simp;with_reducible rfl);refine pS 7 21 HT_ ?_;refine pS 8 22 HT_ ?_;refine pS 9 23 HT_ ?_;refine pS 10 24 HT_ ?_;refine tS 11 25 HT_ HW_ hHeld ?_ (hy:=by rintro w' ⟨s0,s1⟩;go_simp;with_reducible rfl);refine pS 12 26 HT_ ?_;refine pS 13 27 HT_ ?_;refine pS 14 28 HT_ ?_;refine uS 15 29 HT_ ?_;refine uS 16 30 HT_ ?_;refine uS 17 31 HT_ ?_;refine uS 18 32 HT_ ?_;refine uS 19 33 HT_ ?_;refine uS 20 34 HT_ ?_;refine uS 21 35 HT_ ?_;refine uS 22 36 HT_ ?_;refine uS 23 37 HT_ ?_;refine uS 24 38 HT_ ?_;refine uS 25 39 HT_ ?_;refine uS 26 40 HT_ ?_;refine uS 27 41 HT_ ?_;refine uS 28 42 HT_ ?_;refine pS 29 43 HT_ ?_
         refine done_ (done_of HT_.out (by kernel_rfl)) ?_
         try go_wp2
         go_ret2
         exact ⟨by first|rfl|(simp [errW_none,errW_some]<;>rfl)|(simp [*,errW_none,errW_some]<;>rfl),bxs HB GE145⟩
        ·rw [if_neg c13] at H
         have c13b0:decide (1048576 < ((rd_T30 l0 x9_1).f1))=false:=decide_eq_false c13
         clear c13
         by_cases c19:x9_1 > 0
         ·rw [if_pos c19] at H
          have c19b0:decide (0 < x9_1)=true:=decide_eq_true c19
          clear c19
          obtain ⟨ji20,hji20⟩:∃ j_:Int,(wrap64 (x9_1 - 1))=j_:=⟨_,rfl⟩
          replace H:(if 0≤(ji20) then (if (ji20) < (l0.length:Int) then ((strings_Compare.f ((rd_T30 l0 (ji20)).f0) ((rd_T30 l0 x9_1).f0)).bind fun t148=>(if t148≥0 then (some (0,1)) else (leaf_Size.l0 k1 l0 (wrap64 (x4_1+(wrap64 (5+(((rd_T30 l0 x9_1).f0).size:Int))))) l0 (l0.length:Int) (wrap64 (x9_1+1))))) else (none)) else (none))=some (r1,r2):=by first|(rw [hji20] at H;exact H)|(simp only [hji20] at H ⊢;exact H)
          (try rw [hji20] at A5)
          have hji20w:(IntKind.i64.wrap (x9_1 - 1))=ji20:=(i64_w _).trans hji20
          (try rw [hji20] at c2b0)
          (try rw [hji20] at c3b0)
          (try rw [hji20] at c4b0)
          (try rw [hji20] at c7b0)
          (try rw [hji20] at c13b0)
          (try rw [hji20] at c19b0)
          by_cases c21:0≤(ji20)
          ·rw [if_pos c21] at H
           have c21b0:decide (0≤(ji20))=true:=decide_eq_true c21
           clear c21
           by_cases c22:(ji20) < (l0.length:Int)
           ·rw [if_pos c22] at H
            have c22b0:decide ((ji20) < (l0.length:Int))=true:=decide_eq_true c22
            clear c22
            replace H:=Option.bind_eq_some_iff.mp H
            obtain ⟨t148,A230,H⟩:=H
            replace H:(if t148≥0 then (some (0,1)) else (leaf_Size.l0 k1 l0 (wrap64 (x4_1+(wrap64 (5+(((rd_T30 l0 x9_1).f0).size:Int))))) l0 (l0.length:Int) (wrap64 (x9_1+1))))=some (r1,r2):=H
            have A23:=am A230
            clear A230
            by_cases c24:t148≥0
            ·rw [if_pos c24] at H
             have c24b0:decide (0≤t148)=true:=decide_eq_true c24
             clear c24
             simp only [Option.some.injEq,Prod.mk.injEq] at H
             obtain ⟨rfl,rfl⟩:=H
             have p144:0≤(x9_1:Int):=od
             have q144:x9_1 < (l0.length:Int):=od
             obtain ⟨ad144,e144,hx144_0,hx144_1⟩:=at_T30 HR0.out x9_1 p144 q144
             cases e144
             replace hx144_0:=hB HB hx144_0
             replace hx144_1:=hB HB hx144_1
             replace p144:=eq_true p144;replace q144:=eq_true q144
             try go_wp2_with (first|((with_reducible refine gate_dst (N:=6) rfl ?_);refine box_event ?hg (N:=6) ?hd (cs:=#[.string (⟨#[]⟩:ByteArray),.int .i64 0]) (t:=30) ?hr ?_;(case hd=>rfl);(case hg=>rfl);(case hr=>first|(go_simp;done)|(go_simp;rfl));intro gb145 hg w25 hbox hb;have n0_:=bst HB hb;have n1_:=am (hbox);have n2_:=am ((gz hg HB));have n3_:=am ((gz hg HB));clear HB;have HB:=n0_;have BK145:=n1_;have GW145:=n2_;have GE145:=n3_;clear n0_ n1_ n2_ n3_;clear hb hbox hg;have hcz26_0:w25.cell? ⟨gb145,0,none⟩=some (.string (⟨#[]⟩:ByteArray)):=kC BK145 0;have hcz26_1:w25.cell? ⟨gb145,1,none⟩=some (.int .i64 0):=kC BK145 1;have hfz26_0:=blk_frozen BK145.out 0;have hfz26_1:=blk_frozen BK145.out 1))
             have n0_:Aside0 (((w25.setCell ⟨gb145,0,none⟩ (.string ((rd_T30 l0 x9_1).f0))).setCell ⟨gb145,1,none⟩ (.int .i64 ((rd_T30 l0 x9_1).f1))).heap[gb145]? = some (.cells #[.string ((rd_T30 l0 x9_1).f0),.int .i64 ((rd_T30 l0 x9_1).f1)] 30 (0,0))):=⟨by (with_reducible repeat (first|refine blk_drewN ?_ _|refine blk_drew ?_|refine blk_alloc ?_ _));refine blk_put (cs:=#[.string ((rd_T30 l0 x9_1).f0),.int .i64 0]) ?_ 1 _ rfl;(with_reducible repeat (first|refine blk_drewN ?_ _|refine blk_drew ?_|refine blk_alloc ?_ _));refine blk_put (cs:=#[.string (⟨#[]⟩:ByteArray),.int .i64 0]) ?_ 0 _ rfl;(with_reducible repeat (first|refine blk_drewN ?_ _|refine blk_drew ?_|refine blk_alloc ?_ _));exact BK145.out⟩
             have n1_:Aside0 (Below w.heap.size w ((w25.setCell ⟨gb145,0,none⟩ (.string ((rd_T30 l0 x9_1).f0))).setCell ⟨gb145,1,none⟩ (.int .i64 ((rd_T30 l0 x9_1).f1)))):=⟨bxs HB GE145⟩
             (try clear BK145)
             (try clear HB)
             generalize ((w25.setCell ⟨gb145,0,none⟩ (.string ((rd_T30 l0 x9_1).f0))).setCell ⟨gb145,1,none⟩ (.int .i64 ((rd_T30 l0 x9_1).f1)))=w27 at n0_ n1_ ⊢
             have BK145:=n0_;have HB:=n1_;clear n0_ n1_
             have n0_:=am (blk_drew BK145.out)
             have n1_:=am (below_drew1 HB.out)
             clear BK145;clear HB;have BK145:=n0_;have HB:=n1_;clear n0_ n1_
             have p147:0≤((ji20):Int):=od
             have q147:(ji20) < (l0.length:Int):=od
             obtain ⟨ad147,e147,hx147_0,hx147_1⟩:=at_T30 HR0.out (ji20) p147 q147
             have hw147_1:=hx147_1;have hw147_0:=hx147_0
             obtain rfl:ad144=ad147:=(by injection e147)
             replace hx147_0:=hB HB hx147_0
             replace hx147_1:=hB HB hx147_1
             replace p147:=eq_true p147;replace q147:=eq_true q147
             refine start_ (n:=30) (S:=fun w'=>w'.cell? ⟨gb145,0,none⟩=some (.string ((rd_T30 l0 x9_1).f0))∧w'.cell? ⟨gb145,1,none⟩=some (.int .i64 ((rd_T30 l0 x9_1).f1))∧w'.cell? (ad144.add (((ji20)).toNat*2))=some (.string ((rd_T30 l0 (ji20)).f0))∧w'.cell? ⟨(ad144.add (((ji20)).toNat*2)).block,(ad144.add (((ji20)).toNat*2)).off+1,none⟩=some (.int .i64 ((rd_T30 l0 (ji20)).f1))) (ds:=[]) _ (by kernel_rfl) rfl rfl ⟨kC BK145 0,kC BK145 1,(hB HB hw147_0),(hB HB hw147_1)⟩ (fun hHeld=>?_);refine with_tabW leaf_Size.tab5 leaf_Size.bits5 (fun HT_ HW_=>?_)
             generalize w27.drew=w28 at BK145 HB hx147_0 hx147_1 hHeld ⊢
             refine pS 0 14 HT_ ?_;refine tS 1 15 HT_ HW_ hHeld ?_ (hy:=by rintro w' ⟨s0,s1,s2,s3⟩;go_simp;with_reducible rfl)
             refine oS 2 (some 16) HT_ (fun K hK=>?_)
             refine gS Try.func48 #[.string ((rd_T30 l0 x9_1).f0)] ?_
             with_reducible refine (leaf_May.calls ((rd_T30 l0 x9_1).f0) true _ A5.out).mono ?_
             rintro e w29 ⟨rfl,hb⟩
             refine ⟨_,rfl,?_⟩
             have n0_:=am (blk_below (g:=gb145) (o:=.cells #[.string ((rd_T30 l0 x9_1).f0),.int .i64 ((rd_T30 l0 x9_1).f1)] 30 (0,0)) (rK BK145) hb)
             have n1_:=am (below_step (bxs HB GE145) hb)
             clear BK145;clear HB;have BK145:=n0_;have HB:=n1_;clear n0_ n1_
             (try clear hb)
             (try clear hb2)
             (try clear hk)
             (try clear hi)
             refine hK.out _ _ ⟨kC BK145 0,kC BK145 1,(hB HB hw147_0),(hB HB hw147_1)⟩ (fun hHeld=>?_)
             clear hK K;refine norm_ (a':=?_) ?_ ?_;rotate_left
             ·show Act.put _ (some 16) _=_
              simp only [Act.put,sIb,sC0,sCs,i64_w,i32_w];rfl
             refine pS 3 17 HT_ ?_;refine pS 4 18 HT_ ?_;refine pS 5 19 HT_ ?_;refine tS 6 20 HT_ HW_ hHeld ?_ (hy:=by rintro w' ⟨s0,s1,s2,s3⟩;go_simp;with_reducible rfl);refine pS 7 21 HT_ ?_;refine pS 8 22 HT_ ?_;refine pS 9 23 HT_ ?_;refine pS 10 24 HT_ ?_;refine tS 11 25 HT_ HW_ hHeld ?_ (hy:=by rintro w' ⟨s0,s1,s2,s3⟩;go_simp;with_reducible rfl);refine pS 12 26 HT_ ?_;refine pS 13 27 HT_ ?_;refine pS 14 28 HT_ ?_;refine pS 15 29 HT_ ?_;refine pS 16 30 HT_ ?_;refine pS 17 31 HT_ ?_;refine pS 18 32 HT_ ?_;refine pS 19 33 HT_ ?_;refine pS 20 34 HT_ ?_;refine pS 21 35 HT_ ?_;refine pS 22 36 HT_ ?_;refine pS 24 38 HT_ ?_;refine tS 23 37 HT_ HW_ hHeld ?_ (hy:=by rintro w' ⟨s0,s1,s2,s3⟩;go_simp;with_reducible rfl);refine tS 25 39 HT_ HW_ hHeld ?_ (hy:=by rintro w' ⟨s0,s1,s2,s3⟩;go_simp;with_reducible rfl)
             refine oS 26 (some 40) HT_ (fun K hK=>?_)
             refine goes_ Try.func42 (by kernel_rfl) rfl #[.string ((rd_T30 l0 (ji20)).f0),.string ((rd_T30 l0 x9_1).f0)] (by rfl) rfl rfl (by (try simp only [List.map_toArray,List.map_cons,List.map_nil]);first|done|(simp only [hji20];rfl)|rfl|(simp only [List.length_drop,List.length_take];rfl)) ?_
             with_reducible refine (strings_Compare.calls ((rd_T30 l0 (ji20)).f0) ((rd_T30 l0 x9_1).f0) t148 _ A23.out).mono ?_
             rintro e w' ⟨rfl,⟨nd,rfl⟩⟩
             refine ⟨_,rfl,?_⟩
             refine hK.out _ _ ⟨kC BK145 0,kC BK145 1,(hB HB hw147_0),(hB HB hw147_1)⟩ (fun hHeld=>?_)
             clear hK K;refine norm_ (a':=?_) ?_ ?_;rotate_left
             ·show Act.put _ (some 40) _=_
              simp only [Act.put,sIb,sC0,sCs,i64_w,i32_w];rfl
             refine pS 27 41 HT_ ?_;refine pS 28 42 HT_ ?_;refine pS 29 43 HT_ ?_
             refine done_ (done_of HT_.out (by kernel_rfl)) ?_
             try go_wp2
             go_ret2
             exact ⟨by first|rfl|(simp [errW_none,errW_some]<;>rfl)|(simp only [← hji20];first|rfl|(simp [errW_none,errW_some]<;>rfl))|(simp [*,errW_none,errW_some]<;>rfl),bxs HB GE145⟩
            ·rw [if_neg c24] at H
             have c24b0:decide (0≤t148)=false:=decide_eq_false c24
             clear c24
             have H':=am H
             clear H
             have p144:0≤(x9_1:Int):=od
             have q144:x9_1 < (l0.length:Int):=od
             obtain ⟨ad144,e144,hx144_0,hx144_1⟩:=at_T30 HR0.out x9_1 p144 q144
             cases e144
             replace hx144_0:=hB HB hx144_0
             replace hx144_1:=hB HB hx144_1
             replace p144:=eq_true p144;replace q144:=eq_true q144
             try go_wp2_with (first|((with_reducible refine gate_dst (N:=6) rfl ?_);refine box_event ?hg (N:=6) ?hd (cs:=#[.string (⟨#[]⟩:ByteArray),.int .i64 0]) (t:=30) ?hr ?_;(case hd=>rfl);(case hg=>rfl);(case hr=>first|(go_simp;done)|(go_simp;rfl));intro gb145 hg w30 hbox hb;have n0_:=bst HB hb;have n1_:=am (hbox);have n2_:=am ((gz hg HB));have n3_:=am ((gz hg HB));clear HB;have HB:=n0_;have BK145:=n1_;have GW145:=n2_;have GE145:=n3_;clear n0_ n1_ n2_ n3_;clear hb hbox hg;have hcz31_0:w30.cell? ⟨gb145,0,none⟩=some (.string (⟨#[]⟩:ByteArray)):=kC BK145 0;have hcz31_1:w30.cell? ⟨gb145,1,none⟩=some (.int .i64 0):=kC BK145 1;have hfz31_0:=blk_frozen BK145.out 0;have hfz31_1:=blk_frozen BK145.out 1))
             have n0_:Aside0 (((w30.setCell ⟨gb145,0,none⟩ (.string ((rd_T30 l0 x9_1).f0))).setCell ⟨gb145,1,none⟩ (.int .i64 ((rd_T30 l0 x9_1).f1))).heap[gb145]? = some (.cells #[.string ((rd_T30 l0 x9_1).f0),.int .i64 ((rd_T30 l0 x9_1).f1)] 30 (0,0))):=⟨by (with_reducible repeat (first|refine blk_drewN ?_ _|refine blk_drew ?_|refine blk_alloc ?_ _));refine blk_put (cs:=#[.string ((rd_T30 l0 x9_1).f0),.int .i64 0]) ?_ 1 _ rfl;(with_reducible repeat (first|refine blk_drewN ?_ _|refine blk_drew ?_|refine blk_alloc ?_ _));refine blk_put (cs:=#[.string (⟨#[]⟩:ByteArray),.int .i64 0]) ?_ 0 _ rfl;(with_reducible repeat (first|refine blk_drewN ?_ _|refine blk_drew ?_|refine blk_alloc ?_ _));exact BK145.out⟩
             have n1_:Aside0 (Below w.heap.size w ((w30.setCell ⟨gb145,0,none⟩ (.string ((rd_T30 l0 x9_1).f0))).setCell ⟨gb145,1,none⟩ (.int .i64 ((rd_T30 l0 x9_1).f1)))):=⟨bxs HB GE145⟩
             (try clear BK145)
             (try clear HB)
             generalize ((w30.setCell ⟨gb145,0,none⟩ (.string ((rd_T30 l0 x9_1).f0))).setCell ⟨gb145,1,none⟩ (.int .i64 ((rd_T30 l0 x9_1).f1)))=w32 at n0_ n1_ ⊢
             have BK145:=n0_;have HB:=n1_;clear n0_ n1_
             have n0_:=am (blk_drew BK145.out)
             have n1_:=am (below_drew1 HB.out)
             clear BK145;clear HB;have BK145:=n0_;have HB:=n1_;clear n0_ n1_
             have p147:0≤((ji20):Int):=od
             have q147:(ji20) < (l0.length:Int):=od
             obtain ⟨ad147,e147,hx147_0,hx147_1⟩:=at_T30 HR0.out (ji20) p147 q147
             have hw147_1:=hx147_1;have hw147_0:=hx147_0
             obtain rfl:ad144=ad147:=(by injection e147)
             replace hx147_0:=hB HB hx147_0
             replace hx147_1:=hB HB hx147_1
             replace p147:=eq_true p147;replace q147:=eq_true q147
             refine start_ (n:=30) (S:=fun w'=>w'.cell? ⟨gb145,0,none⟩=some (.string ((rd_T30 l0 x9_1).f0))∧w'.cell? ⟨gb145,1,none⟩=some (.int .i64 ((rd_T30 l0 x9_1).f1))∧w'.cell? (ad144.add (((ji20)).toNat*2))=some (.string ((rd_T30 l0 (ji20)).f0))∧w'.cell? ⟨(ad144.add (((ji20)).toNat*2)).block,(ad144.add (((ji20)).toNat*2)).off+1,none⟩=some (.int .i64 ((rd_T30 l0 (ji20)).f1))) (ds:=[]) _ (by kernel_rfl) rfl rfl ⟨kC BK145 0,kC BK145 1,(hB HB hw147_0),(hB HB hw147_1)⟩ (fun hHeld=>?_);refine with_tabW leaf_Size.tab5 leaf_Size.bits5 (fun HT_ HW_=>?_)
             generalize w32.drew=w33 at BK145 HB hx147_0 hx147_1 hHeld ⊢
             refine pS 0 14 HT_ ?_;refine tS 1 15 HT_ HW_ hHeld ?_ (hy:=by rintro w' ⟨s0,s1,s2,s3⟩;go_simp;with_reducible rfl)
             refine oS 2 (some 16) HT_ (fun K hK=>?_)
             refine gS Try.func48 #[.string ((rd_T30 l0 x9_1).f0)] ?_
             with_reducible refine (leaf_May.calls ((rd_T30 l0 x9_1).f0) true _ A5.out).mono ?_
             rintro e w34 ⟨rfl,hb⟩
             refine ⟨_,rfl,?_⟩
             have n0_:=am (blk_below (g:=gb145) (o:=.cells #[.string ((rd_T30 l0 x9_1).f0),.int .i64 ((rd_T30 l0 x9_1).f1)] 30 (0,0)) (rK BK145) hb)
             have n1_:=am (below_step (bxs HB GE145) hb)
             clear BK145;clear HB;have BK145:=n0_;have HB:=n1_;clear n0_ n1_
             (try clear hb)
             (try clear hb2)
             (try clear hk)
             (try clear hi)
             refine hK.out _ _ ⟨kC BK145 0,kC BK145 1,(hB HB hw147_0),(hB HB hw147_1)⟩ (fun hHeld=>?_)
             clear hK K;refine norm_ (a':=?_) ?_ ?_;rotate_left
             ·show Act.put _ (some 16) _=_
              simp only [Act.put,sIb,sC0,sCs,i64_w,i32_w];rfl
             refine pS 3 17 HT_ ?_;refine pS 4 18 HT_ ?_;refine pS 5 19 HT_ ?_;refine tS 6 20 HT_ HW_ hHeld ?_ (hy:=by rintro w' ⟨s0,s1,s2,s3⟩;go_simp;with_reducible rfl);refine pS 7 21 HT_ ?_;refine pS 8 22 HT_ ?_;refine pS 9 23 HT_ ?_;refine pS 10 24 HT_ ?_;refine tS 11 25 HT_ HW_ hHeld ?_ (hy:=by rintro w' ⟨s0,s1,s2,s3⟩;go_simp;with_reducible rfl);refine pS 12 26 HT_ ?_;refine pS 13 27 HT_ ?_;refine pS 14 28 HT_ ?_;refine pS 15 29 HT_ ?_;refine pS 16 30 HT_ ?_;refine pS 17 31 HT_ ?_;refine pS 18 32 HT_ ?_;refine pS 19 33 HT_ ?_;refine pS 20 34 HT_ ?_;refine pS 21 35 HT_ ?_;refine pS 22 36 HT_ ?_;refine pS 24 38 HT_ ?_;refine tS 23 37 HT_ HW_ hHeld ?_ (hy:=by rintro w' ⟨s0,s1,s2,s3⟩;go_simp;with_reducible rfl);refine tS 25 39 HT_ HW_ hHeld ?_ (hy:=by rintro w' ⟨s0,s1,s2,s3⟩;go_simp;with_reducible rfl)
             refine oS 26 (some 40) HT_ (fun K hK=>?_)
             refine goes_ Try.func42 (by kernel_rfl) rfl #[.string ((rd_T30 l0 (ji20)).f0),.string ((rd_T30 l0 x9_1).f0)] (by rfl) rfl rfl (by (try simp only [List.map_toArray,List.map_cons,List.map_nil]);first|done|(simp only [hji20];rfl)|rfl|(simp only [List.length_drop,List.length_take];rfl)) ?_
             with_reducible refine (strings_Compare.calls ((rd_T30 l0 (ji20)).f0) ((rd_T30 l0 x9_1).f0) t148 _ A23.out).mono ?_
             rintro e w' ⟨rfl,⟨nd,rfl⟩⟩
             refine ⟨_,rfl,?_⟩
             refine hK.out _ _ ⟨kC BK145 0,kC BK145 1,(hB HB hw147_0),(hB HB hw147_1)⟩ (fun hHeld=>?_)
             clear hK K;refine norm_ (a':=?_) ?_ ?_;rotate_left
             ·show Act.put _ (some 40) _=_
              simp only [Act.put,sIb,sC0,sCs,i64_w,i32_w];rfl
             refine pS 27 41 HT_ ?_;refine pS 28 42 HT_ ?_;refine pS 29 43 HT_ ?_
             refine done_ (done_of HT_.out (by kernel_rfl)) ?_
             have hcz35_0:w34.cell? ⟨gb145,0,none⟩=some (.string ((rd_T30 l0 x9_1).f0)):=kC BK145 0
             have hcz35_1:w34.cell? ⟨gb145,1,none⟩=some (.int .i64 ((rd_T30 l0 x9_1).f1)):=kC BK145 1
             have hfz35_0:=blk_frozen BK145.out 0
             have hfz35_1:=blk_frozen BK145.out 1
             try go_wp2
             go_roundg k1
             case measure=>have:=HK1.out;omega
             case rel=>exact ⟨(wrap64 (x4_1+(wrap64 (5+(((rd_T30 l0 x9_1).f0).size:Int))))),(wrap64 (x9_1+1)),(by first|rfl|(simp;done)|(simp [*];done)),(by first|rfl|(simp;done)|(simp [*];done)),H',⟨by have:=HK1.out;omega⟩,⟨bxs HB GE145⟩⟩
           ·rw [if_neg c22] at H
            exact absurd H (by simp)
          ·rw [if_neg c21] at H
           exact absurd H (by simp)
         ·rw [if_neg c19] at H
          have c19b0:decide (0 < x9_1)=false:=decide_eq_false c19
          clear c19
          have H':=am H
          clear H
          have p144:0≤(x9_1:Int):=od
          have q144:x9_1 < (l0.length:Int):=od
          obtain ⟨ad144,e144,hx144_0,hx144_1⟩:=at_T30 HR0.out x9_1 p144 q144
          cases e144
          replace hx144_0:=hB HB hx144_0
          replace hx144_1:=hB HB hx144_1
          replace p144:=eq_true p144;replace q144:=eq_true q144
          try go_wp2_with (first|((with_reducible refine gate_dst (N:=6) rfl ?_);refine box_event ?hg (N:=6) ?hd (cs:=#[.string (⟨#[]⟩:ByteArray),.int .i64 0]) (t:=30) ?hr ?_;(case hd=>rfl);(case hg=>rfl);(case hr=>first|(go_simp;done)|(go_simp;rfl));intro gb145 hg w36 hbox hb;have n0_:=bst HB hb;have n1_:=am (hbox);have n2_:=am ((gz hg HB));have n3_:=am ((gz hg HB));clear HB;have HB:=n0_;have BK145:=n1_;have GW145:=n2_;have GE145:=n3_;clear n0_ n1_ n2_ n3_;clear hb hbox hg;have hcz37_0:w36.cell? ⟨gb145,0,none⟩=some (.string (⟨#[]⟩:ByteArray)):=kC BK145 0;have hcz37_1:w36.cell? ⟨gb145,1,none⟩=some (.int .i64 0):=kC BK145 1;have hfz37_0:=blk_frozen BK145.out 0;have hfz37_1:=blk_frozen BK145.out 1))
          have n0_:Aside0 (((w36.setCell ⟨gb145,0,none⟩ (.string ((rd_T30 l0 x9_1).f0))).setCell ⟨gb145,1,none⟩ (.int .i64 ((rd_T30 l0 x9_1).f1))).heap[gb145]? = some (.cells #[.string ((rd_T30 l0 x9_1).f0),.int .i64 ((rd_T30 l0 x9_1).f1)] 30 (0,0))):=⟨by (with_reducible repeat (first|refine blk_drewN ?_ _|refine blk_drew ?_|refine blk_alloc ?_ _));refine blk_put (cs:=#[.string ((rd_T30 l0 x9_1).f0),.int .i64 0]) ?_ 1 _ rfl;(with_reducible repeat (first|refine blk_drewN ?_ _|refine blk_drew ?_|refine blk_alloc ?_ _));refine blk_put (cs:=#[.string (⟨#[]⟩:ByteArray),.int .i64 0]) ?_ 0 _ rfl;(with_reducible repeat (first|refine blk_drewN ?_ _|refine blk_drew ?_|refine blk_alloc ?_ _));exact BK145.out⟩
          have n1_:Aside0 (Below w.heap.size w ((w36.setCell ⟨gb145,0,none⟩ (.string ((rd_T30 l0 x9_1).f0))).setCell ⟨gb145,1,none⟩ (.int .i64 ((rd_T30 l0 x9_1).f1)))):=⟨bxs HB GE145⟩
          (try clear BK145)
          (try clear HB)
          generalize ((w36.setCell ⟨gb145,0,none⟩ (.string ((rd_T30 l0 x9_1).f0))).setCell ⟨gb145,1,none⟩ (.int .i64 ((rd_T30 l0 x9_1).f1)))=w38 at n0_ n1_ ⊢
          have BK145:=n0_;have HB:=n1_;clear n0_ n1_
          have n0_:=am (blk_drew BK145.out)
          have n1_:=am (below_drew1 HB.out)
          clear BK145;clear HB;have BK145:=n0_;have HB:=n1_;clear n0_ n1_
          refine start_ (n:=30) (S:=fun w'=>w'.cell? ⟨gb145,0,none⟩=some (.string ((rd_T30 l0 x9_1).f0))∧w'.cell? ⟨gb145,1,none⟩=some (.int .i64 ((rd_T30 l0 x9_1).f1))) (ds:=[]) _ (by kernel_rfl) rfl rfl ⟨kC BK145 0,kC BK145 1⟩ (fun hHeld=>?_);refine with_tabW leaf_Size.tab5 leaf_Size.bits5 (fun HT_ HW_=>?_)
          generalize w38.drew=w39 at BK145 HB hHeld ⊢
          refine pS 0 14 HT_ ?_;refine tS 1 15 HT_ HW_ hHeld ?_ (hy:=by rintro w' ⟨s0,s1⟩;go_simp;with_reducible rfl)
          refine oS 2 (some 16) HT_ (fun K hK=>?_)
          refine gS Try.func48 #[.string ((rd_T30 l0 x9_1).f0)] ?_
          with_reducible refine (leaf_May.calls ((rd_T30 l0 x9_1).f0) true _ A5.out).mono ?_
          rintro e w40 ⟨rfl,hb⟩
          refine ⟨_,rfl,?_⟩
          have n0_:=am (blk_below (g:=gb145) (o:=.cells #[.string ((rd_T30 l0 x9_1).f0),.int .i64 ((rd_T30 l0 x9_1).f1)] 30 (0,0)) (rK BK145) hb)
          have n1_:=am (below_step (bxs HB GE145) hb)
          clear BK145;clear HB;have BK145:=n0_;have HB:=n1_;clear n0_ n1_
          (try clear hb)
          (try clear hb2)
          (try clear hk)
          (try clear hi)
          refine hK.out _ _ ⟨kC BK145 0,kC BK145 1⟩ (fun hHeld=>?_)
          clear hK K;refine norm_ (a':=?_) ?_ ?_;rotate_left
          ·show Act.put _ (some 16) _=_
           simp only [Act.put,sIb,sC0,sCs,i64_w,i32_w];rfl
          refine pS 3 17 HT_ ?_;refine pS 4 18 HT_ ?_;refine pS 5 19 HT_ ?_;refine tS 6 20 HT_ HW_ hHeld ?_ (hy:=by rintro w' ⟨s0,s1⟩;go_simp;with_reducible rfl);refine pS 7 21 HT_ ?_;refine pS 8 22 HT_ ?_;refine pS 9 23 HT_ ?_;refine pS 10 24 HT_ ?_;refine tS 11 25 HT_ HW_ hHeld ?_ (hy:=by rintro w' ⟨s0,s1⟩;go_simp;with_reducible rfl);refine pS 12 26 HT_ ?_;refine pS 13 27 HT_ ?_;refine pS 14 28 HT_ ?_;refine pS 15 29 HT_ ?_;refine pS 16 30 HT_ ?_;refine pS 17 31 HT_ ?_;refine uS 18 32 HT_ ?_;refine uS 19 33 HT_ ?_;refine uS 20 34 HT_ ?_;refine uS 21 35 HT_ ?_;refine uS 22 36 HT_ ?_;refine uS 23 37 HT_ ?_;refine uS 24 38 HT_ ?_;refine uS 25 39 HT_ ?_;refine uS 26 40 HT_ ?_;refine uS 27 41 HT_ ?_;refine pS 28 42 HT_ ?_;refine pS 29 43 HT_ ?_
          refine done_ (done_of HT_.out (by kernel_rfl)) ?_
          have hcz41_0:w40.cell? ⟨gb145,0,none⟩=some (.string ((rd_T30 l0 x9_1).f0)):=kC BK145 0
          have hcz41_1:w40.cell? ⟨gb145,1,none⟩=some (.int .i64 ((rd_T30 l0 x9_1).f1)):=kC BK145 1
          have hfz41_0:=blk_frozen BK145.out 0
          have hfz41_1:=blk_frozen BK145.out 1
          try go_wp2
          go_roundg k1
          case measure=>have:=HK1.out;omega
          case rel=>exact ⟨(wrap64 (x4_1+(wrap64 (5+(((rd_T30 l0 x9_1).f0).size:Int))))),(wrap64 (x9_1+1)),(by first|rfl|(simp;done)|(simp [*];done)),(by first|rfl|(simp;done)|(simp [*];done)),H',⟨by have:=HK1.out;omega⟩,⟨bxs HB GE145⟩⟩
      ·replace c6:=Bool.eq_false_iff.mpr c6
       subst c6
       have H1:(some (0,1))=some (r1,r2):=by rw [if_neg (show ¬ (false=true) by decide)] at H;exact H
       clear H;have H:=H1;clear H1
       simp only [Option.some.injEq,Prod.mk.injEq] at H
       obtain ⟨rfl,rfl⟩:=H
       have p144:0≤(x9_1:Int):=od
       have q144:x9_1 < (l0.length:Int):=od
       obtain ⟨ad144,e144,hx144_0,hx144_1⟩:=at_T30 HR0.out x9_1 p144 q144
       cases e144
       replace hx144_0:=hB HB hx144_0
       replace hx144_1:=hB HB hx144_1
       replace p144:=eq_true p144;replace q144:=eq_true q144
       try go_wp2_with (first|((with_reducible refine gate_dst (N:=6) rfl ?_);refine box_event ?hg (N:=6) ?hd (cs:=#[.string (⟨#[]⟩:ByteArray),.int .i64 0]) (t:=30) ?hr ?_;(case hd=>rfl);(case hg=>rfl);(case hr=>first|(go_simp;done)|(go_simp;rfl));intro gb145 hg w42 hbox hb;have n0_:=bst HB hb;have n1_:=am (hbox);have n2_:=am ((gz hg HB));have n3_:=am ((gz hg HB));clear HB;have HB:=n0_;have BK145:=n1_;have GW145:=n2_;have GE145:=n3_;clear n0_ n1_ n2_ n3_;clear hb hbox hg;have hcz43_0:w42.cell? ⟨gb145,0,none⟩=some (.string (⟨#[]⟩:ByteArray)):=kC BK145 0;have hcz43_1:w42.cell? ⟨gb145,1,none⟩=some (.int .i64 0):=kC BK145 1;have hfz43_0:=blk_frozen BK145.out 0;have hfz43_1:=blk_frozen BK145.out 1))
       have n0_:Aside0 (((w42.setCell ⟨gb145,0,none⟩ (.string ((rd_T30 l0 x9_1).f0))).setCell ⟨gb145,1,none⟩ (.int .i64 ((rd_T30 l0 x9_1).f1))).heap[gb145]? = some (.cells #[.string ((rd_T30 l0 x9_1).f0),.int .i64 ((rd_T30 l0 x9_1).f1)] 30 (0,0))):=⟨by (with_reducible repeat (first|refine blk_drewN ?_ _|refine blk_drew ?_|refine blk_alloc ?_ _));refine blk_put (cs:=#[.string ((rd_T30 l0 x9_1).f0),.int .i64 0]) ?_ 1 _ rfl;(with_reducible repeat (first|refine blk_drewN ?_ _|refine blk_drew ?_|refine blk_alloc ?_ _));refine blk_put (cs:=#[.string (⟨#[]⟩:ByteArray),.int .i64 0]) ?_ 0 _ rfl;(with_reducible repeat (first|refine blk_drewN ?_ _|refine blk_drew ?_|refine blk_alloc ?_ _));exact BK145.out⟩
       have n1_:Aside0 (Below w.heap.size w ((w42.setCell ⟨gb145,0,none⟩ (.string ((rd_T30 l0 x9_1).f0))).setCell ⟨gb145,1,none⟩ (.int .i64 ((rd_T30 l0 x9_1).f1)))):=⟨bxs HB GE145⟩
       (try clear BK145)
       (try clear HB)
       generalize ((w42.setCell ⟨gb145,0,none⟩ (.string ((rd_T30 l0 x9_1).f0))).setCell ⟨gb145,1,none⟩ (.int .i64 ((rd_T30 l0 x9_1).f1)))=w44 at n0_ n1_ ⊢
       have BK145:=n0_;have HB:=n1_;clear n0_ n1_
       have n0_:=am (blk_drew BK145.out)
       have n1_:=am (below_drew1 HB.out)
       clear BK145;clear HB;have BK145:=n0_;have HB:=n1_;clear n0_ n1_
       refine start_ (n:=30) (S:=fun w'=>w'.cell? ⟨gb145,0,none⟩=some (.string ((rd_T30 l0 x9_1).f0))∧w'.cell? ⟨gb145,1,none⟩=some (.int .i64 ((rd_T30 l0 x9_1).f1))) (ds:=[]) _ (by kernel_rfl) rfl rfl ⟨kC BK145 0,kC BK145 1⟩ (fun hHeld=>?_);refine with_tabW leaf_Size.tab5 leaf_Size.bits5 (fun HT_ HW_=>?_)
       generalize w44.drew=w45 at BK145 HB hHeld ⊢
       refine pS 0 14 HT_ ?_;refine tS 1 15 HT_ HW_ hHeld ?_ (hy:=by rintro w' ⟨s0,s1⟩;go_simp;with_reducible rfl)
       refine oS 2 (some 16) HT_ (fun K hK=>?_)
       refine gS Try.func48 #[.string ((rd_T30 l0 x9_1).f0)] ?_
       with_reducible refine (leaf_May.calls ((rd_T30 l0 x9_1).f0) false _ A5.out).mono ?_
       rintro e w46 ⟨rfl,hb⟩
       refine ⟨_,rfl,?_⟩
       have n0_:=am (blk_below (g:=gb145) (o:=.cells #[.string ((rd_T30 l0 x9_1).f0),.int .i64 ((rd_T30 l0 x9_1).f1)] 30 (0,0)) (rK BK145) hb)
       have n1_:=am (below_step (bxs HB GE145) hb)
       clear BK145;clear HB;have BK145:=n0_;have HB:=n1_;clear n0_ n1_
       (try clear hb)
       (try clear hb2)
       (try clear hk)
       (try clear hi)
       refine hK.out _ _ ⟨kC BK145 0,kC BK145 1⟩ (fun hHeld=>?_)
       clear hK K;refine norm_ (a':=?_) ?_ ?_;rotate_left
       ·show Act.put _ (some 16) _=_
        simp only [Act.put,sIb,sC0,sCs,i64_w,i32_w];rfl
       refine pS 3 17 HT_ ?_;refine pS 4 18 HT_ ?_;refine uS 5 19 HT_ ?_;refine uS 6 20 HT_ ?_;refine uS 7 21 HT_ ?_;refine pS 8 22 HT_ ?_;refine pS 9 23 HT_ ?_;refine uS 10 24 HT_ ?_;refine uS 11 25 HT_ ?_;refine uS 12 26 HT_ ?_;refine pS 13 27 HT_ ?_;refine pS 14 28 HT_ ?_;refine uS 15 29 HT_ ?_;refine uS 16 30 HT_ ?_;refine uS 17 31 HT_ ?_;refine uS 18 32 HT_ ?_;refine uS 19 33 HT_ ?_;refine uS 20 34 HT_ ?_;refine uS 21 35 HT_ ?_;refine uS 22 36 HT_ ?_;refine uS 23 37 HT_ ?_;refine uS 24 38 HT_ ?_;refine uS 25 39 HT_ ?_;refine uS 26 40 HT_ ?_;refine uS 27 41 HT_ ?_;refine uS 28 42 HT_ ?_;refine pS 29 43 HT_ ?_
       refine done_ (done_of HT_.out (by kernel_rfl)) ?_
       try go_wp2
       go_ret2
       exact ⟨by first|rfl|(simp [errW_none,errW_some]<;>rfl)|(simp [*,errW_none,errW_some]<;>rfl),bxs HB GE145⟩
     ·rw [if_neg c4] at H
      exact absurd H (by simp)
    ·rw [if_neg c3] at H
     exact absurd H (by simp)
   ·rw [if_neg c2] at H
    have c2b0:decide (x9_1 < (l0.length:Int))=false:=decide_eq_false c2
    clear c2
    simp only [Option.some.injEq,Prod.mk.injEq] at H
    obtain ⟨rfl,rfl⟩:=H
    go_wp2
    go_ret2
    exact ⟨by first|rfl|(simp [errW_none,errW_some]<;>rfl)|(simp [*,errW_none,errW_some]<;>rfl),bb HB⟩
mutual
def r_11_May.j0:Nat→ByteArray→Bool→Option (Bool)
 | 0,_,_=>none
 | k+1,x0,x19=>if x19=true then (some false) else (r_11_May.l0 k x0 0)
def r_11_May.l0:Nat→ByteArray→Int→Option (Bool)
 | 0,_,_=>none
 | k+1,x0,x3=>if x3 < (x0.size:Int) then (if 0≤x3 then (if (bt x0 x3)=0 then (some false) else (if (bt x0 x3)=47 then (some false) else (r_11_May.l0 k x0 (wrap64 (x3+1))))) else (none)) else (some true)
end
def r_11_May.f (k:Nat) (a0:ByteArray):Option (Bool):=if (a0.size:Int) < 1 then (r_11_May.j0 k a0 true) else (if (a0.size:Int) > 32 then (r_11_May.j0 k a0 true) else (if a0.toList=([46]:List UInt8) then (r_11_May.j0 k a0 true) else (r_11_May.j0 k a0 (a0.toList==([46,46]:List UInt8)))))
set_option maxHeartbeats 8000000 in
set_option maxRecDepth 100000 in
theorem r_11_May.calls (k:Nat) (a0:ByteArray) (r:Bool) (w:World) (h:r_11_May.f k a0=some r) :
  Calls Try.prog 16 #[.string a0] w fun e w'=>e=.returned (.bool r)∧Drawn0 w w':=by
 have H:(if (a0.size:Int) < 1 then (r_11_May.j0 k a0 true) else (if (a0.size:Int) > 32 then (r_11_May.j0 k a0 true) else (if a0.toList=([46]:List UInt8) then (r_11_May.j0 k a0 true) else (r_11_May.j0 k a0 (a0.toList==([46,46]:List UInt8))))))=some r:=h
 clear h
 have HC2:=am H
 clear H
 go_enter Try.func16,Try.ntmps16
 go_upto_region 1 with (fail)
 go_cut [19] (fun v19 wc=>∃ (kq:Nat) (x19_1:Bool),v19=.bool x19_1∧Aside0 (r_11_May.j0 kq a0 x19_1=some r)∧Aside0 (kq≤k)∧Drawn0 w wc)
 case first =>
  have H:=HC2.out
  clear HC2
  by_cases c3:(a0.size:Int) < 1
  ·rw [if_pos c3] at H
   have c3b0:decide ((a0.size:Int) < 1)=true:=decide_eq_true c3
   have c3b1:decide (a0.size < 1)=true:=decide_eq_true (by omega)
   clear c3
   (first|rw [c3b0]|(simp only [i64_w,i32_w];rw [c3b0])|skip)
   have H':=am H
   clear H;go_wp2
   go_meet
   case rel=>exact ⟨_,(true),(by first|rfl|(simp;done)|(simp [*];done)),H',⟨by first|omega|exact Nat.le_refl _⟩,by repeat (first|exact Drawn0.refl _|apply Drawn0.step)⟩
  ·rw [if_neg c3] at H
   have c3b0:decide ((a0.size:Int) < 1)=false:=decide_eq_false c3
   have c3b1:decide (a0.size < 1)=false:=decide_eq_false (by omega)
   clear c3
   (first|rw [c3b0]|(simp only [i64_w,i32_w];rw [c3b0])|skip)
   by_cases c4:(a0.size:Int) > 32
   ·rw [if_pos c4] at H
    have c4b0:decide (32 < (a0.size:Int))=true:=decide_eq_true c4
    have c4b1:decide (32 < a0.size)=true:=decide_eq_true (by omega)
    clear c4
    have H':=am H
    clear H;go_wp2
    go_meet
    case rel=>exact ⟨_,(true),(by first|rfl|(simp;done)|(simp [*];done)),H',⟨by first|omega|exact Nat.le_refl _⟩,by repeat (first|exact Drawn0.refl _|apply Drawn0.step)⟩
   ·rw [if_neg c4] at H
    have c4b0:decide (32 < (a0.size:Int))=false:=decide_eq_false c4
    have c4b1:decide (32 < a0.size)=false:=decide_eq_false (by omega)
    clear c4
    by_cases c5:a0.toList=([46]:List UInt8)
    ·rw [if_pos c5] at H
     have c5b0:(a0.toList==([46]:List UInt8))=true:=beq_iff_eq.mpr c5
     have c5b1:(a0.toList != ([46]:List UInt8))=false:=bne_eq_false_iff_eq.mpr c5
     clear c5
     have H':=am H
     clear H;go_wp2
     go_meet
     case rel=>exact ⟨_,(true),(by first|rfl|(simp;done)|(simp [*];done)),H',⟨by first|omega|exact Nat.le_refl _⟩,by repeat (first|exact Drawn0.refl _|apply Drawn0.step)⟩
    ·rw [if_neg c5] at H
     have c5b0:(a0.toList==([46]:List UInt8))=false:=beq_eq_false_iff_ne.mpr c5
     have c5b1:(a0.toList != ([46]:List UInt8))=true:=bne_iff_ne.mpr c5
     have H':=am H
     clear H;go_wp2
     go_meet
     case rel=>exact ⟨_,((a0.toList==([46,46]:List UInt8))),(by first|rfl|(simp;done)|(simp [*];done)),H',⟨by first|omega|exact Nat.le_refl _⟩,by repeat (first|exact Drawn0.refl _|apply Drawn0.step)⟩
 case rest =>
  clear HC2
  try clear c1
  try clear p2
  try clear c3
  try clear c3b0
  try clear c3b1
  try clear c4
  try clear c4b0
  try clear c4b1
  try clear c5
  try clear c5b0
  try clear c5b1
  obtain ⟨kq,x19_1,rfl,HA,HJ1,⟨mc1,rfl⟩⟩:=hcut
  cases kq with
  | zero=>exact absurd HA.out (by intro h_;cases h_)
  | succ kj1 =>
   have H:=HA.out
   clear HA
   simp only [r_11_May.j0] at H
   by_cases c6:x19_1=true
   ·subst c6
    have H1:(some false)=some r:=by rw [if_pos rfl] at H;exact H
    clear H;have H:=H1;clear H1;obtain rfl:=Option.some.inj H;go_wp2;go_ret
    exact ⟨by first|rfl|(simp;done)|(simp [*];done),by repeat (first|exact Drawn0.refl _|apply Drawn0.step)⟩
   ·replace c6:=Bool.eq_false_iff.mpr c6
    subst c6
    have H1:(r_11_May.l0 kj1 a0 0)=some r:=by rw [if_neg (show ¬ (false=true) by decide)] at H;exact H
    clear H;have H:=H1;clear H1
    have H':=am H
    clear H;go_wp2
    go_loopg [3] kj1 (fun kq v3 w'=>∃ (x3_2:Int),v3=.int .i64 x3_2∧Aside0 (r_11_May.l0 kq a0 x3_2=some r)∧Aside0 (kq≤kj1)∧Drawn0 w w')
    case atStart=>exact ⟨(0),(by first|rfl|(simp;done)|(simp [*];done)),H',⟨Nat.le_refl _⟩,by repeat (first|exact Drawn0.refl _|apply Drawn0.step)⟩
    case round =>
     clear H'
     try clear c1
     try clear p2
     try clear c3
     try clear c3b0
     try clear c3b1
     try clear c4
     try clear c4b0
     try clear c4b1
     try clear c5
     try clear c5b0
     try clear c5b1
     try clear c6
     try clear p2
     obtain ⟨x3_2,rfl,HA,HK2,⟨m2,rfl⟩⟩:=hrel
     cases gk with
     | zero=>exact absurd HA.out (by intro h_;cases h_)
     | succ k2 =>
      have H:=HA.out
      clear HA
      simp only [r_11_May.l0] at H
      by_cases c7:x3_2 < (a0.size:Int)
      ·rw [if_pos c7] at H
       have c7b0:decide (x3_2 < (a0.size:Int))=true:=decide_eq_true c7
       clear c7
       by_cases c8:0≤x3_2
       ·rw [if_pos c8] at H
        have c8b0:decide (0≤x3_2)=true:=decide_eq_true c8
        clear c8
        by_cases c10:(bt a0 x3_2)=0
        ·rw [if_pos c10] at H
         have c10b0:((bt a0 x3_2)==0)=true:=beq_iff_eq.mpr c10
         have c10b1:((bt a0 x3_2) != 0)=false:=bne_eq_false_iff_eq.mpr c10
         clear c10;obtain rfl:=Option.some.inj H
         have p9:0≤(x3_2:Int):=od
         have q9:x3_2 < (a0.size:Int):=od
         have hx9:=bt_at a0 x3_2
         replace p9:=eq_true p9;replace q9:=eq_true q9;go_wp2;go_ret
         exact ⟨by first|rfl|(simp;done)|(simp [*];done),by repeat (first|exact Drawn0.refl _|apply Drawn0.step)⟩
        ·rw [if_neg c10] at H
         have c10b0:((bt a0 x3_2)==0)=false:=beq_eq_false_iff_ne.mpr c10
         have c10b1:((bt a0 x3_2) != 0)=true:=bne_iff_ne.mpr c10
         by_cases c12:(bt a0 x3_2)=47
         ·rw [if_pos c12] at H
          have c12b0:((bt a0 x3_2)==47)=true:=beq_iff_eq.mpr c12
          have c12b1:((bt a0 x3_2) != 47)=false:=bne_eq_false_iff_eq.mpr c12
          clear c12;obtain rfl:=Option.some.inj H
          have p9:0≤(x3_2:Int):=od
          have q9:x3_2 < (a0.size:Int):=od
          have hx9:=bt_at a0 x3_2
          replace p9:=eq_true p9;replace q9:=eq_true q9
          have p11:0≤(x3_2:Int):=od
          have q11:x3_2 < (a0.size:Int):=od
          have hx11:=bt_at a0 x3_2
          replace p11:=eq_true p11;replace q11:=eq_true q11;go_wp2;go_ret
          exact ⟨by first|rfl|(simp;done)|(simp [*];done),by repeat (first|exact Drawn0.refl _|apply Drawn0.step)⟩
         ·rw [if_neg c12] at H
          have c12b0:((bt a0 x3_2)==47)=false:=beq_eq_false_iff_ne.mpr c12
          have c12b1:((bt a0 x3_2) != 47)=true:=bne_iff_ne.mpr c12
          have H':=am H
          clear H
          have p9:0≤(x3_2:Int):=od
          have q9:x3_2 < (a0.size:Int):=od
          have hx9:=bt_at a0 x3_2
          replace p9:=eq_true p9;replace q9:=eq_true q9
          have p11:0≤(x3_2:Int):=od
          have q11:x3_2 < (a0.size:Int):=od
          have hx11:=bt_at a0 x3_2
          replace p11:=eq_true p11;replace q11:=eq_true q11;go_wp2
          go_roundg k2
          case measure=>have:=HJ1.out;have:=HK2.out;omega
          case rel=>exact ⟨(wrap64 (x3_2+1)),(by first|rfl|(simp;done)|(simp [*];done)),H',⟨by have:=HJ1.out;have:=HK2.out;omega⟩,by repeat (first|exact Drawn0.refl _|apply Drawn0.step)⟩
       ·rw [if_neg c8] at H
        exact absurd H (by simp)
      ·rw [if_neg c7] at H
       have c7b0:decide (x3_2 < (a0.size:Int))=false:=decide_eq_false c7
       clear c7;obtain rfl:=Option.some.inj H;go_wp2;go_ret
       exact ⟨by first|rfl|(simp;done)|(simp [*];done),by repeat (first|exact Drawn0.refl _|apply Drawn0.step)⟩
end Go.Proofs.Yteglhbfhibfodaa.Pr
end
section
namespace Go.Proofs.Yteglhbfhibfodaa.Lf
open Go.RowKit Go.Proofs.YteglhbfhibfodaaW.PrintWords Go.Proofs.YteglhbfhibfodaaW.PrintMore Go.Proofs.Yteglhbfhibfodaa.Pr Go.Proofs.Yteglhbfhibfodaa.Od Go.Proofs.Yteglhbfhibfodaa.Cr
set_option linter.unusedVariables false
set_option linter.unusedSimpArgs false
abbrev E := S30
abbrev nb (e : E) : List UInt8 := e.f0.data.toList
theorem size_nb (s : ByteArray) : s.size = s.data.toList.length := Lib.size_eq _
def mayB (s : ByteArray) : Bool := decide (1 ≤ s.size) && decide (s.size ≤ 32) && decide (s.data.toList ≠ [46]) && decide (s.data.toList ≠ [46, 46]) && s.data.toList.all (fun b => b != 0 && b != 47)
theorem containsAny_cons (b : UInt8) (l : List UInt8) (cs : List UInt8) : Lib.containsAny (b :: l) cs = (cs.contains b || Lib.containsAny l cs) := by
  have h := Lib.indexAny_ge cs l
  unfold Lib.containsAny
  rw [Lib.indexAny]
  by_cases hb : cs.contains b = true
  · rw [if_pos hb, hb]; rfl
  · have hb' : cs.contains b = false := by simpa using hb
    rw [hb']
    simp only [Bool.false_eq_true, if_false, Bool.false_or]
    by_cases hi : Lib.indexAny l cs = -1
    · simp [hi]
    · have e : (Lib.indexAny l cs == -1) = false := beq_eq_false_iff_ne.2 hi
      rw [e]
      simp only [Bool.false_eq_true, if_false]
      rw [decide_eq_true (show (0 : Int) ≤ Lib.indexAny l cs + 1 by omega), decide_eq_true (show (0 : Int) ≤ Lib.indexAny l cs by omega)]
theorem containsAny_all : ∀ l : List UInt8, Lib.containsAny l [47, 0] = !(l.all (fun b => b != 0 && b != 47))
  | [] => rfl
  | b :: l => by
    rw [containsAny_cons, containsAny_all l, List.all_cons, Bool.not_and]
    congr 1
    simp only [List.contains_cons, List.contains_nil, Bool.or_false]
    by_cases h0 : b = 0
    · subst h0; rfl
    · by_cases h1 : b = 47
      · subst h1; rfl
      · have e0 : (b == 0) = false := beq_eq_false_iff_ne.2 h0
        have e1 : (b == 47) = false := beq_eq_false_iff_ne.2 h1
        rw [bne, bne, e0, e1]; rfl
theorem may_some (s : ByteArray) : leaf_May.f s = some (mayB s) := by
  unfold leaf_May.f mayB
  rw [Lib.toList_data]
  by_cases h0 : s.data.toList = []
  · have : s.size = 0 := by rw [size_nb, h0]; rfl
    rw [if_pos h0, this]; rfl
  · have hp : 1 ≤ s.size := by rw [size_nb]; have := List.length_pos_iff.2 h0; omega
    rw [if_neg h0]
    by_cases h1 : (s.size : Int) > 32
    · rw [if_pos h1, decide_eq_false (show ¬ s.size ≤ 32 by omega)]; simp
    · rw [if_neg h1, decide_eq_true (show s.size ≤ 32 by omega), decide_eq_true hp]
      by_cases h2 : s.data.toList = [46]
      · rw [if_pos h2]; simp [h2]
      · rw [if_neg h2]
        by_cases h3 : s.data.toList = [46, 46]
        · rw [if_pos h3]; simp [h3]
        · rw [if_neg h3]
          unfold strings_ContainsAny.f
          rw [if_pos ⟨rfl, by omega⟩, Option.bind_some, containsAny_all]
          simp [h2, h3]
theorem bt_get (s : ByteArray) (i : Nat) (h : i < s.data.toList.length) : bt s (i : Int) = (s.data.toList[i].toNat : Int) := by
  unfold bt
  rw [dif_pos (by rw [Int.toNat_natCast, size_nb]; exact h)]
  rfl
theorem rmay_ev (s : ByteArray) : Ev (fun k => r_11_May.f k s) (mayB s) := by
  have key : ∀ (n i : Nat), i + n = s.data.toList.length → s.data.toList.length ≤ 32 → Ev (fun k => r_11_May.l0 k s (i : Int)) ((s.data.toList.drop i).all (fun b => b != 0 && b != 47)) := by
    intro n
    induction n with
    | zero =>
      intro i hi h
      refine Ev.succ ?_
      simp only [r_11_May.l0, if_neg (show ¬((i : Int) < (s.size : Int)) by rw [size_nb]; omega)]
      rw [List.drop_of_length_le (by omega)]
      exact Ev.now _
    | succ n ih =>
      intro i hi h
      refine Ev.succ ?_
      have hil : i < s.data.toList.length := by omega
      simp only [r_11_May.l0, if_pos (show ((i : Int) < (s.size : Int)) by rw [size_nb]; omega), if_pos (show (0 : Int) ≤ (i : Int) by omega), bt_get s i hil]
      rw [List.drop_eq_getElem_cons hil, List.all_cons]
      generalize hb : s.data.toList[i] = b
      by_cases h0 : b = 0
      · subst h0
        simp only [if_pos (show (((0 : UInt8).toNat : Nat) : Int) = 0 from rfl)]
        exact Ev.now _
      · have h0' : ¬ ((b.toNat : Int) = 0) := fun e => h0 (UInt8.toNat_inj.1 (by rw [show (0 : UInt8).toNat = 0 from rfl]; omega))
        simp only [if_neg h0']
        by_cases h1 : b = 47
        · subst h1
          simp only [if_pos (show (((47 : UInt8).toNat : Nat) : Int) = 47 from rfl)]
          exact Ev.now _
        · have h1' : ¬ ((b.toNat : Int) = 47) := fun e => h1 (UInt8.toNat_inj.1 (by rw [show (47 : UInt8).toNat = 47 from rfl]; omega))
          simp only [if_neg h1', w64 (show -9223372036854775808 ≤ (i : Int) + 1 by omega) (by omega)]
          have e : ((b != 0 && b != 47) && (s.data.toList.drop (i + 1)).all (fun b => b != 0 && b != 47)) = (s.data.toList.drop (i + 1)).all (fun b => b != 0 && b != 47) := by simp [h0, h1]
          rw [e]
          exact ih (i + 1) (by omega) h
  unfold r_11_May.f
  have hj : ∀ b, b = true → Ev (fun k => r_11_May.j0 k s b) false := by
    rintro _ rfl
    refine Ev.succ ?_
    simp only [r_11_May.j0, if_true]
    exact Ev.now _
  simp only [Lib.toList_data]
  unfold mayB
  by_cases h0 : (s.size : Int) < 1
  · simp only [if_pos h0, decide_eq_false (show ¬ 1 ≤ s.size by omega), Bool.false_and]
    exact hj _ rfl
  · simp only [if_neg h0, decide_eq_true (show 1 ≤ s.size by omega)]
    by_cases h1 : (s.size : Int) > 32
    · simp only [if_pos h1, decide_eq_false (show ¬ s.size ≤ 32 by omega), Bool.false_and, Bool.and_false]
      exact hj _ rfl
    · simp only [if_neg h1, decide_eq_true (show s.size ≤ 32 by omega)]
      by_cases h2 : s.data.toList = [46]
      · simp only [h2, if_true]
        exact hj _ rfl
      · simp only [if_neg h2]
        by_cases h3 : s.data.toList = [46, 46]
        · simp only [h3]
          exact hj _ rfl
        · refine Ev.succ ?_
          have e3 : (s.data.toList == ([46, 46] : List UInt8)) = false := beq_eq_false_iff_ne.2 h3
          simp only [r_11_May.j0, e3, Bool.false_eq_true, if_false]
          rw [decide_eq_true h2, decide_eq_true h3]
          have := key s.data.toList.length 0 (by omega) (by rw [← size_nb]; omega)
          exact this
def okE (e : E) : Bool := mayB e.f0 && decide (0 ≤ e.f1) && decide (e.f1 ≤ 1048576)
def ahead (p : Option (List UInt8)) (e : E) : Bool := match p with | none => true | some q => less q (nb e)
def right : Option (List UInt8) → List E → Bool
  | _, [] => true
  | p, e :: l => okE e && ahead p e && right (some (nb e)) l
def sumL : List E → Nat
  | [] => 0
  | e :: l => 5 + e.f0.size + sumL l
def sizeR (l : List E) : Int × Int := if right none l = true then ((sumL l : Int), 0) else (0, 1)
theorem okE_size {e : E} (h : okE e = true) : 1 ≤ e.f0.size ∧ e.f0.size ≤ 32 := by
  simp only [okE, mayB, Bool.and_eq_true, decide_eq_true_eq] at h
  exact ⟨h.1.1.1.1.1.1, h.1.1.1.1.1.2⟩
theorem okE_num {e : E} (h : okE e = true) : 0 ≤ e.f1 ∧ e.f1 ≤ 1048576 := by
  simp only [okE, Bool.and_eq_true, decide_eq_true_eq] at h
  exact ⟨h.1.2, h.2⟩
theorem rdT_get {l : List E} {i : Nat} (h : i < l.length) : rd_T30 l (i : Int) = l[i] := by
  unfold rd_T30; rw [List.getD_eq_getElem?_getD, Int.toNat_natCast, List.getElem?_eq_getElem h]; rfl
def pv (l : List E) (i : Nat) : Option (List UInt8) := if i = 0 then none else some (nb (rd_T30 l ((i : Int) - 1)))
theorem pv_succ {l : List E} {i : Nat} (h : i < l.length) : pv l (i + 1) = some (nb l[i]) := by
  unfold pv
  rw [if_neg (by omega), show ((i + 1 : Nat) : Int) - 1 = (i : Int) by omega, rdT_get h]
theorem size_ev (l : List E) (hl : l.length < 5864062014805) : Ev (fun k => leaf_Size.f k l) (sizeR l) := by
  unfold leaf_Size.f
  have key : ∀ (n i acc : Nat), i + n = l.length → acc ≤ 37 * i → Ev (fun k => leaf_Size.l0 k l (acc : Int) l (l.length : Int) (i : Int)) (if right (pv l i) (l.drop i) = true then (((acc + sumL (l.drop i) : Nat) : Int), 0) else (0, 1)) := by
    intro n
    induction n with
    | zero =>
      intro i acc hi ha
      refine Ev.succ ?_
      simp only [leaf_Size.l0, if_neg (show ¬((i : Int) < (l.length : Int)) by omega)]
      rw [List.drop_of_length_le (by omega)]
      exact Ev.now _
    | succ n ih =>
      intro i acc hi ha
      refine Ev.succ ?_
      have hil : i < l.length := by omega
      have ih' := fun a h => ih (i + 1) a (by omega) h
      rw [pv_succ hil] at ih'
      simp only [leaf_Size.l0, if_pos (show ((i : Int) < (l.length : Int)) by omega), if_pos (show (0 : Int) ≤ (i : Int) by omega), rdT_get hil, may_some, Option.bind_some]
      rw [List.drop_eq_getElem_cons hil]
      generalize he : l[i] = e at ih' ⊢
      have hbad : ∀ b, b = false → right (pv l i) (e :: l.drop (i + 1)) = b → Ev (fun _ : Nat => (some (0, 1) : Option (Int × Int))) (if right (pv l i) (e :: l.drop (i + 1)) = true then (((acc + sumL (e :: l.drop (i + 1)) : Nat) : Int), 0) else (0, 1)) := by
        rintro _ rfl h
        rw [if_neg (by rw [h]; decide)]
        exact Ev.now _
      by_cases hm : mayB e.f0 = true
      · simp only [hm, if_true]
        by_cases h0 : e.f1 < 0
        · simp only [if_pos h0]
          exact hbad _ rfl (by simp [right, okE, decide_eq_false (show ¬ 0 ≤ e.f1 by omega)])
        · simp only [if_neg h0]
          by_cases h1 : e.f1 > 1048576
          · simp only [if_pos h1]
            exact hbad _ rfl (by simp [right, okE, decide_eq_false (show ¬ e.f1 ≤ 1048576 by omega)])
          · simp only [if_neg h1]
            have hok : okE e = true := by simp only [okE, hm, decide_eq_true (show 0 ≤ e.f1 by omega), decide_eq_true (show e.f1 ≤ 1048576 by omega)]; rfl
            have hs := okE_size hok
            have hw : wrap64 ((acc : Int) + wrap64 (5 + (e.f0.size : Int))) = ((acc + (5 + e.f0.size) : Nat) : Int) := by
              rw [w64 (n := 5 + (e.f0.size : Int)) (by omega) (by omega), w64 (by omega) (by omega)]; omega
            have hgo : Ev (fun k => leaf_Size.l0 k l ((acc + (5 + e.f0.size) : Nat) : Int) l (l.length : Int) (wrap64 ((i : Int) + 1))) (if right (some (nb e)) (l.drop (i + 1)) = true then (((acc + sumL (e :: l.drop (i + 1)) : Nat) : Int), 0) else (0, 1)) := by
              rw [w64 (by omega) (by omega), show acc + sumL (e :: l.drop (i + 1)) = (acc + (5 + e.f0.size)) + sumL (l.drop (i + 1)) by simp only [sumL]; omega]
              exact ih' _ (by omega)
            by_cases hi0 : i = 0
            · subst hi0
              simp only [if_neg (show ¬ (((0 : Nat) : Int) > 0) by decide), hw]
              have e1 : right (pv l 0) (e :: l.drop (0 + 1)) = right (some (nb e)) (l.drop (0 + 1)) := by simp [right, hok, pv, ahead]
              rw [e1]
              exact hgo
            · have hp : pv l i = some (nb (rd_T30 l ((i : Int) - 1))) := by unfold pv; rw [if_neg hi0]
              simp only [if_pos (show ((i : Int) > 0) by omega), w64 (show -9223372036854775808 ≤ (i : Int) - 1 by omega) (by omega), if_pos (show (0 : Int) ≤ (i : Int) - 1 by omega), if_pos (show (i : Int) - 1 < (l.length : Int) by omega), strings_Compare.f, Option.bind_some]
              have hc := compare_neg (rd_T30 l ((i : Int) - 1)).f0.data.toList e.f0.data.toList
              by_cases hlt : less (nb (rd_T30 l ((i : Int) - 1))) (nb e) = true
              · simp only [if_neg (show ¬ (Lib.compareBytes (rd_T30 l ((i : Int) - 1)).f0.data.toList e.f0.data.toList ≥ 0) by have := hc.2 hlt; omega), hw]
                have e1 : right (pv l i) (e :: l.drop (i + 1)) = right (some (nb e)) (l.drop (i + 1)) := by simp [right, hok, hp, ahead, hlt]
                rw [e1]
                exact hgo
              · simp only [if_pos (show (Lib.compareBytes (rd_T30 l ((i : Int) - 1)).f0.data.toList e.f0.data.toList ≥ 0) by
                  rcases Int.lt_or_le (Lib.compareBytes (rd_T30 l ((i : Int) - 1)).f0.data.toList e.f0.data.toList) 0 with h | h
                  · exact absurd (hc.1 h) hlt
                  · exact h)]
                exact hbad _ rfl (by simp [right, hp, ahead, hlt])
      · have hm' : mayB e.f0 = false := by simpa using hm
        simp only [hm', Bool.false_eq_true, if_false]
        exact hbad _ rfl (by simp [right, okE, hm'])
  have := key l.length 0 0 (by omega) (by omega)
  rw [List.drop_zero, Nat.zero_add] at this
  exact this
end Go.Proofs.Yteglhbfhibfodaa.Lf
end
section
namespace Go.Proofs.Yteglhbfhibfodaa.Pr
open Go.RowKit Go.Proofs.YteglhbfhibfodaaW.PrintWords Go.Proofs.YteglhbfhibfodaaW.PrintLast Go.Proofs.YteglhbfhibfodaaW.PrintMore
attribute [local go_sem] max2_int min2_int max_two min_two max_three min_three max_four min_four
attribute [local go_sem] Go.Proofs.Yteglhbfhibfodaa.Hl.str_geq Go.Proofs.Yteglhbfhibfodaa.Hl.str_gtr Go.Proofs.Yteglhbfhibfodaa.Hl.str_leq
set_option linter.unusedVariables false
set_option linter.unusedSimpArgs false
theorem crc_bytes_len:∀ (k:Nat) (x0:Int) (x5:List Int) (x12 x13:Int) (r:List Int),crc_Bytes.l0 k x0 x5 x12 x13=some r→r.length=x5.length
 | 0,_,_,_,_,_,h=>by (first|(cases h;done)|(simp [crc_Bytes.l0] at h;done))
 | k+1,x0,x5,x12,x13,r,h=>by
  simp only [crc_Bytes.l0] at h
  repeat' (first|(split at h)|(cases h;done))
  ·have:=crc_bytes_len k _ _ _ _ _ h
   rw [this,List.length_set]
  ·cases h;rfl
theorem crc_bytes_f_len (k:Nat) (v:Int) (n:Nat) (r:List Int) (hn:n≤8) (h:crc_Bytes.f k v n=some r):r.length=n:=by
 have hm:mx 0 (mn (n:Int) 8)=n:=by unfold mx mn;split<;>split<;>omega
 unfold crc_Bytes.f at h
 rw [hm] at h
 rw [if_pos (by omega),if_pos (by omega)] at h
 have:=crc_bytes_len _ _ _ _ _ _ ((Option.bind_some _ _).symm.trans h)
 rw [this,List.length_replicate]
 omega
set_option maxHeartbeats 8000000 in
set_option maxRecDepth 100000 in
theorem leaf_put (k:Nat) (w0 W:World) (Bx:Nat) (vb:Value) (xs ys:List Int) (v n:Int) (hbk:W.heap[Bx]? = some (.cells #[vb] 66 (0,0))) (hO:Kd.R (Kd.int .u8) 5 W w0.heap.size (fun _=>True) vb xs)
  (hB:Below w0.heap.size w0 W) (hbase:w0.heap.size≤Bx) (hy:crc_Bytes.f k (IntKind.u64.wrap v) n=some ys) (hl:xs.length+ys.length≤140737488355328) :
  Calls Try.prog 45 #[.int .i64 v,.int .i64 n,.pointer (some ⟨Bx,0,none⟩)] W fun e w'=>e=.returned (.tuple #[]) ∧
   ∃ v1,w'.heap[Bx]? = some (.cells #[v1] 66 (0,0))∧Kd.R (Kd.int .u8) 5 w' w0.heap.size (fun _=>True) v1 (xs++ys)∧Below w0.heap.size w0 w'∧∀ (j t:Nat) (cs:Array Value),t≠5→t≠66→W.heap[j]? = some (.cells cs t (0,0))→w'.heap[j]? = some (.cells cs t (0,0)):=by
 obtain ⟨A,c,rfl⟩:=Kd.R_slice hO
 have hblt:=blk_lt hbk
 have hcell:W.cell? ⟨Bx,0,none⟩=some (.slice A xs.length c):=(blk_cell hbk 0).trans rfl
 have HBK:=am hbk
 have HO:=am hO
 have HB:=am hB
 have HY:=am hy
 clear hbk hO hB hy
 go_enter Try.func45,Try.ntmps45
 go_wp2_with fail
 have hbk_:=HBK.out
 have hB_:=HB.out
 have hO_:=HO.out
 refine start_ (n:=7) (S:=fun w'=>w'.cell? ⟨Bx,0,none⟩=some (.slice A xs.length c)) (ds:=[6]) _ (by kernel_rfl) rfl rfl ((blk_cell hbk_ 0).trans rfl) (fun hHeld=>?_)
 refine pK 1 6 ?_;refine pK 2 7 ?_;refine pK 3 8 ?_;refine tK 0 5 hHeld ?_ (hy:=by intro w' s0;go_simp;with_reducible rfl)
 refine oK 4 (some 9) (fun K hK=>?_)
 refine gS Try.func46 #[.int .u64 (IntKind.u64.wrap v),.int .i64 n] ?_
 with_reducible refine (crc_Bytes.calls k (IntKind.u64.wrap v) n ys _ HY.out).mono ?_
 rintro e w3 ⟨v3,rfl,ho3,hb3⟩
 refine ⟨_,rfl,?_⟩
 obtain ⟨A3,c3,rfl,hc3,hr3⟩:=Kd.R_reads ho3
 have hbk3:=blk_below (blk_drew hbk_) hb3
 have hB3:=below_then (below_drew hB_) hB_.size hb3
 have hO3:=Kd.R_below (Kd.R_drew hO_) hb3
 refine hK.out _ _ ((hb3.cell (World.block_lt_of_cell? _ _ hHeld)).trans hHeld) (fun hHeld=>?_)
 clear hK K;refine norm_ (a':=?_) ?_ ?_;rotate_left
 ·show Act.put _ (some 9) _=_
  simp only [Act.put,sIb,sC0,sCs,i64_w,i32_w];rfl
 refine oK 5 (some 10) (fun K hK=>?_)
 refine Kd.R_append_rows_step (Kd.int .u8) (w0:=w0) w0.heap.size (by rfl) (.tmp 5) (.tmp 9) 66 5 (.int .u8 0) 1 rfl Try.underlying66 info5 rfl (by decide) (by omega) (.slice A xs.length c) xs ys A3 ys.length c3 (fun _=>True) (fun _=>False) rfl rfl hO3 hr3 (fun _ _ h=>h) (fun _ h=>h.elim) (fun _ _=>trivial) hB3 (below_size hB3) (by omega) ?_
 intro v1 w4 hO4 hB4 hg4 hat4
 have hbk4:=blk_grown hbk3 hg4 (Kd.R_ne hO3 hbk3 (by decide))
 have hf4:=blk_frozen hbk4 0
 obtain ⟨A4,c4,rfl⟩:=Kd.R_slice hO4
 refine hK.out _ _ ((blk_cell hbk4 0).trans rfl) (fun hHeld=>?_)
 clear hK K;refine norm_ (a':=?_) ?_ ?_;rotate_left
 ·show Act.put _ (some 10) _=_
  simp only [Act.put,sIb,sC0,sCs,i64_w,i32_w];rfl
 refine last_ (i:=6) (N:=none) #[true,true,true,true,true,true,true] rfl rfl (by kernel_rfl) (by decide) (fun K hK=>?_)
 have hc4:=hHeld
 refine skip_ (w1:=?_) (by rfl) rfl ?_ ?_
 rotate_left;(go_simp;rfl);refine hK.out _ _ ?_;clear hK K
 refine done_ (by kernel_rfl) ?_
 go_end0
 rw [List.length_append] at hO4
 refine ⟨rfl,_,blk_put (cs:=#[.slice A xs.length c]) hbk4 0 _ rfl,Kd.R_set hO4 hbk4 (by decide) 0 _,Hl.below_set_ hB4 hbase,fun j t cs ht1 ht2 hj=>?_⟩
 have h3:=blk_below (blk_drew hj) hb3
 have h4:=blk_grown h3 hg4 (Kd.R_ne hO3 h3 (fun e=>ht1 e.symm))
 exact blk_far h4 (blk_ne h4 hbk4 ht2) _
def leaf_Encode.l0:Nat→List S30→Int→List Int→Option (List Int)
 | 0,_,_,_=>none
 | k+1,l,i,b=>if i < (l.length:Int) then (if 0≤i then ((crc_Bytes.f k (IntKind.u64.wrap (rd_T30 l i).f1) 4).bind fun x=>((crc_Bytes.f k (IntKind.u64.wrap ((rd_T30 l i).f0.size:Int)) 1).bind fun y=>(if b.length+x.length+y.length+(rd_T30 l i).f0.size≤140737488355328 then (leaf_Encode.l0 k l (wrap64 (i+1)) (b++x++y++bytesOf (rd_T30 l i).f0)) else none))) else none) else some b
def leaf_Encode.f (k:Nat) (l0:List S30):Option (List Int×Int):=(leaf_Size.f k l0).bind fun t=>(if t.2=0 then (if t.1 > 248 then (some ([],9)) else ((crc_Bytes.f k (IntKind.u64.wrap (l0.length:Int)) 2).bind fun x=>((crc_Bytes.f k (IntKind.u64.wrap t.1) 2).bind fun y=>((leaf_Encode.l0 k l0 0 (x++y)).bind fun b=>(if b.length≤252 then ((crc_Sum.f k (b++List.replicate (252 - b.length) 0)).bind fun s=>((crc_Bytes.f k (IntKind.u64.wrap (wrap64 s)) 4).bind fun z=>(some ((b++List.replicate (252 - b.length) 0)++z,0)))) else none))))) else (some ([],t.2)))
set_option maxHeartbeats 8000000 in
set_option maxRecDepth 100000 in
theorem leaf_Encode.calls (k:Nat) (A0:Option Addr) (c0:Nat) (l0:List (S30)) (r1:List Int) (r2:Int) (w:World) (hr0:Kd.C k30 w A0 l0.length l0) (hc0:l0.length≤c0) (h:leaf_Encode.f k l0=some (r1,r2)) :
  Calls Try.prog 24 #[.slice A0 l0.length c0] w fun e w'=>∃ v0_:Value,e=.returned (.tuple #[v0_,.int .i64 r2])∧Kd.R (Kd.int .u8) 5 w' w.heap.size (fun _=>True) v0_ r1∧Below w.heap.size w w':=by
 unfold leaf_Encode.f at h
 obtain ⟨⟨n,e⟩,hs,h⟩:=Option.bind_eq_some_iff.1 h
 simp only [] at h
 have HR0:=am hr0
 have HC0:=am hc0
 have HS:=am hs
 clear hr0 hc0 hs
 by_cases he:e=0
 ·subst he
  rw [if_pos rfl] at h
  by_cases hn:n > 248
  ·rw [if_pos hn] at h
   obtain ⟨rfl,rfl⟩:=Prod.mk.inj (Option.some.inj h)
   go_enter Try.func24,Try.ntmps24
   go_wp2_with (go_at_call 44;refine (leaf_Size.calls k A0 c0 l0 n 0 w HR0.out HC0.out HS.out).mono ?_;rintro e w1 ⟨rfl,hb1⟩)
   go_ret2
   exact ⟨_,rfl,Kd.R_nil _ _ _ _ _,hb1⟩
  ·rw [if_neg hn] at h
   obtain ⟨x,hx,h⟩:=Option.bind_eq_some_iff.1 h
   obtain ⟨y,hy,h⟩:=Option.bind_eq_some_iff.1 h
   obtain ⟨b,hb,h⟩:=Option.bind_eq_some_iff.1 h
   have hxl:x.length=2:=crc_bytes_f_len k _ 2 x (by decide) hx
   have hyl:y.length=2:=crc_bytes_f_len k _ 2 y (by decide) hy
   have HX:=am hx
   have HY:=am hy
   have HBB:=am hb
   have HH:=am h
   clear hx hy hb h
   go_enter Try.func24,Try.ntmps24
   go_wp2_with (first|(go_at_call 45;refine (leaf_put k w _ w2.heap.size v3 x y _ _ HBK3.out HO3.out HB3.out HB2.out.size HY.out (by rw [hxl,hyl];decide)).mono ?_;rintro e w4 ⟨rfl,v4,hbk4,ho4,hb4,-⟩;have HBK4:=am hbk4;have HO4:=am ho4;have HB4:=am hb4;clear hbk4 ho4 hb4)|(go_at_call 45;refine (leaf_put k w _ w2.heap.size (.slice A2 0 c2) [] x _ _ (blk_new w2 _) (Kd.R_alloc HO2.out _) (HB2.out.alloc HB2.out.size _) HB2.out.size HX.out (by rw [hxl];decide)).mono ?_;rintro e w3 ⟨rfl,v3,hbk3,ho3,hb3,-⟩;have HBK3:=am hbk3;have HO3:=am ho3;have HB3:=am hb3;clear hbk3 ho3 hb3)|((with_reducible refine gate_dst (N:=20) rfl ?_);refine Hl.R_make0 (Kd.int .u8) (w0:=w) w.heap.size 5 rfl 66 _ _ rfl 256 rfl rfl Try.underlying66 (.int .u8 0) 1 info5 (by decide) (by decide) (ok:=fun _=>True) trivial HB1.out HB1.out.size ?_;intro v2 w2 ho2 hb2 hg2;obtain ⟨A2,c2,rfl⟩:=Kd.R_slice ho2;have HO2:=am ho2;have HB2:=am hb2;clear ho2 hb2)|(go_at_call 44;refine (leaf_Size.calls k A0 c0 l0 n 0 w HR0.out HC0.out HS.out).mono ?_;rintro e w1 ⟨rfl,hb1⟩;have HB1:=am hb1;clear hb1))
   have hi54:=info30
   have hu54:=Try.underlying30
   go_loopg [31] k (fun kq v31 w'=>∃ (i:Int) (bs:List Int) (vb:Value),v31=.int .i64 i∧Aside0 (leaf_Encode.l0 kq l0 i bs=some b)∧Aside0 (kq≤k)∧Aside0 (w'.heap[w2.heap.size]? = some (.cells #[vb] 66 (0,0)))∧Aside0 (Kd.R (Kd.int .u8) 5 w' w.heap.size (fun _=>True) vb bs)∧Aside0 (Below w.heap.size w w'))
   case atStart=>exact ⟨0,_,_,rfl,HBB,⟨Nat.le_refl _⟩,HBK4,HO4,HB4⟩
   case round =>
    obtain ⟨i,bs,vb,rfl,HL,HK,HBK,HO,HB⟩:=hrel
    cases gk with
    | zero=>exact absurd HL.out (by intro h_;cases h_)
    | succ g =>
     have hl:=HL.out
     simp only [leaf_Encode.l0] at hl
     by_cases hi:i < (l0.length:Int)
     ·rw [if_pos hi] at hl
      by_cases hi0:0≤i
      ·rw [if_pos hi0] at hl
       obtain ⟨x4,hx4,hl⟩:=Option.bind_eq_some_iff.1 hl
       obtain ⟨x1,hx1,hl⟩:=Option.bind_eq_some_iff.1 hl
       by_cases hlen:bs.length+x4.length+x1.length+(rd_T30 l0 i).f0.size≤140737488355328
       ·rw [if_pos hlen] at hl
        obtain ⟨ad,ead,hc0_,hc1_⟩:=at_T30 HR0.out i hi0 hi
        cases ead
        have hca:=hB HB hc0_
        have hcb:=hB HB hc1_
        clear hc0_ hc1_
        obtain ⟨nm,hnm⟩:∃ nm,(rd_T30 l0 i).f0=nm:=⟨_,rfl⟩
        obtain ⟨nd,hnd⟩:∃ nd,(rd_T30 l0 i).f1=nd:=⟨_,rfl⟩
        rw [hnm] at hca
        rw [hnd] at hcb
        have HX1:=am (hnm ▸ hx1)
        have HX4:=am (hnd ▸ hx4)
        have HLL:=am (hnm ▸ hl)
        have HN:=am (hnm ▸ hlen)
        clear hl hx4 hx1 hlen hnm hnd
        go_wp2_with (first|((with_reducible refine gate_dst (N:=47) rfl ?_);at_builtin;refine Hl.R_append_str (w0:=w) w.heap.size rfl (.tmp 44) _ 66 9 5 rfl Try.underlying66 Try.underlying9 info5 v6 (bs++x4++x1) nm (fun _=>True) rfl rfl HO6.out (fun _ _=>trivial) HB6.out HB6.out.size (by rw [List.length_append,List.length_append];have:=HN.out;omega) ?_;intro v7 w7 ho7 hb7 hg7 hat7;have hbk7:=blk_grown HBK6.out hg7 (Kd.R_ne HO6.out HBK6.out (by decide));have hfz7:=blk_frozen hbk7 0;have hcb7:=(blk_cell hbk7 0).trans rfl;obtain ⟨A7,c7,rfl⟩:=Kd.R_slice ho7;have HBK7:=am hbk7;have HO7:=am ho7;have HB7:=am hb7;clear hbk7 ho7 hb7 hg7 hat7)|(go_at_call 45;refine (leaf_put g w _ w2.heap.size v5 (bs++x4) x1 _ _ HBK5.out HO5.out HB5.out HB2.out.size HX1.out (by rw [List.length_append];have:=HN.out;omega)).mono ?_;rintro e w6 ⟨rfl,v6,hbk6,ho6,hb6,hk6⟩;have HE6:=am (hk6 wr.heap.size 30 _ (by decide) (by decide) HE5.out);have hce6:=kC HE6 0;have hcb6:=(blk_cell hbk6 0).trans rfl;have HBK6:=am hbk6;have HO6:=am ho6;have HB6:=am hb6;clear hbk6 ho6 hb6 hk6)|(go_at_call 45;refine (leaf_put g w _ w2.heap.size vb bs x4 _ _ (blk_alloc HBK.out _) (Kd.R_alloc HO.out _) (HB.out.alloc HB.out.size _) HB2.out.size HX4.out (by have:=HN.out;omega)).mono ?_;rintro e w5 ⟨rfl,v5,hbk5,ho5,hb5,hk5⟩;have HE5:=am (hk5 wr.heap.size 30 _ (by decide) (by decide) (blk_new wr _));have hce5:=kC HE5 0;have HBK5:=am hbk5;have HO5:=am ho5;have HB5:=am hb5;clear hbk5 ho5 hb5 hk5))
        rw [List.length_append,List.length_append,List.length_append,Nat.add_assoc,Nat.add_assoc] at HO7
        go_roundg g
        case measure=>have:=HK.out;omega
        case rel=>exact ⟨wrap64 (i+1),bs++x4++x1++bytesOf nm,_,rfl,HLL,⟨by have:=HK.out;omega⟩,⟨blk_put (cs:=#[v6]) HBK7.out 0 _ rfl⟩,⟨Kd.R_set HO7.out HBK7.out (by decide) 0 _⟩,⟨Hl.below_set_ HB7.out HB2.out.size⟩⟩
       ·rw [if_neg hlen] at hl
        cases hl
      ·rw [if_neg hi0] at hl
       cases hl
     ·rw [if_neg hi] at hl
      obtain rfl:=Option.some.inj hl
      have hh:=HH.out
      clear HH HL hl
      by_cases hbl:bs.length≤252
      ·rw [if_pos hbl] at hh
       obtain ⟨sm,hsm,hh⟩:=Option.bind_eq_some_iff.1 hh
       obtain ⟨z4,hz4,hh⟩:=Option.bind_eq_some_iff.1 hh
       obtain ⟨rfl,rfl⟩:=Prod.mk.inj (Option.some.inj hh)
       have HSM:=am hsm
       have HZ4:=am hz4
       clear hh hsm hz4
       obtain ⟨Ab,cb,rfl⟩:=Kd.R_slice HO.out
       have hcb:=kC HBK 0
       have hz4l:z4.length=4:=crc_bytes_f_len k _ 4 z4 (by decide) HZ4.out
       have HZL:=am hz4l
       clear hz4l
       obtain ⟨P,hPe⟩:∃ P:List Int,P=bs++List.replicate (252 - bs.length) 0:=⟨_,rfl⟩
       have hPl:P.length=252:=by rw [hPe,List.length_append,List.length_replicate];omega
       have HPE:=am hPe
       have HSM2:=am (hPe ▸ HSM.out:crc_Sum.f k P=some sm)
       have HPL:=am hPl
       clear HSM hPe hPl
       go_wp2_with (first|(go_at_call 45;refine (leaf_put k w _ w2.heap.size _ P z4 _ _ HBK9.out HO9.out HB9.out HB2.out.size HZ4.out (by rw [HPL.out,HZL.out];decide)).mono ?_;rintro e w10 ⟨rfl,v10,hbk10,ho10,hb10,-⟩;have hcb10:=(blk_cell hbk10 0).trans rfl;have HO10:=am ho10;have HB10:=am hb10;clear hbk10 ho10 hb10)|(go_at_call 47;obtain ⟨A8',c8',e8,hc8,hr8⟩:=Kd.R_reads HO8.out;injection e8 with e8a e8b e8c;subst e8a;subst e8c;have hcs:=crc_Sum.calls k _ _ P sm _ hr8 hc8 HSM2.out;rw [HPL.out] at hcs;refine hcs.mono ?_;rintro e w8 ⟨rfl,hb8⟩;have HBK9:=am (blk_below HBK8.out hb8);have HO9:=am (Kd.R_below HO8.out hb8);have HB9:=am (HB8.out.trans (hb8.mono HB8.out.size));have hcb9:=kC HBK9 0;clear hb8 hcs hc8 hr8)|((with_reducible refine gate_dst (N:=53) rfl ?_);at_builtin;refine Kd.R_append_zeros (Kd.int .u8) (w0:=w) w.heap.size rfl (.tmp 49) (.tmp 52) 66 3 5 (.int .u8 0) 1 rfl Try.underlying66 Try.underlying3 info5 rfl (by decide) (by omega) (.slice Ab bs.length cb) bs (0:Int) (252 - (bs.length:Int)) (fun _=>True) rfl rfl rfl (fun _ _=>trivial) HO.out (by omega) HB.out HB.out.size (by omega) ?_;intro v7 w7 ho7 hb7 hg7 hat7;rw [show (252 - (bs.length:Int)).toNat=252 - bs.length from by omega,← HPE.out] at ho7;have hbk7:=blk_grown HBK.out hg7 (Kd.R_ne HO.out HBK.out (by decide));have hfz7:=blk_frozen hbk7 0;have hcb7:=(blk_cell hbk7 0).trans rfl;obtain ⟨A8,c8,rfl⟩:=Kd.R_slice ho7;rw [HPL.out] at ho7;have HBK8:=am (blk_put (cs:=#[.slice Ab bs.length cb]) hbk7 0 (.slice A8 252 c8) rfl);have HO8:=am (Kd.R_set ho7 hbk7 (by decide) 0 (.slice A8 252 c8));have HB8:=am (Hl.below_set_ (u:=.slice A8 252 c8) (j:=0) hb7 HB2.out.size);have hcb8:=kC HBK8 0;clear ho7 hb7 hg7 hat7;rw [HPL.out]))
       go_ret2
       rw [← HPE.out]
       exact ⟨_,rfl,HO10.out,HB10.out⟩
      ·rw [if_neg hbl] at hh
       cases hh
 ·rw [if_neg he] at h
  obtain ⟨rfl,rfl⟩:=Prod.mk.inj (Option.some.inj h)
  have heb:(e==0)=false:=beq_eq_false_iff_ne.2 he
  go_enter Try.func24,Try.ntmps24
  go_wp2_with (go_at_call 44;refine (leaf_Size.calls k A0 c0 l0 n e w HR0.out HC0.out HS.out).mono ?_;rintro e' w1 ⟨rfl,hb1⟩)
  go_ret2
  exact ⟨_,rfl,Kd.R_nil _ _ _ _ _,hb1⟩
end Go.Proofs.Yteglhbfhibfodaa.Pr
end
section
namespace Go.Proofs.Yteglhbfhibfodaa.Pr
open Go.RowKit Go.Proofs.YteglhbfhibfodaaW.PrintWords Go.Proofs.YteglhbfhibfodaaW.PrintLast Go.Proofs.YteglhbfhibfodaaW.PrintMore
attribute [local go_sem] max2_int min2_int max_two min_two max_three min_three max_four min_four
attribute [local go_sem] Go.Proofs.Yteglhbfhibfodaa.Hl.str_geq Go.Proofs.Yteglhbfhibfodaa.Hl.str_gtr Go.Proofs.Yteglhbfhibfodaa.Hl.str_leq
set_option linter.unusedVariables false
set_option linter.unusedSimpArgs false
set_option maxHeartbeats 8000000 in
set_option maxRecDepth 100000 in
theorem leaf_get (k:Nat) (W:World) (Bx:Nat) (A:Option Addr) (c:Nat) (l:List Int) (N:Nat) (hN:l.length=N) (x n v:Int) (ok:Bool) (hbk:W.heap[Bx]? = some (.cells #[.slice A N c] 66 (0,0))) (hr:Kd.C (Kd.int .u8) W A l.length l) (hc:l.length≤c)
  (h0:0≤x) (h1:0≤n) (h2:x+n≤l.length) (hy:crc_Number.f k ((l.take (x+n).toNat).drop x.toNat)=some (v,ok)) :
  Calls Try.prog 62 #[.int .i64 x,.int .i64 n,.pointer (some ⟨Bx,0,none⟩)] W fun e w'=>e=.returned (.int .i64 (wrap64 v))∧Drawn0 W w':=by
 subst hN
 obtain ⟨i0,hi,hz⟩:=Option.map_eq_some_iff.1 info5
 simp only [Prod.mk.injEq] at hz
 have hln:l.length≤9223372036854775807:=hr.2.1
 obtain ⟨A',hcut,hA,hC⟩:=print_mid_of (P:=Try.prog) (Value.int .u8) 0 66 5 .i64 .i64 Try.underlying66 hi hz.2.1 A c l x (x+n) h0 (by omega) h2 hc
 have hcell:W.cell? ⟨Bx,0,none⟩=some (.slice A l.length c):=(blk_cell hbk 0).trans rfl
 have hw64:wrap64 (x+n)=x+n:=by unfold wrap64;omega
 have hw64':IntKind.i64.wrap (x+n)=x+n:=(i64_w _).trans hw64
 go_enter Try.func62,Try.ntmps62
 have hDl:((l.take (x+n).toNat).drop x.toNat).length=(x+n).toNat - x.toNat:=by rw [List.length_drop,List.length_take];omega
 have hcn:=crc_Number.calls k A' (c - x.toNat) _ v ok W (Kd.C_of_reads (h1:=fun _=>rfl) (hA _ (Kd.reads_of_C hr))) hC hy
 rw [hDl] at hcn
 have HCN:=am hcn
 clear hcn hy hA hC hr hbk
 go_wp2_with (go_at_call 60;refine HCN.out.mono ?_;rintro e w2 ⟨rfl,⟨m,rfl⟩⟩)
 go_ret
 exact ⟨rfl,⟨m,rfl⟩⟩
def leaf_Decode.tail (k:Nat) (b:List Int) (ms:List S30):Option (List S30×Int):=(leaf_Encode.f k ms).bind fun t=>(if t.2=0 then ((bytes_Equal.f t.1 b).bind fun q=>(if q=true then some (ms,0) else some ([],13))) else some ([],13))
def leaf_Decode.l0:Nat→List Int→Int→Int→Int→List S30→Option (List S30×Int)
 | 0,_,_,_,_,_=>none
 | k+1,b,n,i,x,ms=>if i < n then (if 0≤x then (if x+5 > 252 then some ([],13) else ((crc_Number.f k ((b.take (x+4+1).toNat).drop (x+4).toNat)).bind fun v=>(if 0≤wrap64 v.1∧wrap64 v.1≤255 then (if x+5+wrap64 v.1 > 252 then some ([],13) else ((crc_Number.f k ((b.take (x+4).toNat).drop x.toNat)).bind fun u=>(if ms.length < 5864062014805 then leaf_Decode.l0 k b n (wrap64 (i+1)) (x+5+wrap64 v.1) (ms++[⟨strOfNums ((b.take (x+5+wrap64 v.1).toNat).drop (x+5).toNat),wrap64 u.1⟩]) else none))) else none))) else none) else leaf_Decode.tail k b ms
def leaf_Decode.f (k:Nat) (l0:List Int):Option (List S30×Int):=if l0.length=256 then ((crc_Number.f k ((l0.take (0+2:Int).toNat).drop (0:Int).toNat)).bind fun v=>leaf_Decode.l0 k l0 (wrap64 v.1) 0 4 []) else some ([],13)
set_option maxHeartbeats 8000000 in
set_option maxRecDepth 100000 in
theorem leaf_Decode.calls (k:Nat) (A0:Option Addr) (c0:Nat) (l0:List Int) (r1:List (S30)) (r2:Int) (w:World) (hr0:Kd.C (Kd.int .u8) w A0 l0.length l0) (hc0:l0.length≤c0) (h:leaf_Decode.f k l0=some (r1,r2)) :
  Calls Try.prog 33 #[.slice A0 l0.length c0] w fun e w'=>∃ v0_:Value,e=.returned (.tuple #[v0_,.int .i64 r2])∧Kd.R k30 30 w' w.heap.size (fun _=>True) v0_ r1∧Below w.heap.size w w':=by
 unfold leaf_Decode.f at h
 have HR0:=am hr0
 have HC0:=am hc0
 clear hr0 hc0
 by_cases hlen:l0.length=256
 ·rw [if_pos hlen] at h
  obtain ⟨⟨nv,nok⟩,hn,h⟩:=Option.bind_eq_some_iff.1 h
  have HN:=am hn
  have HH:=am h
  have HN2:=am hlen
  have hlb:((l0.length:Int) != 256)=false:=by simp [hlen]
  obtain ⟨i0,hi0_,hz0_⟩:=Option.map_eq_some_iff.1 info5
  simp only [Prod.mk.injEq] at hz0_
  have HSZ:=am (⟨hi0_,hz0_.2.1⟩:Try.prog.info? 5=some i0∧i0.size=1)
  clear hn h hlen hi0_ hz0_
  go_enter Try.func33,Try.ntmps33
  go_wp2_with (go_at_call 62;refine (leaf_get k _ w.heap.size A0 c0 l0 l0.length rfl 0 2 nv nok (blk_new w _) (Kd.C_alloc HR0.out _) HC0.out (by omega) (by omega) (by have:=HN2.out;omega) HN.out).mono ?_;rintro e w1 ⟨rfl,⟨m1,rfl⟩⟩)
  obtain ⟨nn,hnn⟩:∃ nn,nn=wrap64 nv:=⟨_,rfl⟩
  simp only [← hnn] at HH ⊢
  clear hnn;have hi54:=info30
  have hu54:=Try.underlying30
  clear hlb
  go_loopg [5,6,16] k (fun kq v5 v6 v16 w'=>∃ (ms:List S30) (x i:Int),v6=.int .i64 x∧v16=.int .i64 i∧Aside0 (leaf_Decode.l0 kq l0 nn i x ms=some (r1,r2))∧Aside0 (kq≤k)∧Aside0 (0≤x∧x≤252)∧Aside0 (w'.heap[w.heap.size]? = some (.cells #[.slice A0 l0.length c0] 66 (0,0)))∧Aside0 (Kd.R k30 30 w' w.heap.size (fun _=>True) v5 ms)∧Aside0 (Below w.heap.size w w'))
  case atStart=>exact ⟨[],4,0,rfl,rfl,HH,⟨Nat.le_refl _⟩,⟨by omega⟩,⟨blk_drewN (blk_new w _) _⟩,⟨Kd.R_nil _ _ _ _ _⟩,⟨pw_below_drewN ((Below.refl _ _).alloc (Nat.le_refl _) _) _⟩⟩
  case round =>
   obtain ⟨ms,x,i,rfl,rfl,HL,HK,HX,HBK,HO,HB⟩:=hrel
   clear HH HN
   cases gk with
   | zero=>exact absurd HL.out (by intro h_;cases h_)
   | succ g =>
    have hl:=HL.out
    clear HL
    simp only [leaf_Decode.l0] at hl
    obtain ⟨Ao,co,hc5_,hr5_,rfl⟩:∃ A c,ms.length≤c∧Kd.C k30 wr A ms.length ms∧_=Value.slice A ms.length c:=by
     obtain ⟨A,c,e,hc,hr⟩:=Kd.R_reads HO.out
     exact ⟨A,c,hc,hr,e⟩
    have HC5:=am hc5_
    have HR5:=am hr5_
    clear hc5_ hr5_
    have hbk_:=HBK.out
    have hcell0:wr.cell? ⟨w.heap.size,0,none⟩=some (.slice A0 l0.length c0):=(blk_cell hbk_ 0).trans rfl
    clear hbk_
    by_cases hi:i < nn
    ·rw [if_pos hi,if_pos HX.out.1] at hl
     have hib:decide (i < nn)=true:=decide_eq_true hi
     have hw5:wrap64 (x+5)=x+5:=by have:=HX.out;unfold wrap64;omega
     have hw4:wrap64 (x+4)=x+4:=by have:=HX.out;unfold wrap64;omega
     by_cases hx5:x+5 > 252
     ·rw [if_pos hx5] at hl
      obtain ⟨rfl,rfl⟩:=Prod.mk.inj (Option.some.inj hl)
      have h5b:decide (252 < x+5)=true:=decide_eq_true hx5
      clear hx5 hl;go_wp2
      go_ret2
      exact ⟨_,rfl,Kd.R_nil _ _ _ _ _,HB.out⟩
     ·rw [if_neg hx5] at hl
      have h5b:decide (252 < x+5)=false:=decide_eq_false hx5
      have HX5:=am hx5
      clear hx5
      obtain ⟨⟨v,ok⟩,hv,hl⟩:=Option.bind_eq_some_iff.1 hl
      simp only [] at hl
      by_cases hvv:0≤wrap64 v∧wrap64 v≤255
      ·rw [if_pos hvv] at hl
       obtain ⟨vv,hvn⟩:∃ vv,wrap64 v=vv:=⟨_,rfl⟩
       rw [hvn] at hl hvv
       obtain ⟨y,hy⟩:∃ y,x+5+vv=y:=⟨_,rfl⟩
       rw [hy] at hl
       have HY:=am (⟨by have:=HX.out;omega,by have:=HX.out;omega⟩:x+5≤y∧y≤600)
       have HV:=am hv
       have hwy:wrap64 y=y:=by have:=HX.out;have:=HY.out;unfold wrap64;omega
       clear hvv hv
       by_cases hy2:y > 252
       ·rw [if_pos hy2] at hl
        obtain ⟨rfl,rfl⟩:=Prod.mk.inj (Option.some.inj hl)
        have hyb:decide (252 < y)=true:=decide_eq_true hy2
        clear hy2 hl
        go_wp2_with (go_at_call 62;refine (leaf_get g _ w.heap.size A0 c0 l0 l0.length rfl (x+4) 1 v ok HBK.out (Kd.C_below HR0.out HB.out) HC0.out (by have:=HX.out;omega) (by omega) (by have:=HX.out;have:=HX5.out;have:=HN2.out;omega) HV.out).mono ?_;rintro e w2 ⟨rfl,⟨m2,rfl⟩⟩)
        go_ret2
        exact ⟨_,rfl,Kd.R_nil _ _ _ _ _,pw_below_drewN HB.out _⟩
       ·rw [if_neg hy2] at hl
        have hyb:decide (252 < y)=false:=decide_eq_false hy2
        have HY2:=am hy2
        clear hy2
        obtain ⟨⟨u,uok⟩,hu,hl⟩:=Option.bind_eq_some_iff.1 hl
        simp only [] at hl
        by_cases hms:ms.length < 5864062014805
        ·rw [if_pos hms] at hl
         obtain ⟨uu,huu⟩:∃ uu,wrap64 u=uu:=⟨_,rfl⟩
         rw [huu] at hl
         have HMS:=am hms
         have HLL:=am hl
         have HU:=am hu
         clear hms hl hu
         go_wp2_with (go_at_call 62;refine (leaf_get g _ w.heap.size A0 c0 l0 l0.length rfl (x+4) 1 v ok HBK.out (Kd.C_below HR0.out HB.out) HC0.out (by have:=HX.out;omega) (by omega) (by have:=HX.out;have:=HX5.out;have:=HN2.out;omega) HV.out).mono ?_;rintro e w2 ⟨rfl,⟨m2,rfl⟩⟩)
         obtain ⟨A',hcut,hA,hC⟩:=print_mid_of (P:=Try.prog) (Value.int .u8) 0 66 5 .i64 .i64 Try.underlying66 HSZ.out.1 HSZ.out.2 A0 c0 l0 (x+5) y (by have:=HX.out;omega) HY.out.1 (by have:=HY2.out;have:=HN2.out;omega) HC0.out
         have hl_:((l0.take y.toNat).drop (x+5).toNat).length=y.toNat - (x+5).toNat:=by rw [List.length_drop,List.length_take];have:=HY2.out;have:=HN2.out;have:=HY.out;omega
         simp only [hl_] at hcut
         have HRC:=am (Kd.C_of_reads (h1:=fun _=>rfl) (hA _ (Kd.reads_of_C HR0.out)))
         clear hA hC
         have hcvW:∀ W_:World,(Kd.int .u8).C W_ A' ((l0.take y.toNat).drop (x+5).toNat).length ((l0.take y.toNat).drop (x+5).toNat)→(convert 66 9 (.slice A' (y.toNat - (x+5).toNat) (c0 - (x+5).toNat))).run Try.prog W_=.ok (.string (strOfNums ((l0.take y.toNat).drop (x+5).toNat))) W_:=by
          intro W_ h_
          have e_:=Kd.C_string (P:=Try.prog) (A:=A') (c:=c0 - (x+5).toNat) Try.underlying66 Try.underlying5 Try.underlying9 h_
          rw [hl_] at e_
          exact e_
         obtain ⟨nm,hnm⟩:∃ nm,strOfNums ((l0.take y.toNat).drop (x+5).toNat)=nm:=⟨_,rfl⟩
         rw [hnm] at HLL hcvW
         clear hnm
         have HCV:=am hcvW
         clear hcvW hl_
         have hbk1:=HBK.out
         refine start_ (n:=14) (S:=fun w'=>w'.cell? ⟨w.heap.size,0,none⟩=some (.slice A0 l0.length c0)∧(convert 66 9 (.slice A' (y.toNat - (x+5).toNat) (c0 - (x+5).toNat))).run Try.prog w'=.ok (.string nm) w') (ds:=[]) _ (by kernel_rfl) rfl rfl ⟨(blk_cell hbk1 0).trans rfl,HCV.out _ (Kd.C_drew (Kd.C_drewN (Kd.C_below HRC.out HB.out) _))⟩ (fun hHeld=>?_)
         refine pK 0 30 ?_;refine pK 1 31 ?_;refine pK 2 32 ?_;refine pK 5 35 ?_;refine pK 6 36 ?_;refine pK 7 37 ?_;refine tK 4 34 hHeld ?_ (hy:=by rintro w' ⟨s0,s1⟩;go_simp;with_reducible rfl);refine pK 8 38 ?_;refine tK 9 39 hHeld ?_ (hy:=by rintro w' ⟨s0,s1⟩;go_simp;with_reducible rfl)
         refine oK 3 (some 33) (fun K hK=>?_)
         refine Hl.goesF_ Try.func62 (by kernel_rfl) rfl #[.int .i64 x,.int .i64 4] #[.pointer (some ⟨w.heap.size,0,none⟩)] (by rfl) rfl rfl rfl (by simp only [List.map_toArray,List.map_cons,List.map_nil];rfl) ?_
         refine (leaf_get g _ w.heap.size A0 c0 l0 l0.length rfl x 4 u uok (blk_drew (blk_drewN hbk1 _)) (Kd.C_drew (Kd.C_drewN (Kd.C_below HR0.out HB.out) _)) HC0.out HX.out.1 (by omega) (by have:=HX5.out;have:=HN2.out;omega) HU.out).mono ?_
         rintro e w3 ⟨rfl,⟨m3,rfl⟩⟩
         refine ⟨_,rfl,?_⟩
         rw [huu]
         refine hK.out _ _ ⟨(blk_cell hbk1 0).trans rfl,HCV.out _ (Kd.C_drewN (Kd.C_drew (Kd.C_drewN (Kd.C_below HRC.out HB.out) _)) _)⟩ (fun hHeld=>?_)
         clear hK K;refine norm_ (a':=?_) ?_ ?_;rotate_left
         ·show Act.put _ (some 33) _=_
          simp only [Act.put,sIb,sC0,sCs,i64_w,i32_w];rfl
         refine pK 10 40 ?_
         refine oK 11 (some 41) (fun K hK=>?_)
         refine value_ (w1:=?_) (v:=?_) (by rfl) rfl ?_ ?_
         rotate_left 2
         ·go_simp
          constructor;(rfl);(rfl)
         refine hK.out _ _ ⟨(blk_cell (blk_alloc (blk_drewN hbk1 (m2+1+m3)) _) 0).trans rfl,HCV.out _ (Kd.C_alloc (Kd.C_drewN (Kd.C_below HRC.out HB.out) (m2+1+m3)) _)⟩ (fun hHeld=>?_)
         clear hK K;refine norm_ (a':=?_) ?_ ?_;rotate_left
         ·show Act.put _ (some 41) _=_
          simp only [Act.put,sIb,sC0,sCs,i64_w,i32_w];rfl
         refine oK 12 (some 42) (fun K hK=>?_)
         refine Kd.R_append_step k30 (w0:=w) w.heap.size (by rfl) (.tmp 30) (.tmp 41) 26 30 (.agg #[(.string ⟨#[]⟩),(.int .i64 0)]) 24 rfl Try.underlying26 info30 rfl (by decide) (by omega) (.slice Ao ms.length co) ms (⟨nm,uu⟩:S30) [.string nm,.int .i64 uu] (fun _=>True) (fun _=>False) rfl rfl (k30_mkM _ _ _ (⟨nm,uu⟩:S30)) (fun _ hk=>hk.elim) (fun _ _=>trivial) (Kd.R_drewN HO.out (m2+1+m3)) (pw_below_drewN HB.out (m2+1+m3)) (below_size (pw_below_drewN HB.out (m2+1+m3))) (by have:=HMS.out;omega) ?_
         intro v5 w5 ho5 hb5 hg5 hat5
         have hbk5:=blk_grown (blk_drewN hbk1 (m2+1+m3)) hg5 (Kd.R_ne (Kd.R_drewN HO.out (m2+1+m3)) (blk_drewN hbk1 (m2+1+m3)) (by decide))
         refine hK.out _ _ ⟨(blk_cell hbk5 0).trans rfl,HCV.out _ (Kd.C_below HRC.out hb5)⟩ (fun hHeld=>?_)
         clear hK K;refine norm_ (a':=?_) ?_ ?_;rotate_left
         ·show Act.put _ (some 42) _=_
          simp only [Act.put,sIb,sC0,sCs,i64_w,i32_w];rfl
         refine pK 13 5 ?_
         refine done_ (by kernel_rfl) ?_
         go_wp2
         go_roundg g
         case measure=>have:=HK.out;omega
         case rel=>exact ⟨_,y,wrap64 (i+1),by rw [hwy],rfl,HLL,⟨by have:=HK.out;omega⟩,⟨by have:=HY.out;have:=HX.out;have:=HY2.out;omega⟩,⟨hbk5⟩,⟨ho5⟩,⟨hb5⟩⟩
        ·rw [if_neg hms] at hl
         cases hl
      ·rw [if_neg hvv] at hl
       cases hl
    ·rw [if_neg hi] at hl
     have hib:decide (i < nn)=false:=decide_eq_false hi
     unfold leaf_Decode.tail at hl
     obtain ⟨⟨eb,ee⟩,he,hl⟩:=Option.bind_eq_some_iff.1 hl
     simp only [] at hl
     have HE:=am he
     clear he
     by_cases hee:ee=0
     ·subst hee
      rw [if_pos rfl] at hl
      obtain ⟨q,hq,hl⟩:=Option.bind_eq_some_iff.1 hl
      have HQ:=am hq
      clear hq
      by_cases hqt:q=true
      ·subst hqt
       rw [if_pos rfl] at hl
       obtain ⟨rfl,rfl⟩:=Prod.mk.inj (Option.some.inj hl)
       clear hl
       go_wp2_with (first|(go_at_call 61;refine (bytes_Equal.calls A2 c2 eb A0 c0 l0 true _ HR2.out HC2.out (Kd.C_below HR0.out HB2.out) HC0.out HQ.out).mono ?_;rintro e w3 ⟨rfl,⟨m3,rfl⟩⟩)|(go_at_call 24;refine (leaf_Encode.calls g Ao co ms eb 0 wr HR5.out HC5.out HE.out).mono ?_;rintro e w2 ⟨v2,rfl,ho2,hb2⟩;obtain ⟨A2,c2,rfl,hc2,hr2⟩:=Kd.R_reads ho2;have hbk2:=blk_below HBK.out hb2;have hcb2:=(blk_cell hbk2 0).trans rfl;have HR2:=am hr2;have HC2:=am hc2;have HB2:=am (HB.out.trans (hb2.mono HB.out.size));have HO2:=am (Kd.R_below HO.out hb2);clear hc2 hr2 hbk2 ho2 hb2))
       go_ret2
       exact ⟨_,rfl,Kd.R_drewN HO2.out _,pw_below_drewN HB2.out _⟩
      ·obtain rfl:q=false:=by simpa using hqt
       rw [if_neg (by decide)] at hl
       obtain ⟨rfl,rfl⟩:=Prod.mk.inj (Option.some.inj hl)
       clear hl
       go_wp2_with (first|(go_at_call 61;refine (bytes_Equal.calls A2 c2 eb A0 c0 l0 false _ HR2.out HC2.out (Kd.C_below HR0.out HB2.out) HC0.out HQ.out).mono ?_;rintro e w3 ⟨rfl,⟨m3,rfl⟩⟩)|(go_at_call 24;refine (leaf_Encode.calls g Ao co ms eb 0 wr HR5.out HC5.out HE.out).mono ?_;rintro e w2 ⟨v2,rfl,ho2,hb2⟩;obtain ⟨A2,c2,rfl,hc2,hr2⟩:=Kd.R_reads ho2;have hbk2:=blk_below HBK.out hb2;have hcb2:=(blk_cell hbk2 0).trans rfl;have HR2:=am hr2;have HC2:=am hc2;have HB2:=am (HB.out.trans (hb2.mono HB.out.size));clear hc2 hr2 hbk2 ho2 hb2))
       go_ret2
       exact ⟨_,rfl,Kd.R_nil _ _ _ _ _,pw_below_drewN HB2.out _⟩
     ·rw [if_neg hee] at hl
      obtain ⟨rfl,rfl⟩:=Prod.mk.inj (Option.some.inj hl)
      have heb:(ee != 0)=true:=bne_iff_ne.2 hee
      clear hl
      go_wp2_with (go_at_call 24;refine (leaf_Encode.calls g Ao co ms eb ee wr HR5.out HC5.out HE.out).mono ?_;rintro e w2 ⟨v2,rfl,ho2,hb2⟩;have HB2:=am (HB.out.trans (hb2.mono HB.out.size));clear ho2 hb2)
      go_ret2
      exact ⟨_,rfl,Kd.R_nil _ _ _ _ _,HB2.out⟩
 ·rw [if_neg hlen] at h
  obtain ⟨rfl,rfl⟩:=Prod.mk.inj (Option.some.inj h)
  have hlb:((l0.length:Int)==256)=false:=beq_eq_false_iff_ne.2 (by omega)
  go_enter Try.func33,Try.ntmps33
  go_wp2
  go_ret2
  exact ⟨_,rfl,Kd.R_nil _ _ _ _ _,(Below.refl _ _).alloc (Nat.le_refl _) _⟩
end Go.Proofs.Yteglhbfhibfodaa.Pr
end
section
namespace Go.Proofs.Yteglhbfhibfodaa.Lf
open Go.RowKit Go.Proofs.YteglhbfhibfodaaW.PrintWords Go.Proofs.YteglhbfhibfodaaW.PrintMore Go.Proofs.Yteglhbfhibfodaa.Pr Go.Proofs.Yteglhbfhibfodaa.Od Go.Proofs.Yteglhbfhibfodaa.Cr
set_option linter.unusedVariables false
set_option linter.unusedSimpArgs false
def entB (e : E) : List Int := bytesN 4 e.f1.toNat ++ bytesN 1 e.f0.size ++ bytesOf e.f0
def bodyL : List E → List Int
  | [] => []
  | e :: l => entB e ++ bodyL l
def headP (l : List E) : List Int := bytesN 2 l.length ++ bytesN 2 (sumL l)
def encP (l : List E) : List Int := headP l ++ bodyL l ++ List.replicate (252 - (4 + sumL l)) 0
def encR (l : List E) : List Int × Int := if right none l = true then (if sumL l > 248 then ([], 9) else (encP l ++ bytesN 4 (sumB (encP l)).toNat, 0)) else ([], 1)
theorem entB_len (e : E) : (entB e).length = 5 + e.f0.size := by
  simp only [entB, List.length_append, bytesN_len, bytesOf_length]
theorem bodyL_len : ∀ l, (bodyL l).length = sumL l
  | [] => rfl
  | e :: l => by rw [bodyL, List.length_append, entB_len, bodyL_len l, sumL]
theorem headP_len (l : List E) : (headP l).length = 4 := by simp [headP, bytesN_len]
theorem encP_len {l : List E} (h : sumL l ≤ 248) : (encP l).length = 252 := by
  rw [encP, List.length_append, List.length_append, headP_len, bodyL_len, List.length_replicate]; omega
theorem bytes_app {a b : List Int} (ha : ∀ x ∈ a, isByte x) (hb : ∀ x ∈ b, isByte x) : ∀ x ∈ a ++ b, isByte x := by
  intro x hx
  rcases List.mem_append.1 hx with h | h
  · exact ha x h
  · exact hb x h
theorem bodyL_byte : ∀ l, ∀ x ∈ bodyL l, isByte x
  | [] => by simp [bodyL]
  | e :: l => bytes_app (bytes_app (bytes_app (bytesN_byte _ _) (bytesN_byte _ _)) (isByte_bytesOf _)) (bodyL_byte l)
theorem encP_byte (l : List E) : ∀ x ∈ encP l, isByte x := by
  refine bytes_app (bytes_app (bytes_app (bytesN_byte _ _) (bytesN_byte _ _)) (bodyL_byte l)) ?_
  intro x hx
  rw [(List.mem_replicate.1 hx).2]
  unfold isByte; omega
theorem encR_byte (l : List E) : ∀ x ∈ (encR l).1, isByte x := by
  unfold encR
  split
  · split
    · simp
    · exact bytes_app (encP_byte l) (bytesN_byte _ _)
  · simp
theorem encR_len {l : List E} (h : (encR l).2 = 0) : (encR l).1.length = 256 := by
  unfold encR at h ⊢
  by_cases hr : right none l = true
  · rw [if_pos hr] at h ⊢
    by_cases hs : sumL l > 248
    · rw [if_pos hs] at h; cases h
    · rw [if_neg hs, List.length_append, encP_len (by omega), bytesN_len]
  · rw [if_neg hr] at h; cases h
theorem encR_iff {l : List E} : (encR l).2 = 0 ↔ right none l = true ∧ sumL l ≤ 248 := by
  unfold encR
  by_cases hr : right none l = true
  · rw [if_pos hr]
    by_cases hs : sumL l > 248
    · rw [if_pos hs]
      constructor
      · intro h; cases h
      · intro h; omega
    · rw [if_neg hs]
      exact ⟨fun _ => ⟨hr, by omega⟩, fun _ => rfl⟩
  · rw [if_neg hr]
    constructor
    · intro h; cases h
    · intro h; exact absurd h.1 hr
theorem u64n (n : Nat) (h : n < 18446744073709551616) : IntKind.u64.wrap (n : Int) = (n : Int) := by rw [u64w]; omega
theorem enc_ev (l : List E) (hl : l.length < 5864062014805) : Ev (fun k => leaf_Encode.f k l) (encR l) := by
  unfold leaf_Encode.f
  refine Ev.bind (size_ev l hl) ?_
  unfold sizeR encR
  by_cases hr : right none l = true
  · simp only [if_pos hr, if_true]
    by_cases hs : sumL l > 248
    · simp only [if_pos (show ((sumL l : Nat) : Int) > 248 by omega), if_pos hs]
      exact Ev.now _
    · simp only [if_neg (show ¬ ((sumL l : Nat) : Int) > 248 by omega), if_neg hs, u64n l.length (by omega), u64n (sumL l) (by omega)]
      refine Ev.bind (crc_bytes_ev _ 2 (by decide)) ?_
      refine Ev.bind (crc_bytes_ev _ 2 (by decide)) ?_
      have key : ∀ (n i : Nat) (b : List Int) (p : Option (List UInt8)), i + n = l.length → right p (l.drop i) = true → b.length + sumL (l.drop i) ≤ 252 → Ev (fun k => leaf_Encode.l0 k l (i : Int) b) (b ++ bodyL (l.drop i)) := by
        intro n
        induction n with
        | zero =>
          intro i b p hi h hb
          refine Ev.succ ?_
          simp only [leaf_Encode.l0, if_neg (show ¬((i : Int) < (l.length : Int)) by omega)]
          rw [List.drop_of_length_le (by omega), bodyL, List.append_nil]
          exact Ev.now _
        | succ n ih =>
          intro i b p hi h hb
          refine Ev.succ ?_
          have hil : i < l.length := by omega
          rw [List.drop_eq_getElem_cons hil] at h hb ⊢
          simp only [right, Bool.and_eq_true] at h
          simp only [sumL] at hb
          have hn := okE_num h.1.1
          have hz := okE_size h.1.1
          simp only [leaf_Encode.l0, if_pos (show ((i : Int) < (l.length : Int)) by omega), if_pos (show (0 : Int) ≤ (i : Int) by omega), rdT_get hil]
          rw [show IntKind.u64.wrap l[i].f1 = ((l[i].f1.toNat : Nat) : Int) by rw [u64w]; omega]
          refine Ev.bind (crc_bytes_ev _ 4 (by decide)) ?_
          rw [u64n l[i].f0.size (by omega)]
          refine Ev.bind (crc_bytes_ev _ 1 (by decide)) ?_
          simp only [bytesN_len, if_pos (show b.length + 4 + 1 + l[i].f0.size ≤ 140737488355328 by omega), w64 (show -9223372036854775808 ≤ (i : Int) + 1 by omega) (by omega)]
          have := ih (i + 1) (b ++ bytesN 4 l[i].f1.toNat ++ bytesN 1 l[i].f0.size ++ bytesOf l[i].f0) _ (by omega) h.2 (by simp only [List.length_append, bytesN_len, bytesOf_length]; omega)
          have e : b ++ bodyL (l[i] :: l.drop (i + 1)) = b ++ bytesN 4 l[i].f1.toNat ++ bytesN 1 l[i].f0.size ++ bytesOf l[i].f0 ++ bodyL (l.drop (i + 1)) := by simp only [bodyL, entB, List.append_assoc]
          rw [e]
          exact this
      have h0 := key l.length 0 (headP l) none (by omega) (by rw [List.drop_zero]; exact hr) (by rw [List.drop_zero, headP_len]; omega)
      rw [List.drop_zero] at h0
      refine Ev.bind h0 ?_
      have hlen : (headP l ++ bodyL l).length = 4 + sumL l := by rw [List.length_append, headP_len, bodyL_len]
      simp only [hlen, if_pos (show 4 + sumL l ≤ 252 by omega)]
      refine Ev.bind (crc_sum_ev _ (by rw [List.length_append, hlen, List.length_replicate]; omega)) ?_
      have hlt := (sumB (headP l ++ bodyL l ++ List.replicate (252 - (4 + sumL l)) 0)).isLt
      simp only [w64 (show -9223372036854775808 ≤ (((sumB (headP l ++ bodyL l ++ List.replicate (252 - (4 + sumL l)) 0)).toNat : Nat) : Int) by omega) (by omega), u64n _ (show (sumB (headP l ++ bodyL l ++ List.replicate (252 - (4 + sumL l)) 0)).toNat < 18446744073709551616 by omega)]
      exact Ev.bind (crc_bytes_ev _ 4 (by decide)) (Ev.now _)
  · simp only [if_neg hr, if_neg (show ¬ ((1 : Int) = 0) by decide)]
    exact Ev.now _
def tailR (b : List Int) (ms : List E) : List E × Int := if (encR ms).2 = 0 ∧ (encR ms).1 = b then (ms, 0) else ([], 13)
def decL (b : List Int) : Nat → Nat → List E → List E × Int
  | 0, _, ms => tailR b ms
  | m + 1, x, ms => if x + 5 > 252 then ([], 13) else (if x + 5 + numN ((b.take (x + 4 + 1)).drop (x + 4)) > 252 then ([], 13) else
      decL b m (x + 5 + numN ((b.take (x + 4 + 1)).drop (x + 4))) (ms ++ [⟨strOfNums ((b.take (x + 5 + numN ((b.take (x + 4 + 1)).drop (x + 4)))).drop (x + 5)), ((numN ((b.take (x + 4)).drop x) : Nat) : Int)⟩]))
def decR (b : List Int) : List E × Int := if b.length = 256 then decL b (numN (b.take 2)) 4 [] else ([], 13)
theorem slice_byte {b : List Int} (hb : ∀ x ∈ b, isByte x) (i j : Nat) : ∀ x ∈ (b.take j).drop i, isByte x := fun x hx => hb x (List.mem_of_mem_take (List.mem_of_mem_drop hx))
theorem slice_num {b : List Int} (hb : ∀ x ∈ b, isByte x) (i n : Nat) (h : i + n ≤ b.length) : numN ((b.take (i + n)).drop i) < 256 ^ n := by
  have h1 := numN_lt _ (slice_byte hb i (i + n))
  have hl : ((b.take (i + n)).drop i).length = n := by rw [List.length_drop, List.length_take]; omega
  rw [hl] at h1
  exact h1
theorem tail_ev (b : List Int) (hb : ∀ x ∈ b, isByte x) (ms : List E) (hm : ms.length < 5864062014805) : Ev (fun k => leaf_Decode.tail k b ms) (tailR b ms) := by
  unfold leaf_Decode.tail tailR
  refine Ev.bind (enc_ev ms hm) ?_
  by_cases h0 : (encR ms).2 = 0
  · simp only [if_pos h0, bytes_Equal.f, Option.bind_some, str_beq]
    by_cases h1 : (encR ms).1 = b
    · simp only [h1, h0, decide_true, if_true, and_self]
      exact Ev.now _
    · have : ¬ strOfNums (encR ms).1 = strOfNums b := fun e => h1 ((strOfNums_inj (encR_byte ms) hb).1 e)
      simp only [decide_eq_false this, Bool.false_eq_true, if_false, h1, and_false]
      exact Ev.now _
  · simp only [if_neg h0, h0, false_and, if_false]
    exact Ev.now _
theorem dec_ev (b : List Int) (hb : ∀ x ∈ b, isByte x) : Ev (fun k => leaf_Decode.f k b) (decR b) := by
  unfold leaf_Decode.f decR
  by_cases hl : b.length = 256
  · simp only [if_pos hl]
    have h2 : numN (b.take 2) < 65536 := by
      have := slice_num hb 0 2 (by omega)
      simpa using this
    have e2 : ((b.take (0 + 2 : Int).toNat).drop (0 : Int).toNat) = b.take 2 := rfl
    rw [e2]
    refine Ev.bind (crc_number_ev _ (by rw [List.length_take]; omega) (fun x hx => hb x (List.mem_of_mem_take hx))) ?_
    simp only [w64 (show -9223372036854775808 ≤ ((numN (b.take 2) : Nat) : Int) by omega) (by omega)]
    generalize numN (b.take 2) = n at h2
    have key : ∀ (m i x : Nat) (ms : List E), i + m = n → ms.length ≤ i → Ev (fun k => leaf_Decode.l0 k b (n : Int) (i : Int) (x : Int) ms) (decL b m x ms) := by
      intro m
      induction m with
      | zero =>
        intro i x ms hi hm
        refine Ev.succ ?_
        simp only [leaf_Decode.l0, if_neg (show ¬((i : Int) < (n : Int)) by omega), decL]
        exact tail_ev b hb ms (by omega)
      | succ m ih =>
        intro i x ms hi hm
        refine Ev.succ ?_
        simp only [leaf_Decode.l0, if_pos (show ((i : Int) < (n : Int)) by omega), if_pos (show (0 : Int) ≤ (x : Int) by omega), decL]
        by_cases hx : x + 5 > 252
        · simp only [if_pos hx, if_pos (show (x : Int) + 5 > 252 by omega)]
          exact Ev.now _
        · simp only [if_neg hx, if_neg (show ¬ (x : Int) + 5 > 252 by omega)]
          rw [show ((x : Int) + 4 + 1).toNat = x + 4 + 1 by omega, show ((x : Int) + 4).toNat = x + 4 by omega]
          have hv := slice_num hb (x + 4) 1 (by omega)
          refine Ev.bind (crc_number_ev _ (by rw [List.length_drop, List.length_take]; omega) (slice_byte hb _ _)) ?_
          generalize numN ((b.take (x + 4 + 1)).drop (x + 4)) = v at hv ⊢
          have hv' : v < 256 := by simpa using hv
          simp only [w64 (show -9223372036854775808 ≤ (v : Int) by omega) (by omega), if_pos (show (0 : Int) ≤ (v : Int) ∧ (v : Int) ≤ 255 by omega)]
          by_cases hy : x + 5 + v > 252
          · simp only [if_pos hy, if_pos (show (x : Int) + 5 + (v : Int) > 252 by omega)]
            exact Ev.now _
          · simp only [if_neg hy, if_neg (show ¬ (x : Int) + 5 + (v : Int) > 252 by omega)]
            rw [Int.toNat_natCast]
            have hu := slice_num hb x 4 (by omega)
            refine Ev.bind (crc_number_ev _ (by rw [List.length_drop, List.length_take]; omega) (slice_byte hb _ _)) ?_
            rw [show (256 : Nat) ^ 4 = 4294967296 from rfl] at hu
            generalize numN ((b.take (x + 4)).drop x) = u at hu ⊢
            simp only [if_pos (show ms.length < 5864062014805 by omega), w64 (show -9223372036854775808 ≤ (u : Int) by omega) (by omega), w64 (show -9223372036854775808 ≤ (i : Int) + 1 by omega) (by omega)]
            rw [show ((x : Int) + 5 + (v : Int)).toNat = x + 5 + v by omega, show ((x : Int) + 5).toNat = x + 5 by omega, show (x : Int) + 5 + (v : Int) = ((x + 5 + v : Nat) : Int) by omega]
            exact ih (i + 1) (x + 5 + v) _ (by omega) (by rw [List.length_append]; simp; omega)
    exact key n 0 4 [] (by omega) (by simp)
  · simp only [if_neg hl]
    exact Ev.now _
theorem drop_entB {b : List Int} {x : Nat} {e : E} {r : List Int} (h : b.drop x = entB e ++ r) (hs : e.f0.size < 256) (hn : 0 ≤ e.f1 ∧ e.f1 < 4294967296) :
    numN ((b.take (x + 4 + 1)).drop (x + 4)) = e.f0.size ∧ ((numN ((b.take (x + 4)).drop x) : Nat) : Int) = e.f1 ∧ strOfNums ((b.take (x + 5 + e.f0.size)).drop (x + 5)) = e.f0 ∧ b.drop (x + 5 + e.f0.size) = r := by
  have g : ∀ i j, (b.take (x + j)).drop (x + i) = ((b.drop x).take j).drop i := by
    intro i j
    rw [List.take_drop, List.drop_drop]
  have h1 : (b.drop x).take 4 = bytesN 4 e.f1.toNat := by
    rw [h, entB, List.append_assoc, List.append_assoc, List.take_append_of_le_length (by rw [bytesN_len]; omega), List.take_of_length_le (by rw [bytesN_len]; omega)]
  have h2 : ((b.drop x).take 5).drop 4 = bytesN 1 e.f0.size := by
    rw [h, entB, List.append_assoc, List.take_append_of_le_length (by rw [List.length_append, bytesN_len, bytesN_len]; omega), List.take_of_length_le (by rw [List.length_append, bytesN_len, bytesN_len]; omega), List.drop_append_of_le_length (by rw [bytesN_len]; omega), List.drop_of_length_le (by rw [bytesN_len]; omega), List.nil_append]
  have hh : (bytesN 4 e.f1.toNat ++ bytesN 1 e.f0.size).length = 5 := by rw [List.length_append, bytesN_len, bytesN_len]
  have h3 : ((b.drop x).take (5 + e.f0.size)).drop 5 = bytesOf e.f0 := by
    rw [h, List.take_append_of_le_length (by rw [entB_len]; omega), List.take_of_length_le (by rw [entB_len]; omega), entB, ← hh, List.drop_left]
  have h4 : (b.drop x).drop (5 + e.f0.size) = r := by rw [h, ← entB_len, List.drop_left]
  refine ⟨?_, ?_, ?_, ?_⟩
  · rw [show x + 4 + 1 = x + 5 by omega, g, h2, numN_bytesN _ _ (by omega)]
  · have := g 0 4
    rw [Nat.add_zero, List.drop_zero] at this
    rw [this, h1, numN_bytesN _ _ (by rw [show (256 : Nat) ^ 4 = 4294967296 from rfl]; omega)]
    omega
  · rw [Nat.add_assoc, g, h3, str_bytes]
  · rw [List.drop_drop] at h4
    rw [Nat.add_assoc]; exact h4
theorem sumL_append : ∀ a b : List E, sumL (a ++ b) = sumL a + sumL b
  | [], b => by simp [sumL]
  | e :: a, b => by rw [List.cons_append, sumL, sumL, sumL_append a b]; omega
theorem bodyL_append : ∀ a b : List E, bodyL (a ++ b) = bodyL a ++ bodyL b
  | [], b => rfl
  | e :: a, b => by rw [List.cons_append, bodyL, bodyL, bodyL_append a b, List.append_assoc]
theorem dec_enc {l : List E} (h : (encR l).2 = 0) : decR (encR l).1 = (l, 0) := by
  have hi := encR_iff.1 h
  have hlen := encR_len h
  have he : (encR l).1 = encP l ++ bytesN 4 (sumB (encP l)).toNat := by unfold encR; rw [if_pos hi.1, if_neg (by omega)]
  unfold decR
  rw [if_pos hlen]
  have hsum : 5 * l.length ≤ sumL l := by
    have : ∀ l : List E, 5 * l.length ≤ sumL l := by
      intro l
      induction l with
      | nil => simp [sumL]
      | cons e l ih => simp only [sumL, List.length_cons]; omega
    exact this l
  have hn : numN ((encR l).1.take 2) = l.length := by
    rw [he, encP, headP, List.append_assoc, List.append_assoc, List.append_assoc, List.take_append_of_le_length (by rw [bytesN_len]; omega), List.take_of_length_le (by rw [bytesN_len]; omega), numN_bytesN _ _ (by omega)]
  rw [hn]
  have hbody : ∃ r, (encR l).1 = headP l ++ (bodyL l ++ r) := ⟨List.replicate (252 - (4 + sumL l)) 0 ++ bytesN 4 (sumB (encP l)).toNat, by rw [he, encP]; simp only [List.append_assoc]⟩
  obtain ⟨r, hr⟩ := hbody
  have key : ∀ (suf pre : List E) p, pre ++ suf = l → right p suf = true → decL (encR l).1 suf.length (4 + sumL pre) pre = (l, 0) := by
    intro suf
    induction suf with
    | nil =>
      intro pre p hp _
      rw [List.append_nil] at hp
      subst hp
      simp only [List.length_nil, decL, tailR]
      rw [if_pos ⟨h, trivial⟩]
    | cons e suf ih =>
      intro pre p hp hrt
      simp only [right, Bool.and_eq_true] at hrt
      have hz := okE_size hrt.1.1
      have hnm := okE_num hrt.1.1
      have hsl : sumL l = sumL pre + (5 + e.f0.size + sumL suf) := by rw [← hp, sumL_append, sumL]
      have hd : (encR l).1.drop (4 + sumL pre) = entB e ++ (bodyL suf ++ r) := by
        rw [hr, ← hp, bodyL_append, bodyL]
        have e1 : headP (pre ++ e :: suf) ++ (bodyL pre ++ (entB e ++ bodyL suf) ++ r) = (headP (pre ++ e :: suf) ++ bodyL pre) ++ (entB e ++ (bodyL suf ++ r)) := by simp only [List.append_assoc]
        have e2 : (headP (pre ++ e :: suf) ++ bodyL pre).length = 4 + sumL pre := by rw [List.length_append, headP_len, bodyL_len]
        rw [e1, ← e2, List.drop_left]
      obtain ⟨d1, d2, d3, d4⟩ := drop_entB hd (by omega) (by omega)
      simp only [List.length_cons, decL, d1, d2, d3]
      rw [if_neg (by omega), if_neg (by omega)]
      have := ih (pre ++ [e]) _ (by rw [List.append_assoc]; exact hp) hrt.2
      rw [sumL_append] at this
      simp only [sumL] at this
      rw [show 4 + sumL pre + 5 + e.f0.size = 4 + (sumL pre + (5 + e.f0.size + 0)) by omega]
      exact this
  have := key l [] none rfl hi.1
  simpa [sumL] using this
theorem decL_ok {b : List Int} : ∀ (m x : Nat) (ms : List E), (decL b m x ms).2 = 0 → (encR (decL b m x ms).1).2 = 0 ∧ (encR (decL b m x ms).1).1 = b
  | 0, x, ms, h => by
    simp only [decL, tailR] at h ⊢
    by_cases hc : (encR ms).2 = 0 ∧ (encR ms).1 = b
    · rw [if_pos hc]; exact hc
    · rw [if_neg hc] at h; cases h
  | m + 1, x, ms, h => by
    simp only [decL] at h ⊢
    by_cases hx : x + 5 > 252
    · rw [if_pos hx] at h; cases h
    · rw [if_neg hx] at h ⊢
      split at h
      · cases h
      · rename_i hy
        rw [if_neg hy]
        exact decL_ok m _ _ h
theorem decR_ok {b : List Int} (h : (decR b).2 = 0) : (encR (decR b).1).2 = 0 ∧ (encR (decR b).1).1 = b := by
  unfold decR at h ⊢
  by_cases hl : b.length = 256
  · rw [if_pos hl] at h ⊢; exact decL_ok _ _ _ h
  · rw [if_neg hl] at h; cases h
end Go.Proofs.Yteglhbfhibfodaa.Lf
end
section
namespace Go.Proofs.Yteglhbfhibfodaa.Ht
open Go.RowKit Go.Proofs.YteglhbfhibfodaaW.PrintWords Go.Proofs.YteglhbfhibfodaaW.PrintMore Go.Proofs.Yteglhbfhibfodaa.Pr Go.Proofs.Yteglhbfhibfodaa.Od Go.Proofs.Yteglhbfhibfodaa.Cr Go.Proofs.Yteglhbfhibfodaa.Lf
set_option linter.unusedVariables false
set_option linter.unusedSimpArgs false
abbrev R := S76
def sumN (s : ByteArray) : Int := ((sumB (bytesOf s)).toNat : Int)
def ltE (a b : E) : Bool := decide (sumN a.f0 < sumN b.f0) || (decide (sumN a.f0 = sumN b.f0) && less (nb a) (nb b))
def ltN (a b : E) : Bool := less (nb a) (nb b)
def oneRow (r : R) : List Int := bytesN 4 r.f0.toNat ++ bytesN 4 r.f1.toNat
def ixBody (rs : List R) : List Int := bytesN 2 rs.length ++ bytesN 2 65535 ++ rs.flatMap oneRow
def ixPad (rs : List R) : List Int := ixBody rs ++ List.replicate (252 - (ixBody rs).length) 0
def ixB (rs : List R) : List Int := ixPad rs ++ bytesN 4 (sumB (ixPad rs)).toNat
def num4 (b : List Int) (i : Nat) : Int := ((numN ((b.take (i + 4)).drop i) : Nat) : Int)
def rowAt (b : List Int) (i : Nat) : R := ⟨num4 b (4 + 8 * i), num4 b (8 + 8 * i)⟩
def rowsOf (b : List Int) (n : Nat) : List R := (List.range n).map (rowAt b)
def rowsUp (n : Nat) : Option Int → List R → Bool
  | _, [] => true
  | p, r :: rs => decide (1 ≤ r.f1) && decide (r.f1 ≤ n) && (match p with | none => true | some s => decide (s < r.f0)) && rowsUp n (some r.f0) rs
def ixP (b : List Int) (n : Nat) : Option (List R) :=
  if b.length = 256 ∧ 2 ≤ n ∧ n ≤ 30 ∧ rowsUp n none (rowsOf b n) = true ∧ (rowAt b 0).f0 = 0 ∧ ((rowsOf b n).map (·.f1)).Nodup ∧ ixB (rowsOf b n) = b then some (rowsOf b n) else none
def blk (d : List (List Int)) (i : Int) : List Int := d.getD i.toNat []
def inRow (r : R) (nx : Option Int) (x : E) : Bool := decide (r.f0 ≤ sumN x.f0) && (match nx with | none => true | some s => decide (sumN x.f0 < s))
def leavesP (d : List (List Int)) : List R → Option (List (List E))
  | [] => some []
  | r :: rs => if (decR (blk d r.f1)).2 = 0 ∧ (decR (blk d r.f1)).1.all (inRow r (rs.head?.map (·.f0))) = true then (leavesP d rs).map ((decR (blk d r.f1)).1 :: ·) else none
def rowsP (d : List (List Int)) : Option (List R) := match d with
  | [] => none
  | [_] => some [⟨0, 0⟩]
  | b :: r => ixP b r.length
def readP (d : List (List Int)) : Option (List R × List (List E)) := (rowsP d).bind fun rs => (leavesP d rs).map fun ls => (rs, ls)
def atP (rs : List R) (s : Int) : Nat := (rs.takeWhile (fun r => decide (r.f0 ≤ s))).length - 1
def posP (l : List E) (nm : ByteArray) : Nat := (l.takeWhile (fun e => less (nb e) nm.data.toList)).length
def thereP (l : List E) (nm : ByteArray) : Bool := l.any (fun e => decide (e.f0 = nm))
def mayX (x : E) : Bool := mayB x.f0 && decide (0 ≤ x.f1) && decide (x.f1 ≤ 1048576)
def leafAt (rs : List R) (ls : List (List E)) (nm : ByteArray) : List E := ls.getD (atP rs (sumN nm)) []
def withP (d : List (List Int)) (b : Int) (l : List E) : List (List Int) × Int := if (encR l).2 = 0 then (d.set b.toNat (encR l).1, 0) else ([], (encR l).2)
def unlike (l : List E) (c : Nat) : Bool := decide (sumN (l.getD c ⟨⟨#[]⟩, 0⟩).f0 ≠ sumN (l.getD (c - 1) ⟨⟨#[]⟩, 0⟩).f0)
def upP (l : List E) : Nat → Nat → Option Nat
  | _, 0 => none
  | c, n + 1 => if unlike l c = true then some c else upP l (c + 1) n
def downP (l : List E) : Nat → Nat
  | 0 => 0
  | c + 1 => if unlike l (c + 1) = true then c + 1 else downP l c
def cutP (l : List E) : Nat := (upP l ((l.length + 1) / 2) (l.length - (l.length + 1) / 2)).getD (downP l ((l.length + 1) / 2 - 1))
def splitP (d : List (List Int)) (rs : List R) (a : Nat) (l : List E) : List (List Int) × Int :=
  let s := isort ltE l
  let c := cutP s
  if c = 0 ∨ rs.length = 30 then ([], 9) else
  let lo := encR (isort ltN (s.take c))
  let hi := encR (isort ltN (s.drop c))
  let border := sumN (s.getD c ⟨⟨#[]⟩, 0⟩).f0
  if lo.2 ≠ 0 then ([], lo.2) else if hi.2 ≠ 0 then ([], hi.2) else
  if d.length = 1 then ([ixB [⟨0, 1⟩, ⟨border, 2⟩], lo.1, hi.1], 0) else
  (((d ++ [hi.1]).set (rs.getD a ⟨0, 0⟩).f1.toNat lo.1).set 0 (ixB (rs.take (a + 1) ++ ⟨border, d.length⟩ :: rs.drop (a + 1))), 0)
def checkP (d : List (List Int)) : Int := if (readP d).isSome then 0 else 13
def addP (d : List (List Int)) (x : E) : List (List Int) × Int := match readP d with
  | none => ([], 13)
  | some (rs, ls) => if mayX x = false then ([], 1) else
    let a := atP rs (sumN x.f0)
    let l := ls.getD a []
    if thereP l x.f0 = true then ([], 4) else
    let l2 := l.take (posP l x.f0) ++ x :: l.drop (posP l x.f0)
    let w := withP d (rs.getD a ⟨0, 0⟩).f1 l2
    if w.2 = 9 then splitP d rs a l2 else w
def removeP (d : List (List Int)) (nm : ByteArray) : List (List Int) × Int := match readP d with
  | none => ([], 13)
  | some (rs, ls) => if mayB nm = false then ([], 1) else
    let a := atP rs (sumN nm)
    let l := ls.getD a []
    if thereP l nm = false then ([], 3) else withP d (rs.getD a ⟨0, 0⟩).f1 (l.take (posP l nm) ++ l.drop (posP l nm + 1))
def setP (d : List (List Int)) (x : E) : List (List Int) × Int := match readP d with
  | none => ([], 13)
  | some (rs, ls) => if mayX x = false then ([], 1) else
    let a := atP rs (sumN x.f0)
    let l := ls.getD a []
    if thereP l x.f0 = false then ([], 3) else withP d (rs.getD a ⟨0, 0⟩).f1 (l.set (posP l x.f0) x)
def findP (d : List (List Int)) (nm : ByteArray) : Int × Int := match readP d with
  | none => (0, 13)
  | some (rs, ls) => if mayB nm = false then (0, 1) else
    let l := leafAt rs ls nm
    if thereP l nm = false then (0, 3) else ((l.getD (posP l nm) ⟨⟨#[]⟩, 0⟩).f1, 0)
def afterP (d : List (List Int)) (nm : ByteArray) (n : Int) : List E × Int := match readP d with
  | none => ([], 13)
  | some (rs, ls) =>
    let from_ := if nm.size = 0 then 0 else atP rs (sumN nm)
    ((((ls.drop from_).flatMap (isort ltE)).filter (fun x => decide (nm.size = 0) || ltE ⟨nm, 0⟩ x)).take n.toNat, 0)
end Go.Proofs.Yteglhbfhibfodaa.Ht
end
section
namespace Go.Proofs.Yteglhbfhibfodaa.Ht
open Go.RowKit Go.Proofs.YteglhbfhibfodaaW.PrintWords Go.Proofs.YteglhbfhibfodaaW.PrintMore Go.Proofs.Yteglhbfhibfodaa.Pr Go.Proofs.Yteglhbfhibfodaa.Od Go.Proofs.Yteglhbfhibfodaa.Cr Go.Proofs.Yteglhbfhibfodaa.Lf
set_option linter.unusedVariables false
set_option linter.unusedSimpArgs false
section
variable {α : Type} {q : α → Bool}
theorem tw_true : ∀ (l : List α) (m : Nat) (h : m < l.length), m < (l.takeWhile q).length → q l[m] = true
  | [], m, h, _ => absurd h (by simp)
  | x :: l, m, h, hm => by
    by_cases hx : q x = true
    · rw [List.takeWhile_cons_of_pos hx, List.length_cons] at hm
      cases m with
      | zero => exact hx
      | succ m => exact tw_true l m (by simpa using h) (by omega)
    · rw [List.takeWhile_cons_of_neg hx] at hm
      cases hm
theorem tw_false : ∀ (l : List α) (h : (l.takeWhile q).length < l.length), q (l[(l.takeWhile q).length]'h) = false
  | [], h => absurd h (by simp)
  | x :: l, h => by
    by_cases hx : q x = true
    · have e := List.takeWhile_cons_of_pos (l := l) hx
      have e2 : ((x :: l).takeWhile q).length = (l.takeWhile q).length + 1 := by rw [e, List.length_cons]
      have h2 : (l.takeWhile q).length < l.length := by rw [e2, List.length_cons] at h; omega
      have := tw_false l h2
      simp only [e2, List.getElem_cons_succ]
      exact this
    · have e := List.takeWhile_cons_of_neg (l := l) hx
      have e2 : ((x :: l).takeWhile q).length = 0 := by rw [e]; rfl
      simp only [e2, List.getElem_cons_zero]
      simpa using hx
theorem tw_le (l : List α) : (l.takeWhile q).length ≤ l.length := (List.takeWhile_prefix q).length_le
end
theorem right_pair : ∀ (l : List E) (p : Option (List UInt8)), right p l = true → (∀ s, p = some s → ∀ e ∈ l, less s (nb e) = true) ∧ l.Pairwise (fun a b => less (nb a) (nb b) = true)
  | [], _, _ => ⟨fun _ _ _ h => (by cases h), List.Pairwise.nil⟩
  | e :: l, p, h => by
    simp only [right, Bool.and_eq_true] at h
    obtain ⟨h1, h2⟩ := right_pair l _ h.2
    refine ⟨fun s hs x hx => ?_, List.pairwise_cons.2 ⟨fun x hx => h1 _ rfl x hx, h2⟩⟩
    have h3 : less s (nb e) = true := by have := h.1.2; rw [hs] at this; exact this
    rcases List.mem_cons.1 hx with rfl | hx
    · exact h3
    · exact less_trans h3 (h1 _ rfl x hx)
theorem right_ok : ∀ (l : List E) (p : Option (List UInt8)), right p l = true → ∀ e ∈ l, okE e = true
  | [], _, _ => fun _ h => by cases h
  | e :: l, p, h => by
    simp only [right, Bool.and_eq_true] at h
    intro x hx
    rcases List.mem_cons.1 hx with rfl | hx
    · exact h.1.1
    · exact right_ok l _ h.2 x hx
theorem right_of : ∀ (l : List E) (p : Option (List UInt8)), (∀ e ∈ l, okE e = true) → l.Pairwise (fun a b => less (nb a) (nb b) = true) → (∀ s, p = some s → ∀ e ∈ l, less s (nb e) = true) → right p l = true
  | [], _, _, _, _ => rfl
  | e :: l, p, h1, h2, h3 => by
    obtain ⟨h4, h5⟩ := List.pairwise_cons.1 h2
    simp only [right, Bool.and_eq_true]
    refine ⟨⟨h1 e (List.mem_cons_self ..), ?_⟩, right_of l _ (fun x hx => h1 x (List.mem_cons_of_mem _ hx)) h5 (fun s hs x hx => by cases hs; exact h4 x hx)⟩
    cases p with
    | none => rfl
    | some s => exact h3 s rfl e (List.mem_cons_self ..)
theorem right_iff {l : List E} : right none l = true ↔ (∀ e ∈ l, okE e = true) ∧ l.Pairwise (fun a b => less (nb a) (nb b) = true) :=
  ⟨fun h => ⟨right_ok l _ h, (right_pair l _ h).2⟩, fun h => right_of l _ h.1 h.2 (fun s hs => by cases hs)⟩
theorem sum_ge : ∀ (l : List E), (∀ e ∈ l, okE e = true) → 6 * l.length ≤ sumL l
  | [], _ => Nat.le_refl _
  | e :: l, h => by
    have h1 := okE_size (h e (List.mem_cons_self ..))
    have h2 := sum_ge l (fun x hx => h x (List.mem_cons_of_mem _ hx))
    simp only [sumL, List.length_cons]
    omega
theorem num4_lt {b : List Int} (hb : ∀ x ∈ b, isByte x) (i : Nat) : 0 ≤ num4 b i ∧ num4 b i < 4294967296 := by
  unfold num4
  have h := numN_lt ((b.take (i + 4)).drop i) (slice_byte hb i (i + 4))
  have h2 : ((b.take (i + 4)).drop i).length ≤ 4 := by rw [List.length_drop, List.length_take]; omega
  have h3 : 256 ^ ((b.take (i + 4)).drop i).length ≤ 256 ^ 4 := Nat.pow_le_pow_right (by decide) h2
  have h4 : (256 : Nat) ^ 4 = 4294967296 := by decide
  omega
theorem rowsUp_spec (n : Nat) : ∀ (rs : List R) (p : Option Int), rowsUp n p rs = true → (∀ r ∈ rs, 1 ≤ r.f1 ∧ r.f1 ≤ n) ∧ (∀ s, p = some s → ∀ r ∈ rs, s < r.f0) ∧ rs.Pairwise (fun a b => a.f0 < b.f0)
  | [], _, _ => ⟨fun _ h => (by cases h), fun _ _ _ h => (by cases h), List.Pairwise.nil⟩
  | r :: rs, p, h => by
    simp only [rowsUp, Bool.and_eq_true, decide_eq_true_eq] at h
    obtain ⟨h1, h2, h3⟩ := rowsUp_spec n rs _ h.2
    refine ⟨fun x hx => ?_, fun s hs x hx => ?_, List.pairwise_cons.2 ⟨fun x hx => h2 _ rfl x hx, h3⟩⟩
    · rcases List.mem_cons.1 hx with rfl | hx
      · exact ⟨h.1.1.1, h.1.1.2⟩
      · exact h1 x hx
    · have h4 : s < r.f0 := by have := h.1.2; rw [hs] at this; exact of_decide_eq_true this
      rcases List.mem_cons.1 hx with rfl | hx
      · exact h4
      · have := h2 _ rfl x hx; omega
theorem rowsUp_of (n : Nat) : ∀ (rs : List R) (p : Option Int), (∀ r ∈ rs, 1 ≤ r.f1 ∧ r.f1 ≤ n) → (∀ s, p = some s → ∀ r ∈ rs, s < r.f0) → rs.Pairwise (fun a b => a.f0 < b.f0) → rowsUp n p rs = true
  | [], _, _, _, _ => rfl
  | r :: rs, p, h1, h2, h3 => by
    obtain ⟨h4, h5⟩ := List.pairwise_cons.1 h3
    simp only [rowsUp, Bool.and_eq_true, decide_eq_true_eq]
    refine ⟨⟨h1 r (List.mem_cons_self ..), ?_⟩, rowsUp_of n rs _ (fun x hx => h1 x (List.mem_cons_of_mem _ hx)) (fun s hs x hx => by cases hs; exact h4 x hx) h5⟩
    cases p with
    | none => rfl
    | some s => exact decide_eq_true (h2 s rfl r (List.mem_cons_self ..))
theorem rowsOf_len (b : List Int) (n : Nat) : (rowsOf b n).length = n := by simp [rowsOf]
theorem rowsOf_get {b : List Int} {n i : Nat} (h : i < (rowsOf b n).length) : (rowsOf b n)[i] = rowAt b i := by simp [rowsOf]
structure RowsOk (n : Nat) (rs : List R) : Prop where
  low : 1 ≤ rs.length
  high : rs.length ≤ 30
  up : rs.Pairwise (fun a b => a.f0 < b.f0)
  first : ∀ (h : 0 < rs.length), rs[0].f0 = 0
  num : ∀ r ∈ rs, 0 ≤ r.f0 ∧ r.f0 < 4294967296
  blk : ∀ r ∈ rs, 0 ≤ r.f1 ∧ r.f1 < n
  nodup : (rs.map (·.f1)).Nodup
  one : n = 1 → rs = [⟨0, 0⟩]
  more : 1 < n → rs.length + 1 = n ∧ ∀ r ∈ rs, 1 ≤ r.f1
def bytesD (d : List (List Int)) : Prop := ∀ b ∈ d, ∀ x ∈ b, isByte x
theorem rowsP_ok {d : List (List Int)} (hd : bytesD d) {rs : List R} (h : rowsP d = some rs) : RowsOk d.length rs := by
  match d, h with
  | [], h => cases h
  | [b], h =>
    obtain rfl := Option.some.inj h
    exact ⟨by decide, by decide, by simp, fun _ => rfl, by simp, by simp, by simp, fun _ => rfl, fun h => absurd h (by simp)⟩
  | b :: c :: d, h =>
    have h : ixP b (c :: d).length = some rs := h
    unfold ixP at h
    split at h
    · next hc =>
      obtain rfl := Option.some.inj h
      obtain ⟨h1, h2, h3, h4, h5, h6, h7⟩ := hc
      obtain ⟨h8, _, h9⟩ := rowsUp_spec _ _ _ h4
      have hb := hd b (List.mem_cons_self ..)
      have hm : ∀ r ∈ rowsOf b (c :: d).length, 0 ≤ r.f0 ∧ r.f0 < 4294967296 := fun r hr => by
        unfold rowsOf at hr
        obtain ⟨i, _, rfl⟩ := List.mem_map.1 hr
        exact num4_lt hb _
      refine ⟨by rw [rowsOf_len]; omega, by rw [rowsOf_len]; exact h3, h9, fun h => by rw [rowsOf_get]; exact h5, hm, fun r hr => ?_, h6, fun h => absurd h (by simp), fun _ => ⟨by rw [rowsOf_len]; simp, fun r hr => (h8 r hr).1⟩⟩
      have := h8 r hr
      simp only [List.length_cons] at this ⊢
      omega
    · cases h
theorem leavesP_spec {d : List (List Int)} : ∀ {rs : List R} {ls : List (List E)}, leavesP d rs = some ls → ls.length = rs.length ∧ ∀ (i : Nat) (h : i < rs.length), (decR (blk d rs[i].f1)).2 = 0 ∧ ls.getD i [] = (decR (blk d rs[i].f1)).1 ∧ (ls.getD i []).all (inRow rs[i] ((rs[i + 1]?).map (·.f0))) = true
  | [], ls, h => by obtain rfl := Option.some.inj h; exact ⟨rfl, fun i h => absurd h (by simp)⟩
  | r :: rs, ls, h => by
    unfold leavesP at h
    split at h
    · next hc =>
      obtain ⟨ms, hms, rfl⟩ := Option.map_eq_some_iff.1 h
      obtain ⟨h1, h2⟩ := leavesP_spec hms
      refine ⟨by simp [h1], fun i hi => ?_⟩
      cases i with
      | zero =>
        refine ⟨hc.1, rfl, ?_⟩
        have := hc.2
        rw [List.head?_eq_getElem?] at this
        exact this
      | succ i => exact h2 i (by simpa using hi)
    · cases h
structure LeavesOk (rs : List R) (ls : List (List E)) : Prop where
  len : ls.length = rs.length
  leaf : ∀ l ∈ ls, right none l = true ∧ sumL l ≤ 248
  inr : ∀ (i : Nat) (h : i < rs.length), ∀ x ∈ ls.getD i [], inRow rs[i] ((rs[i + 1]?).map (·.f0)) x = true
theorem leavesP_ok {d : List (List Int)} {rs : List R} {ls : List (List E)} (h : leavesP d rs = some ls) : LeavesOk rs ls := by
  obtain ⟨h1, h2⟩ := leavesP_spec h
  refine ⟨h1, fun l hl => ?_, fun i hi x hx => List.all_eq_true.1 (h2 i hi).2.2 x hx⟩
  obtain ⟨i, hi, rfl⟩ := List.getElem_of_mem hl
  obtain ⟨h3, h4, _⟩ := h2 i (by omega)
  have e : ls.getD i [] = ls[i] := by rw [List.getD_eq_getElem?_getD, List.getElem?_eq_getElem hi]; rfl
  rw [e] at h4
  rw [h4]
  exact encR_iff.1 (decR_ok h3).1
theorem readP_some {d : List (List Int)} {rs : List R} {ls : List (List E)} (h : readP d = some (rs, ls)) : rowsP d = some rs ∧ leavesP d rs = some ls := by
  unfold readP at h
  obtain ⟨rs', h1, h2⟩ := Option.bind_eq_some_iff.1 h
  obtain ⟨ls', h3, h4⟩ := Option.map_eq_some_iff.1 h2
  cases h4
  exact ⟨h1, h3⟩
theorem readP_ok {d : List (List Int)} (hd : bytesD d) {rs : List R} {ls : List (List E)} (h : readP d = some (rs, ls)) : RowsOk d.length rs ∧ LeavesOk rs ls :=
  ⟨rowsP_ok hd (readP_some h).1, leavesP_ok (readP_some h).2⟩
theorem readP_len {d : List (List Int)} (hd : bytesD d) {rs : List R} {ls : List (List E)} (h : readP d = some (rs, ls)) : d.length ≤ 31 ∧ 1 ≤ d.length := by
  obtain ⟨h1, _⟩ := readP_ok hd h
  rcases Nat.lt_or_ge 1 d.length with h2 | h2
  · have := h1.more h2; have := h1.high; omega
  · have h3 : d ≠ [] := fun e => by subst e; cases h
    have := List.length_pos_iff.2 h3
    omega
theorem decR_len {b : List Int} (h : (decR b).2 = 0) : b.length = 256 := by
  unfold decR at h
  split at h
  · next hl => exact hl
  · cases h
theorem len_le : ∀ (m : Nat) (l : List Int), l.Nodup → (∀ x ∈ l, 1 ≤ x ∧ x ≤ m) → l.length ≤ m
  | 0, [], _, _ => Nat.le_refl _
  | 0, x :: l, _, h => by have := h x (List.mem_cons_self ..); omega
  | m + 1, l, hn, h => by
    have h1 := len_le m (l.erase ((m + 1 : Nat) : Int)) (List.Pairwise.sublist List.erase_sublist hn) (fun x hx => by
      have h2 := (List.Nodup.mem_erase_iff hn).1 hx
      have h3 := h x h2.2
      have h4 := h2.1
      omega)
    by_cases hm : ((m + 1 : Nat) : Int) ∈ l
    · rw [List.length_erase_of_mem hm] at h1; omega
    · rw [List.erase_of_not_mem hm] at h1; omega
theorem mem_all {n : Nat} {l : List Int} (hn : l.Nodup) (hl : l.length = n) (h : ∀ x ∈ l, 1 ≤ x ∧ x ≤ n) {j : Int} (hj : 1 ≤ j ∧ j ≤ n) : j ∈ l := by
  by_cases hm : j ∈ l
  · exact hm
  · have := len_le n (j :: l) (List.nodup_cons.2 ⟨hm, hn⟩) (fun x hx => by
      rcases List.mem_cons.1 hx with rfl | hx
      · exact hj
      · exact h x hx)
    simp at this
    omega
theorem rowsP_first {b c : List Int} {d : List (List Int)} {rs : List R} (h : rowsP (b :: c :: d) = some rs) : b.length = 256 := by
  have h : ixP b (c :: d).length = some rs := h
  unfold ixP at h
  split at h
  · next hc => exact hc.1
  · cases h
theorem readP_blocks {d : List (List Int)} (hd : bytesD d) {rs : List R} {ls : List (List E)} (h : readP d = some (rs, ls)) : ∀ b ∈ d, b.length = 256 := by
  obtain ⟨h1, h2⟩ := readP_some h
  have h3 := rowsP_ok hd h1
  obtain ⟨_, h4⟩ := leavesP_spec h2
  have key : ∀ (j : Nat) (hj : j < d.length), (j : Int) ∈ rs.map (·.f1) → d[j].length = 256 := fun j hj hm => by
    obtain ⟨r, hr, he⟩ := List.mem_map.1 hm
    obtain ⟨i, hi, rfl⟩ := List.getElem_of_mem hr
    have h5 := decR_len (h4 i hi).1
    rw [he] at h5
    unfold blk at h5
    rw [Int.toNat_natCast, List.getD_eq_getElem?_getD, List.getElem?_eq_getElem hj] at h5
    exact h5
  intro b hb
  obtain ⟨j, hj, rfl⟩ := List.getElem_of_mem hb
  match d, h1, h3, key, hj with
  | [], h1, _, _, hj => simp at hj
  | [b], h1, h3, key, hj =>
    obtain rfl := h3.one rfl
    exact key j hj (by have : j = 0 := by simp at hj; omega
                       subst this; simp)
  | b :: c :: d, h1, h3, key, hj =>
    cases j with
    | zero => exact rowsP_first h1
    | succ j =>
      obtain ⟨h6, h7⟩ := h3.more (by simp)
      refine key (j + 1) hj (mem_all (n := (c :: d).length) h3.nodup (by rw [List.length_map]; simp at h6 ⊢; omega) (fun x hx => ?_) ?_)
      · obtain ⟨r, hr, rfl⟩ := List.mem_map.1 hx
        have := h3.blk r hr
        have := h7 r hr
        simp only [List.length_cons] at *
        omega
      · simp only [List.length_cons] at hj ⊢
        omega
theorem leaf_len {l : List E} (h : right none l = true ∧ sumL l ≤ 248) : l.length ≤ 41 := by
  have := sum_ge l (right_ok l _ h.1)
  omega
theorem atP_lt {n : Nat} {rs : List R} (h : RowsOk n rs) (s : Int) : atP rs s < rs.length := by
  unfold atP
  have := tw_le (q := fun r : R => decide (r.f0 ≤ s)) rs
  have := h.low
  omega
theorem tw_rows {n : Nat} {rs : List R} (h : RowsOk n rs) {s : Int} (hs : 0 ≤ s) : 1 ≤ (rs.takeWhile (fun r => decide (r.f0 ≤ s))).length := by
  have h1 := h.low
  have h0 := h.first (by omega)
  cases rs with
  | nil => simp at h1
  | cons r rs =>
    have h0 : r.f0 = 0 := h0
    rw [List.takeWhile_cons_of_pos (by simp only [decide_eq_true_eq]; omega)]
    simp
theorem sumN_nn (s : ByteArray) : 0 ≤ sumN s ∧ sumN s < 4294967296 := by
  unfold sumN
  have := (sumB (bytesOf s)).isLt
  omega
theorem getD_at {α : Type} {l : List α} {i : Nat} (h : i < l.length) (x : α) : l.getD i x = l[i] := by rw [List.getD_eq_getElem?_getD, List.getElem?_eq_getElem h]; rfl
theorem at_row {n : Nat} {rs : List R} (h : RowsOk n rs) (s : Int) (hs : 0 ≤ s) : (rs[atP rs s]'(atP_lt h s)).f0 ≤ s ∧ ∀ (i : Nat) (hi : i < rs.length), atP rs s < i → s < rs[i].f0 := by
  have h1 := tw_rows h hs
  refine ⟨?_, fun i hi hl => ?_⟩
  · have := tw_true (q := fun r : R => decide (r.f0 ≤ s)) rs (atP rs s) (atP_lt h s) (by unfold atP; omega)
    exact of_decide_eq_true this
  · have h2 : (rs.takeWhile (fun r => decide (r.f0 ≤ s))).length ≤ i := by unfold atP at hl; omega
    have h3 := tw_false (q := fun r : R => decide (r.f0 ≤ s)) rs (by omega)
    have h3 : ¬ (rs[(rs.takeWhile (fun r => decide (r.f0 ≤ s))).length]'(by omega)).f0 ≤ s := of_decide_eq_false h3
    rcases Nat.lt_or_ge (rs.takeWhile (fun r => decide (r.f0 ≤ s))).length i with h4 | h4
    · have := List.pairwise_iff_getElem.1 h.up _ i (by omega) hi h4
      omega
    · obtain rfl : i = (rs.takeWhile (fun r => decide (r.f0 ≤ s))).length := by omega
      omega
theorem posP_le (l : List E) (nm : ByteArray) : posP l nm ≤ l.length := tw_le l
theorem there_at {l : List E} (h : l.Pairwise (fun a b => less (nb a) (nb b) = true)) (nm : ByteArray) : thereP l nm = true ↔ ∃ h : posP l nm < l.length, (l[posP l nm]'h).f0 = nm := by
  unfold thereP
  rw [List.any_eq_true]
  constructor
  · rintro ⟨e, he, hn⟩
    have hn : e.f0 = nm := of_decide_eq_true hn
    obtain ⟨i, hi, rfl⟩ := List.getElem_of_mem he
    have h1 : posP l nm ≤ i := by
      rcases Nat.lt_or_ge i (posP l nm) with h2 | h2
      · have := tw_true (q := fun e : E => less (nb e) nm.data.toList) l i hi h2
        simp only [nb, hn, less_irrefl] at this
        cases this
      · exact h2
    have hp : posP l nm < l.length := by omega
    refine ⟨hp, ?_⟩
    rcases Nat.lt_or_ge (posP l nm) i with h2 | h2
    · have h3 := List.pairwise_iff_getElem.1 h _ i hp hi h2
      have h4 := tw_false (q := fun e : E => less (nb e) nm.data.toList) l hp
      have h4 : less (nb (l[posP l nm]'hp)) nm.data.toList = false := h4
      rw [show nb l[i] = nm.data.toList by simp only [nb, hn]] at h3
      rw [h3] at h4
      cases h4
    · have e : posP l nm = i := by omega
      simp only [e]
      exact hn
  · rintro ⟨hp, hn⟩
    exact ⟨_, List.getElem_mem hp, decide_eq_true hn⟩
theorem pos_high {l : List E} (h : l.Pairwise (fun a b => less (nb a) (nb b) = true)) (nm : ByteArray) (i : Nat) (hi : i < l.length) (hp : posP l nm ≤ i) : less (nb l[i]) nm.data.toList = false := by
  have hp1 : posP l nm < l.length := by omega
  have h4 : less (nb (l[posP l nm]'hp1)) nm.data.toList = false := tw_false (q := fun e : E => less (nb e) nm.data.toList) l hp1
  rcases Nat.lt_or_ge (posP l nm) i with h2 | h2
  · have h3 := List.pairwise_iff_getElem.1 h _ i hp1 hi h2
    cases h5 : less (nb l[i]) nm.data.toList with
    | false => rfl
    | true => rw [less_trans h3 h5] at h4; cases h4
  · obtain rfl : i = posP l nm := by omega
    exact h4
theorem pos_low {l : List E} (nm : ByteArray) (i : Nat) (hi : i < l.length) (hp : i < posP l nm) : less (nb l[i]) nm.data.toList = true :=
  tw_true (q := fun e : E => less (nb e) nm.data.toList) l i hi hp
end Go.Proofs.Yteglhbfhibfodaa.Ht
end
