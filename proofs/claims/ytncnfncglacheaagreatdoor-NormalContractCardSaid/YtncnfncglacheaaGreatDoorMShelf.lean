/- Part of a proof. -/
import Derived.Test.YtncnfncglacheaaGreatDoorMAl
import Derived.Shelf.Small.Bits
import Derived.Shelf.Strconv.Itoa0
import Derived.Shelf.Strings.Search1
import Derived.Shelf.Slices.Turned
import Derived.Ground.Names2Prog
import Derived.Shelf.Slices.Clone
import Derived.Shelf.Slices.CompactS
import Derived.Shelf.Slices.Cells
import Derived.Shelf.Bytes.SlIndexSmall
import Derived.Shelf.Bytes.SlIndexAt
import Derived.Shelf.Bytes.SlSearch0
import Derived.Shelf.Bytes.SlSearch1
import Derived.Shelf.Bytes.Small
import Derived.Shelf.Bytes.IndexByte
import Derived.Test.YtncnfncglacheaaGreatDoorProg
set_option linter.all false
set_option maxRecDepth 100000
set_option maxHeartbeats 64000000
namespace Go.Proofs
open Go.Shelf
def Tryz.NC:Go.Shelf.Ren:=⟨fun | 125=>115 | 128=>162 | 129=>163 | n=>n,fun | 46=>232 | 3=>3 | 51=>266 | 53=>63 | 4=>4 | 5=>5 | 9=>9 | n=>n,fun | n=>n⟩
theorem Tryz.abY:Go.Proofs.Lays.n125 Tryz.prog Tryz.NC:={
 mixed:=by kernel_rfl
 f125:=Tryz.func115.trans (congrArg some (by kernel_rfl))
 f128:=Tryz.func162.trans (congrArg some (by kernel_rfl))
 f129:=Tryz.func163.trans (congrArg some (by kernel_rfl))
 t3:=Tryz.underlying3
 a3:=Tryz.isAgg3
 z3:=Tryz.sizeOf3
 v3:=Tryz.zeroValue3
 t4:=Tryz.underlying4
 a4:=Tryz.isAgg4
 z4:=Tryz.sizeOf4
 v4:=Tryz.zeroValue4
 t5:=Tryz.underlying5
 a5:=Tryz.isAgg5
 z5:=Tryz.sizeOf5
 v5:=Tryz.zeroValue5
 t9:=Tryz.underlying9
 a9:=Tryz.isAgg9
 z9:=Tryz.sizeOf9
 v9:=Tryz.zeroValue9
 t46:=Tryz.underlying232
 a46:=Tryz.isAgg232
 z46:=Tryz.sizeOf232
 v46:=Tryz.zeroValue232
 t51:=Tryz.underlying266
 a51:=Tryz.isAgg266
 z51:=Tryz.sizeOf266
 v51:=Tryz.zeroValue266
 t53:=Tryz.underlying63
 a53:=Tryz.isAgg63
 z53:=Tryz.sizeOf63
 v53:=Tryz.zeroValue63}
theorem Tryz.bits_Len (x:Int) (w:World) (h0:0≤x) (h1:x≤18446744073709551615):
  Calls Tryz.prog 115 #[.int .u64 x] w fun e w'=>e= .returned (.int .i64 (Lib.bitLen x.toNat))∧w'=w:=Any.bits_Len Tryz.abY x w h0 h1
open Go.Lib in
def Tryz.JQ:Go.Shelf.Ren:=⟨fun | 15=>179 | n=>n,fun | 22=>92 | 3=>3 | 4=>4 | n=>n,fun | n=>n⟩
theorem Tryz.Tp:Go.Proofs.Lays2.n15 Tryz.prog Tryz.JQ:={
 mixed:=by kernel_rfl
 f15:=Tryz.func179.trans (congrArg some (by kernel_rfl))
 t3:=Tryz.underlying3
 a3:=Tryz.isAgg3
 z3:=Tryz.sizeOf3
 v3:=Tryz.zeroValue3
 t4:=Tryz.underlying4
 a4:=Tryz.isAgg4
 z4:=Tryz.sizeOf4
 v4:=Tryz.zeroValue4
 t22:=Tryz.underlying92
 a22:=Tryz.isAgg92
 z22:=Tryz.sizeOf92
 v22:=Tryz.zeroValue92
 i3:=by kernel_rfl}
open Go.RowKit Go.Lib in
theorem Tryz.slices_Clone_int (b off n c:Nat) (zs:List Int) (w:World) (hz:n≤zs.length) (hbig:n * 8≤140737488355328) (hc:∀j,j<zs.length→w.cell? ⟨b,off+j,none⟩=some (.int .i64 (zs.getD j 0))):
  Calls Tryz.prog 179 #[.slice (some ⟨b,off,none⟩) n c] w fun e w'=>∃v',e= .returned v'∧w'.ownsRow w.heap.size 3 1 v' n ((zs.take n).map (Value.int .i64))∧v'≠ .slice none 0 0∧Below w.heap.size w w':=Any.slices_Clone_int Tryz.Tp b off n c zs w hz hbig hc
open Go.RowKit Go.Lib in
def Tryz.O0:Go.Shelf.Ren:=⟨fun | 187=>209 | 255=>237 | n=>n,fun | 37=>22 | 5=>5 | 3=>3 | n=>n,fun | n=>n⟩
theorem Tryz.Pm:Go.Proofs.Lays.n187 Tryz.prog Tryz.O0:={
 mixed:=by kernel_rfl
 f187:=Tryz.func209.trans (congrArg some (by kernel_rfl))
 f255:=Tryz.func237.trans (congrArg some (by kernel_rfl))
 t3:=Tryz.underlying3
 a3:=Tryz.isAgg3
 z3:=Tryz.sizeOf3
 v3:=Tryz.zeroValue3
 t5:=Tryz.underlying5
 a5:=Tryz.isAgg5
 z5:=Tryz.sizeOf5
 v5:=Tryz.zeroValue5
 t37:=Tryz.underlying22
 a37:=Tryz.isAgg22
 z37:=Tryz.sizeOf22
 v37:=Tryz.zeroValue22}
open Go.RowKit Go.Lib in
theorem Tryz.bytes_IndexByte (b o n c:Nat) (xs:List Int) (cv:Int) (w:World) (hx:xs.length=n) (hc:∀i,i<n→w.cell? ⟨b,o+i,none⟩=some (.int .u8 (xs.getD i 0))):
  Calls Tryz.prog 209 #[.slice (some ⟨b,o,none⟩) n c, .int .u8 cv] w fun e w'=>e= .returned (.int .i64 (Lib.indexByte (Lib.bytesOf xs) cv.toNat.toUInt8))∧w'=w:=Any.bytes_IndexByte Tryz.Pm b o n c xs cv w hx hc
theorem Tryz.bytes_IndexByte_nil (cv:Int) (w:World):
  Calls Tryz.prog 209 #[.slice none 0 0, .int .u8 cv] w fun e w'=>e= .returned (.int .i64 (-1))∧w'=w:=Any.bytes_IndexByte_nil Tryz.Pm cv w
end Go.Proofs
