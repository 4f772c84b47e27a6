/- Part of a proof. -/
import Derived.Test.YtngjelolnfgnbaaGreatDoorMFrame
import Derived.Test.YtngjelolnfgnbaaGreatDoorMMemb
set_option linter.all false
set_option maxRecDepth 100000
set_option maxHeartbeats 64000000
namespace Go.Proofs.YtngjelolnfgnbaaGreatDoor
open Go.ChangeShapes Go.WideShapes Go.ChangeAt Go.RowKit Mem
namespace gZ
theorem FY:Tryz.prog.globalNamed "math/bits.deBruijn64tab" =some 1:=by kernel_rfl
theorem Bq:(Tryz.prog.globals[1]?).map (·.type)=some 419:=by kernel_rfl
theorem Dk:Tryz.prog.cellsOf 419=64:=by kernel_rfl
theorem zA:(Rows.laid_math_bits_deBruijn64tab:DataW Unit)=Lib.tabData .u8 (Lib.deBruijn64tab.map fun x:Nat=>(x:Int)):=rfl
theorem Gt {W:World} (h:laidMetH Tryz.prog laid W):vU W:=by
 have h1:laidMet Tryz.prog laid W:=h;unfold laid at h1;rw [zA] at h1;have h3:=Lib.tabIs_of_head (rest:=[]) FY Bq Tryz.underlying419 Tryz.underlying5 cells5 Dk h1;intro j hj;have h4:=Lib.TabIs.cell h3 FY j (by simpa [Lib.deBruijn64tab] using hj);rw [h4];congr 2;simp only [List.getD,sW];rw [dR (by simpa [Lib.deBruijn64tab] using hj)];rfl
end gZ
end Go.Proofs.YtngjelolnfgnbaaGreatDoor
