/- What the types are. Printed by a program of the prover. -/
import Derived.Test.YtcaffacganffjaaDoorVApp
import Derived.Test.YtcaffacganffjaaDoorChecked
import Derived.KernelRfl
namespace Go.Proofs.YtcaffacganffjaaDoor
open Go Go.Vg
set_option maxRecDepth 100000
theorem Tryd.ty3 : tyOf Tryd.prog 3 = some (1, false, [(vI 0)]) := by kernel_rfl
theorem Tryd.ty4 : tyOf Tryd.prog 4 = some (1, false, [(Value.bool false)]) := by kernel_rfl
theorem Tryd.ty5 : tyOf Tryd.prog 5 = some (1, false, [(v8 0)]) := by kernel_rfl
theorem Tryd.ty21 : tyOf Tryd.prog 21 = some (1, false, [(Value.int .i32 0)]) := by kernel_rfl
theorem Tryd.ty24 : tyOf Tryd.prog 24 = some (32, true, digC Dig.zero) := by kernel_rfl
theorem Tryd.ty26 : tyOf Tryd.prog 26 = some (33, true, [(Value.bool false)] ++ (digC Dig.zero)) := by kernel_rfl
theorem Tryd.ty27 : tyOf Tryd.prog 27 = some (1, false, [(Value.slice none 0 0)]) := by kernel_rfl
theorem Tryd.ty29 : tyOf Tryd.prog 29 = some (66, true, [(Value.slice none 0 0), (Value.bool false)] ++ (digC Dig.zero ++ (digC Dig.zero))) := by kernel_rfl
theorem Tryd.ty36 : tyOf Tryd.prog 36 = some (64, true, digC Dig.zero ++ (digC Dig.zero)) := by kernel_rfl
theorem Tryd.ty63 : tyOf Tryd.prog 63 = some (1, false, [(Value.pointer none)]) := by kernel_rfl
theorem Tryd.ty86 : tyOf Tryd.prog 86 = some (1, false, [(v32 0)]) := by kernel_rfl
theorem Tryd.ty110 : tyOf Tryd.prog 110 = some (73, true, arr32 8 (fun _ => 0) ++ (arr8 64 (fun _ => 0) ++ ([(vI 0)]))) := by kernel_rfl
theorem Tryd.ty111 : tyOf Tryd.prog 111 = some (72, true, arr8 72 (fun _ => 0)) := by kernel_rfl
theorem Tryd.ty119 : tyOf Tryd.prog 119 = some (64, true, arr32 64 (fun _ => 0)) := by kernel_rfl
theorem Tryd.app22 : appOf Tryd.prog 22 = some (36, 64, 64) := by kernel_rfl
theorem Tryd.app27 : appOf Tryd.prog 27 = some (24, 32, 32) := by kernel_rfl
theorem Tryd.arr24 : isArray Tryd.prog 24 = some (32, 5, 1, false) := by kernel_rfl
theorem Tryd.arr107 : isArray Tryd.prog 107 = some (8, 86, 1, false) := by kernel_rfl
theorem Tryd.arr108 : isArray Tryd.prog 108 = some (64, 5, 1, false) := by kernel_rfl
theorem Tryd.arr111 : isArray Tryd.prog 111 = some (72, 5, 1, false) := by kernel_rfl
theorem Tryd.arr119 : isArray Tryd.prog 119 = some (64, 86, 1, false) := by kernel_rfl
theorem Tryd.eqg24 : Tryd.prog.eqGuardType Tryd.prog.depth 24 = false := by kernel_rfl
theorem Tryd.fld26_0 : fldOf Tryd.prog 26 0 = some (0, 0 + 1, false) := by kernel_rfl
theorem Tryd.fld26_1 : fldOf Tryd.prog 26 1 = some (1, 31 + 1, true) := by kernel_rfl
theorem Tryd.fld29_0 : fldOf Tryd.prog 29 0 = some (0, 0 + 1, false) := by kernel_rfl
theorem Tryd.fld29_1 : fldOf Tryd.prog 29 1 = some (1, 0 + 1, false) := by kernel_rfl
theorem Tryd.fld29_2 : fldOf Tryd.prog 29 2 = some (2, 31 + 1, true) := by kernel_rfl
theorem Tryd.fld29_3 : fldOf Tryd.prog 29 3 = some (34, 31 + 1, true) := by kernel_rfl
theorem Tryd.fld36_0 : fldOf Tryd.prog 36 0 = some (0, 31 + 1, true) := by kernel_rfl
theorem Tryd.fld36_1 : fldOf Tryd.prog 36 1 = some (32, 31 + 1, true) := by kernel_rfl
theorem Tryd.fld65_0 : fldOf Tryd.prog 65 0 = some (0, 0 + 1, false) := by kernel_rfl
theorem Tryd.fld65_1 : fldOf Tryd.prog 65 1 = some (1, 0 + 1, false) := by kernel_rfl
theorem Tryd.fld65_2 : fldOf Tryd.prog 65 2 = some (2, 0 + 1, false) := by kernel_rfl
theorem Tryd.fld88_1 : fldOf Tryd.prog 88 1 = some (0, 0 + 1, false) := by kernel_rfl
theorem Tryd.fld90_0 : fldOf Tryd.prog 90 0 = some (0, 0 + 1, false) := by kernel_rfl
theorem Tryd.fld92_1 : fldOf Tryd.prog 92 1 = some (0, 1 + 1, true) := by kernel_rfl
theorem Tryd.fld94_1 : fldOf Tryd.prog 94 1 = some (0, 0 + 1, true) := by kernel_rfl
theorem Tryd.fld94_2 : fldOf Tryd.prog 94 2 = some (1, 1 + 1, true) := by kernel_rfl
theorem Tryd.fld96_0 : fldOf Tryd.prog 96 0 = some (0, 2 + 1, true) := by kernel_rfl
theorem Tryd.fld96_1 : fldOf Tryd.prog 96 1 = some (3, 31 + 1, true) := by kernel_rfl
theorem Tryd.fld98_0 : fldOf Tryd.prog 98 0 = some (0, 34 + 1, true) := by kernel_rfl
theorem Tryd.fld98_1 : fldOf Tryd.prog 98 1 = some (35, 63 + 1, true) := by kernel_rfl
theorem Tryd.fld98_2 : fldOf Tryd.prog 98 2 = some (99, 0 + 1, false) := by kernel_rfl
theorem Tryd.fld98_3 : fldOf Tryd.prog 98 3 = some (100, 0 + 1, false) := by kernel_rfl
theorem Tryd.fld110_0 : fldOf Tryd.prog 110 0 = some (0, 7 + 1, true) := by kernel_rfl
theorem Tryd.fld110_1 : fldOf Tryd.prog 110 1 = some (8, 63 + 1, true) := by kernel_rfl
theorem Tryd.fld110_2 : fldOf Tryd.prog 110 2 = some (72, 0 + 1, false) := by kernel_rfl
theorem Tryd.sli22 : isSlice Tryd.prog 22 = some (36, 64) := by kernel_rfl
theorem Tryd.sli27 : isSlice Tryd.prog 27 = some (24, 32) := by kernel_rfl
theorem Tryd.sli73 : isSlice Tryd.prog 73 = some (5, 1) := by kernel_rfl
end Go.Proofs.YtcaffacganffjaaDoor
