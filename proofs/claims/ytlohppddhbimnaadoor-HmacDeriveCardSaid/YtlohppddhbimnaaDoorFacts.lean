/- Facts on the types of this seat's translation, by program (wip/tool/wk.py): each closed by the kernel. -/
import Derived.Test.YtlohppddhbimnaaDoorProg
import Derived.Test.YtlohppddhbimnaaDoorFlB7
namespace Go.Proofs.YtlohppddhbimnaaDoor
open Go.Fl
-- 3: int
theorem sz3 : SizeIs Tryd.prog 3 1 := .of (by kernel_rfl)
theorem one3 : OneT Tryd.prog 3 8 (i64 0) := .of (by kernel_rfl)
theorem z3 : zerosOf Tryd.prog 3 = some ([i64 0]) := by kernel_rfl
-- 4: bool
theorem sz4 : SizeIs Tryd.prog 4 1 := .of (by kernel_rfl)
theorem one4 : OneT Tryd.prog 4 1 (.bool false) := .of (by kernel_rfl)
theorem z4 : zerosOf Tryd.prog 4 = some ([.bool false]) := by kernel_rfl
-- 5: uint8
theorem sz5 : SizeIs Tryd.prog 5 1 := .of (by kernel_rfl)
theorem one5 : OneT Tryd.prog 5 1 (u8 0) := .of (by kernel_rfl)
theorem z5 : zerosOf Tryd.prog 5 = some ([u8 0]) := by kernel_rfl
-- 9: string
theorem sz9 : SizeIs Tryd.prog 9 1 := .of (by kernel_rfl)
theorem one9 : OneT Tryd.prog 9 16 (.string ⟨#[]⟩) := .of (by kernel_rfl)
theorem z9 : zerosOf Tryd.prog 9 = some ([.string ⟨#[]⟩]) := by kernel_rfl
-- 20: interface {}
theorem sz20 : SizeIs Tryd.prog 20 1 := .of (by kernel_rfl)
theorem z20 : zerosOf Tryd.prog 20 = some ([.nilIface]) := by kernel_rfl
-- 22: []uint8
theorem sz22 : SizeIs Tryd.prog 22 1 := .of (by kernel_rfl)
theorem el22 : Elt Tryd.prog 22 5 1 1 := .of (by kernel_rfl)
theorem one22 : OneT Tryd.prog 22 24 (.slice none 0 0) := .of (by kernel_rfl)
theorem z22 : zerosOf Tryd.prog 22 = some ([.slice none 0 0]) := by kernel_rfl
-- 23: uint16
theorem sz23 : SizeIs Tryd.prog 23 1 := .of (by kernel_rfl)
theorem one23 : OneT Tryd.prog 23 2 (.int .u16 0) := .of (by kernel_rfl)
theorem z23 : zerosOf Tryd.prog 23 = some ([.int .u16 0]) := by kernel_rfl
-- 25: [32]uint8
theorem sz25 : SizeIs Tryd.prog 25 32 := .of (by kernel_rfl)
theorem gd25 : Tryd.prog.eqGuardType Tryd.prog.depth 25 = false := by kernel_rfl
theorem ar25 : elemOff Tryd.prog 25 = some (32, 1, false) := by kernel_rfl
theorem z25 : zerosOf Tryd.prog 25 = some (List.replicate 32 (u8 0)) := by kernel_rfl
-- 26: macaroon/api.Tag
theorem sz26 : SizeIs Tryd.prog 26 32 := .of (by kernel_rfl)
theorem gd26 : Tryd.prog.eqGuardType Tryd.prog.depth 26 = false := by kernel_rfl
theorem ar26 : elemOff Tryd.prog 26 = some (32, 1, false) := by kernel_rfl
theorem z26 : zerosOf Tryd.prog 26 = some (List.replicate 32 (u8 0)) := by kernel_rfl
-- 31: uint32
theorem sz31 : SizeIs Tryd.prog 31 1 := .of (by kernel_rfl)
theorem one31 : OneT Tryd.prog 31 4 (u32 0) := .of (by kernel_rfl)
theorem z31 : zerosOf Tryd.prog 31 = some ([u32 0]) := by kernel_rfl
-- 32: [8]uint32
theorem sz32 : SizeIs Tryd.prog 32 8 := .of (by kernel_rfl)
theorem gd32 : Tryd.prog.eqGuardType Tryd.prog.depth 32 = false := by kernel_rfl
theorem ar32 : elemOff Tryd.prog 32 = some (8, 1, false) := by kernel_rfl
theorem z32 : zerosOf Tryd.prog 32 = some (List.replicate 8 (u32 0)) := by kernel_rfl
-- 33: struct { H [8]uint32; Rest []uint8; Len int }
theorem sz33 : SizeIs Tryd.prog 33 10 := .of (by kernel_rfl)
theorem gd33 : Tryd.prog.eqGuardType Tryd.prog.depth 33 = false := by kernel_rfl
theorem fd33_0 : fieldOff Tryd.prog 33 0 = some (0, 8, true) := by kernel_rfl
theorem fd33_1 : fieldOff Tryd.prog 33 1 = some (8, 1, false) := by kernel_rfl
theorem fd33_2 : fieldOff Tryd.prog 33 2 = some (9, 1, false) := by kernel_rfl
theorem fo33 : fieldOffs Tryd.prog 33 = some [(0, 8), (8, 1), (9, 1)] := by kernel_rfl
theorem z33 : zerosOf Tryd.prog 33 = some ((List.replicate 8 (u32 0)) ++ [.slice none 0 0, i64 0]) := by kernel_rfl
-- 34: macaroon/api.Hash
theorem sz34 : SizeIs Tryd.prog 34 10 := .of (by kernel_rfl)
theorem gd34 : Tryd.prog.eqGuardType Tryd.prog.depth 34 = false := by kernel_rfl
theorem fd34_0 : fieldOff Tryd.prog 34 0 = some (0, 8, true) := by kernel_rfl
theorem fd34_1 : fieldOff Tryd.prog 34 1 = some (8, 1, false) := by kernel_rfl
theorem fd34_2 : fieldOff Tryd.prog 34 2 = some (9, 1, false) := by kernel_rfl
theorem fo34 : fieldOffs Tryd.prog 34 = some [(0, 8), (8, 1), (9, 1)] := by kernel_rfl
theorem z34 : zerosOf Tryd.prog 34 = some ((List.replicate 8 (u32 0)) ++ [.slice none 0 0, i64 0]) := by kernel_rfl
-- 41: []int
theorem sz41 : SizeIs Tryd.prog 41 1 := .of (by kernel_rfl)
theorem el41 : Elt Tryd.prog 41 3 1 8 := .of (by kernel_rfl)
theorem one41 : OneT Tryd.prog 41 24 (.slice none 0 0) := .of (by kernel_rfl)
theorem z41 : zerosOf Tryd.prog 41 = some ([.slice none 0 0]) := by kernel_rfl
-- 48: macaroon/api.Errno
theorem sz48 : SizeIs Tryd.prog 48 1 := .of (by kernel_rfl)
theorem one48 : OneT Tryd.prog 48 8 (i64 0) := .of (by kernel_rfl)
theorem z48 : zerosOf Tryd.prog 48 = some ([i64 0]) := by kernel_rfl
-- 51: *macaroonmade.Deck
theorem sz51 : SizeIs Tryd.prog 51 1 := .of (by kernel_rfl)
theorem z51 : zerosOf Tryd.prog 51 = some ([.pointer none]) := by kernel_rfl
-- 57: uint64
theorem sz57 : SizeIs Tryd.prog 57 1 := .of (by kernel_rfl)
theorem one57 : OneT Tryd.prog 57 8 (u64 0) := .of (by kernel_rfl)
theorem z57 : zerosOf Tryd.prog 57 = some ([u64 0]) := by kernel_rfl
-- 60: uint
theorem sz60 : SizeIs Tryd.prog 60 1 := .of (by kernel_rfl)
theorem one60 : OneT Tryd.prog 60 8 (u64 0) := .of (by kernel_rfl)
theorem z60 : zerosOf Tryd.prog 60 = some ([u64 0]) := by kernel_rfl
-- 64: struct { L []int; At int }
theorem sz64 : SizeIs Tryd.prog 64 2 := .of (by kernel_rfl)
theorem gd64 : Tryd.prog.eqGuardType Tryd.prog.depth 64 = false := by kernel_rfl
theorem fd64_0 : fieldOff Tryd.prog 64 0 = some (0, 1, false) := by kernel_rfl
theorem fd64_1 : fieldOff Tryd.prog 64 1 = some (1, 1, false) := by kernel_rfl
theorem fo64 : fieldOffs Tryd.prog 64 = some [(0, 1), (1, 1)] := by kernel_rfl
theorem z64 : zerosOf Tryd.prog 64 = some ([.slice none 0 0, i64 0]) := by kernel_rfl
-- 65: macaroon/macaroonmade.Deck
theorem sz65 : SizeIs Tryd.prog 65 2 := .of (by kernel_rfl)
theorem gd65 : Tryd.prog.eqGuardType Tryd.prog.depth 65 = false := by kernel_rfl
theorem fd65_0 : fieldOff Tryd.prog 65 0 = some (0, 1, false) := by kernel_rfl
theorem fd65_1 : fieldOff Tryd.prog 65 1 = some (1, 1, false) := by kernel_rfl
theorem fo65 : fieldOffs Tryd.prog 65 = some [(0, 1), (1, 1)] := by kernel_rfl
theorem z65 : zerosOf Tryd.prog 65 = some ([.slice none 0 0, i64 0]) := by kernel_rfl
-- 66: []string
theorem sz66 : SizeIs Tryd.prog 66 1 := .of (by kernel_rfl)
theorem el66 : Elt Tryd.prog 66 9 1 16 := .of (by kernel_rfl)
theorem one66 : OneT Tryd.prog 66 24 (.slice none 0 0) := .of (by kernel_rfl)
theorem z66 : zerosOf Tryd.prog 66 = some ([.slice none 0 0]) := by kernel_rfl
-- 67: [64]uint32
theorem sz67 : SizeIs Tryd.prog 67 64 := .of (by kernel_rfl)
theorem gd67 : Tryd.prog.eqGuardType Tryd.prog.depth 67 = false := by kernel_rfl
theorem ar67 : elemOff Tryd.prog 67 = some (64, 1, false) := by kernel_rfl
theorem z67 : zerosOf Tryd.prog 67 = some (List.replicate 64 (u32 0)) := by kernel_rfl
-- 70: [][]uint8
theorem sz70 : SizeIs Tryd.prog 70 1 := .of (by kernel_rfl)
theorem el70 : Elt Tryd.prog 70 22 1 24 := .of (by kernel_rfl)
theorem one70 : OneT Tryd.prog 70 24 (.slice none 0 0) := .of (by kernel_rfl)
theorem z70 : zerosOf Tryd.prog 70 = some ([.slice none 0 0]) := by kernel_rfl
end Go.Proofs.YtlohppddhbimnaaDoor
