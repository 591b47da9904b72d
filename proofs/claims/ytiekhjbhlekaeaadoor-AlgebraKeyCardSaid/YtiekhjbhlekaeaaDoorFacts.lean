/- Facts on the types of this seat's translation, by program (wip/tool/wk.py): each closed by the kernel. -/
import Derived.Test.YtiekhjbhlekaeaaDoorProg
import Derived.Test.YtiekhjbhlekaeaaDoorFl
set_option maxRecDepth 1000000
namespace Go.Proofs.YtiekhjbhlekaeaaDoor
open Go.Fl
-- 3: int
theorem sz3 : SizeIs Tryd.prog 3 1 := .of (by kernel_rfl)
theorem one3 : OneT Tryd.prog 3 8 (i64 0) := .of (by kernel_rfl)
theorem z3 : zerosOf Tryd.prog 3 = some ([i64 0]) := by kernel_rfl
-- 4: bool
theorem sz4 : SizeIs Tryd.prog 4 1 := .of (by kernel_rfl)
theorem one4 : OneT Tryd.prog 4 1 (.bool false) := .of (by kernel_rfl)
theorem z4 : zerosOf Tryd.prog 4 = some ([.bool false]) := by kernel_rfl
-- 5: uint8
theorem sz5 : SizeIs Tryd.prog 5 1 := .of (by kernel_rfl)
theorem one5 : OneT Tryd.prog 5 1 (u8 0) := .of (by kernel_rfl)
theorem z5 : zerosOf Tryd.prog 5 = some ([u8 0]) := by kernel_rfl
-- 9: string
theorem sz9 : SizeIs Tryd.prog 9 1 := .of (by kernel_rfl)
theorem one9 : OneT Tryd.prog 9 16 (.string ⟨#[]⟩) := .of (by kernel_rfl)
theorem z9 : zerosOf Tryd.prog 9 = some ([.string ⟨#[]⟩]) := by kernel_rfl
-- 20: interface {}
theorem sz20 : SizeIs Tryd.prog 20 1 := .of (by kernel_rfl)
theorem z20 : zerosOf Tryd.prog 20 = some ([.nilIface]) := by kernel_rfl
-- 22: []int
theorem sz22 : SizeIs Tryd.prog 22 1 := .of (by kernel_rfl)
theorem el22 : Elt Tryd.prog 22 3 1 8 := .of (by kernel_rfl)
theorem one22 : OneT Tryd.prog 22 24 (.slice none 0 0) := .of (by kernel_rfl)
theorem z22 : zerosOf Tryd.prog 22 = some ([.slice none 0 0]) := by kernel_rfl
-- 23: []uint8
theorem sz23 : SizeIs Tryd.prog 23 1 := .of (by kernel_rfl)
theorem el23 : Elt Tryd.prog 23 5 1 1 := .of (by kernel_rfl)
theorem one23 : OneT Tryd.prog 23 24 (.slice none 0 0) := .of (by kernel_rfl)
theorem z23 : zerosOf Tryd.prog 23 = some ([.slice none 0 0]) := by kernel_rfl
-- 25: *macaroonmade.Deck
theorem sz25 : SizeIs Tryd.prog 25 1 := .of (by kernel_rfl)
theorem z25 : zerosOf Tryd.prog 25 = some ([.pointer none]) := by kernel_rfl
-- 27: [32]uint8
theorem sz27 : SizeIs Tryd.prog 27 32 := .of (by kernel_rfl)
theorem gd27 : Tryd.prog.eqGuardType Tryd.prog.depth 27 = false := by kernel_rfl
theorem ar27 : elemOff Tryd.prog 27 = some (32, 1, false) := by kernel_rfl
theorem z27 : zerosOf Tryd.prog 27 = some (List.replicate 32 (u8 0)) := by kernel_rfl
-- 28: macaroon/api.Tag
theorem sz28 : SizeIs Tryd.prog 28 32 := .of (by kernel_rfl)
theorem gd28 : Tryd.prog.eqGuardType Tryd.prog.depth 28 = false := by kernel_rfl
theorem ar28 : elemOff Tryd.prog 28 = some (32, 1, false) := by kernel_rfl
theorem z28 : zerosOf Tryd.prog 28 = some (List.replicate 32 (u8 0)) := by kernel_rfl
-- 29: []api.Mac
theorem sz29 : SizeIs Tryd.prog 29 1 := .of (by kernel_rfl)
theorem el29 : Elt Tryd.prog 29 38 65 88 := .of (by kernel_rfl)
theorem one29 : OneT Tryd.prog 29 24 (.slice none 0 0) := .of (by kernel_rfl)
theorem z29 : zerosOf Tryd.prog 29 = some ([.slice none 0 0]) := by kernel_rfl
-- 30: []api.Sealed
theorem sz30 : SizeIs Tryd.prog 30 1 := .of (by kernel_rfl)
theorem el30 : Elt Tryd.prog 30 56 35 88 := .of (by kernel_rfl)
theorem one30 : OneT Tryd.prog 30 24 (.slice none 0 0) := .of (by kernel_rfl)
theorem z30 : zerosOf Tryd.prog 30 = some ([.slice none 0 0]) := by kernel_rfl
-- 31: struct { Free bool; Seed api.Tag; Fresh int; Macs []api.Mac; Boxes []api.Sealed 
theorem sz31 : SizeIs Tryd.prog 31 36 := .of (by kernel_rfl)
theorem gd31 : Tryd.prog.eqGuardType Tryd.prog.depth 31 = false := by kernel_rfl
theorem fd31_0 : fieldOff Tryd.prog 31 0 = some (0, 1, false) := by kernel_rfl
theorem fd31_1 : fieldOff Tryd.prog 31 1 = some (1, 32, true) := by kernel_rfl
theorem fd31_2 : fieldOff Tryd.prog 31 2 = some (33, 1, false) := by kernel_rfl
theorem fd31_3 : fieldOff Tryd.prog 31 3 = some (34, 1, false) := by kernel_rfl
theorem fd31_4 : fieldOff Tryd.prog 31 4 = some (35, 1, false) := by kernel_rfl
theorem fo31 : fieldOffs Tryd.prog 31 = some [(0, 1), (1, 32), (33, 1), (34, 1), (35, 1)] := by kernel_rfl
theorem z31 : zerosOf Tryd.prog 31 = some ([.bool false] ++ (List.replicate 32 (u8 0)) ++ [i64 0, .slice none 0 0, .slice none 0 0]) := by kernel_rfl
-- 32: macaroon/api.Algebra
theorem sz32 : SizeIs Tryd.prog 32 36 := .of (by kernel_rfl)
theorem gd32 : Tryd.prog.eqGuardType Tryd.prog.depth 32 = false := by kernel_rfl
theorem fd32_0 : fieldOff Tryd.prog 32 0 = some (0, 1, false) := by kernel_rfl
theorem fd32_1 : fieldOff Tryd.prog 32 1 = some (1, 32, true) := by kernel_rfl
theorem fd32_2 : fieldOff Tryd.prog 32 2 = some (33, 1, false) := by kernel_rfl
theorem fd32_3 : fieldOff Tryd.prog 32 3 = some (34, 1, false) := by kernel_rfl
theorem fd32_4 : fieldOff Tryd.prog 32 4 = some (35, 1, false) := by kernel_rfl
theorem fo32 : fieldOffs Tryd.prog 32 = some [(0, 1), (1, 32), (33, 1), (34, 1), (35, 1)] := by kernel_rfl
theorem z32 : zerosOf Tryd.prog 32 = some ([.bool false] ++ (List.replicate 32 (u8 0)) ++ [i64 0, .slice none 0 0, .slice none 0 0]) := by kernel_rfl
-- 36: [][]uint8
theorem sz36 : SizeIs Tryd.prog 36 1 := .of (by kernel_rfl)
theorem el36 : Elt Tryd.prog 36 23 1 24 := .of (by kernel_rfl)
theorem one36 : OneT Tryd.prog 36 24 (.slice none 0 0) := .of (by kernel_rfl)
theorem z36 : zerosOf Tryd.prog 36 = some ([.slice none 0 0]) := by kernel_rfl
-- 37: struct { Key api.Tag; Message []uint8; Tag api.Tag }
theorem sz37 : SizeIs Tryd.prog 37 65 := .of (by kernel_rfl)
theorem gd37 : Tryd.prog.eqGuardType Tryd.prog.depth 37 = false := by kernel_rfl
theorem fd37_0 : fieldOff Tryd.prog 37 0 = some (0, 32, true) := by kernel_rfl
theorem fd37_1 : fieldOff Tryd.prog 37 1 = some (32, 1, false) := by kernel_rfl
theorem fd37_2 : fieldOff Tryd.prog 37 2 = some (33, 32, true) := by kernel_rfl
theorem fo37 : fieldOffs Tryd.prog 37 = some [(0, 32), (32, 1), (33, 32)] := by kernel_rfl
theorem z37 : zerosOf Tryd.prog 37 = some ((List.replicate 32 (u8 0)) ++ [.slice none 0 0] ++ (List.replicate 32 (u8 0))) := by kernel_rfl
-- 38: macaroon/api.Mac
theorem sz38 : SizeIs Tryd.prog 38 65 := .of (by kernel_rfl)
theorem gd38 : Tryd.prog.eqGuardType Tryd.prog.depth 38 = false := by kernel_rfl
theorem fd38_0 : fieldOff Tryd.prog 38 0 = some (0, 32, true) := by kernel_rfl
theorem fd38_1 : fieldOff Tryd.prog 38 1 = some (32, 1, false) := by kernel_rfl
theorem fd38_2 : fieldOff Tryd.prog 38 2 = some (33, 32, true) := by kernel_rfl
theorem fo38 : fieldOffs Tryd.prog 38 = some [(0, 32), (32, 1), (33, 32)] := by kernel_rfl
theorem z38 : zerosOf Tryd.prog 38 = some ((List.replicate 32 (u8 0)) ++ [.slice none 0 0] ++ (List.replicate 32 (u8 0))) := by kernel_rfl
-- 39: macaroon/api.Errno
theorem sz39 : SizeIs Tryd.prog 39 1 := .of (by kernel_rfl)
theorem one39 : OneT Tryd.prog 39 8 (i64 0) := .of (by kernel_rfl)
theorem z39 : zerosOf Tryd.prog 39 = some ([i64 0]) := by kernel_rfl
-- 55: struct { Key api.Tag; Nonce int; Plain []uint8; Box []uint8 }
theorem sz55 : SizeIs Tryd.prog 55 35 := .of (by kernel_rfl)
theorem gd55 : Tryd.prog.eqGuardType Tryd.prog.depth 55 = false := by kernel_rfl
theorem fd55_0 : fieldOff Tryd.prog 55 0 = some (0, 32, true) := by kernel_rfl
theorem fd55_1 : fieldOff Tryd.prog 55 1 = some (32, 1, false) := by kernel_rfl
theorem fd55_2 : fieldOff Tryd.prog 55 2 = some (33, 1, false) := by kernel_rfl
theorem fd55_3 : fieldOff Tryd.prog 55 3 = some (34, 1, false) := by kernel_rfl
theorem fo55 : fieldOffs Tryd.prog 55 = some [(0, 32), (32, 1), (33, 1), (34, 1)] := by kernel_rfl
theorem z55 : zerosOf Tryd.prog 55 = some ((List.replicate 32 (u8 0)) ++ [i64 0, .slice none 0 0, .slice none 0 0]) := by kernel_rfl
-- 56: macaroon/api.Sealed
theorem sz56 : SizeIs Tryd.prog 56 35 := .of (by kernel_rfl)
theorem gd56 : Tryd.prog.eqGuardType Tryd.prog.depth 56 = false := by kernel_rfl
theorem fd56_0 : fieldOff Tryd.prog 56 0 = some (0, 32, true) := by kernel_rfl
theorem fd56_1 : fieldOff Tryd.prog 56 1 = some (32, 1, false) := by kernel_rfl
theorem fd56_2 : fieldOff Tryd.prog 56 2 = some (33, 1, false) := by kernel_rfl
theorem fd56_3 : fieldOff Tryd.prog 56 3 = some (34, 1, false) := by kernel_rfl
theorem fo56 : fieldOffs Tryd.prog 56 = some [(0, 32), (32, 1), (33, 1), (34, 1)] := by kernel_rfl
theorem z56 : zerosOf Tryd.prog 56 = some ((List.replicate 32 (u8 0)) ++ [i64 0, .slice none 0 0, .slice none 0 0]) := by kernel_rfl
-- 66: struct { Place int; Kind int; Number int; Node api.Tag; Box []uint8; Tag api.Tag
theorem sz66 : SizeIs Tryd.prog 66 68 := .of (by kernel_rfl)
theorem gd66 : Tryd.prog.eqGuardType Tryd.prog.depth 66 = false := by kernel_rfl
theorem fd66_0 : fieldOff Tryd.prog 66 0 = some (0, 1, false) := by kernel_rfl
theorem fd66_1 : fieldOff Tryd.prog 66 1 = some (1, 1, false) := by kernel_rfl
theorem fd66_2 : fieldOff Tryd.prog 66 2 = some (2, 1, false) := by kernel_rfl
theorem fd66_3 : fieldOff Tryd.prog 66 3 = some (3, 32, true) := by kernel_rfl
theorem fd66_4 : fieldOff Tryd.prog 66 4 = some (35, 1, false) := by kernel_rfl
theorem fd66_5 : fieldOff Tryd.prog 66 5 = some (36, 32, true) := by kernel_rfl
theorem fo66 : fieldOffs Tryd.prog 66 = some [(0, 1), (1, 1), (2, 1), (3, 32), (35, 1), (36, 32)] := by kernel_rfl
theorem z66 : zerosOf Tryd.prog 66 = some ([i64 0, i64 0, i64 0] ++ (List.replicate 32 (u8 0)) ++ [.slice none 0 0] ++ (List.replicate 32 (u8 0))) := by kernel_rfl
-- 67: macaroon/api.Item
theorem sz67 : SizeIs Tryd.prog 67 68 := .of (by kernel_rfl)
theorem gd67 : Tryd.prog.eqGuardType Tryd.prog.depth 67 = false := by kernel_rfl
theorem fd67_0 : fieldOff Tryd.prog 67 0 = some (0, 1, false) := by kernel_rfl
theorem fd67_1 : fieldOff Tryd.prog 67 1 = some (1, 1, false) := by kernel_rfl
theorem fd67_2 : fieldOff Tryd.prog 67 2 = some (2, 1, false) := by kernel_rfl
theorem fd67_3 : fieldOff Tryd.prog 67 3 = some (3, 32, true) := by kernel_rfl
theorem fd67_4 : fieldOff Tryd.prog 67 4 = some (35, 1, false) := by kernel_rfl
theorem fd67_5 : fieldOff Tryd.prog 67 5 = some (36, 32, true) := by kernel_rfl
theorem fo67 : fieldOffs Tryd.prog 67 = some [(0, 1), (1, 1), (2, 1), (3, 32), (35, 1), (36, 32)] := by kernel_rfl
theorem z67 : zerosOf Tryd.prog 67 = some ([i64 0, i64 0, i64 0] ++ (List.replicate 32 (u8 0)) ++ [.slice none 0 0] ++ (List.replicate 32 (u8 0))) := by kernel_rfl
-- 72: []api.Item
theorem sz72 : SizeIs Tryd.prog 72 1 := .of (by kernel_rfl)
theorem el72 : Elt Tryd.prog 72 67 68 112 := .of (by kernel_rfl)
theorem one72 : OneT Tryd.prog 72 24 (.slice none 0 0) := .of (by kernel_rfl)
theorem z72 : zerosOf Tryd.prog 72 = some ([.slice none 0 0]) := by kernel_rfl
-- 78: struct { L []int; At int }
theorem sz78 : SizeIs Tryd.prog 78 2 := .of (by kernel_rfl)
theorem gd78 : Tryd.prog.eqGuardType Tryd.prog.depth 78 = false := by kernel_rfl
theorem fd78_0 : fieldOff Tryd.prog 78 0 = some (0, 1, false) := by kernel_rfl
theorem fd78_1 : fieldOff Tryd.prog 78 1 = some (1, 1, false) := by kernel_rfl
theorem fo78 : fieldOffs Tryd.prog 78 = some [(0, 1), (1, 1)] := by kernel_rfl
theorem z78 : zerosOf Tryd.prog 78 = some ([.slice none 0 0, i64 0]) := by kernel_rfl
-- 79: macaroon/macaroonmade.Deck
theorem sz79 : SizeIs Tryd.prog 79 2 := .of (by kernel_rfl)
theorem gd79 : Tryd.prog.eqGuardType Tryd.prog.depth 79 = false := by kernel_rfl
theorem fd79_0 : fieldOff Tryd.prog 79 0 = some (0, 1, false) := by kernel_rfl
theorem fd79_1 : fieldOff Tryd.prog 79 1 = some (1, 1, false) := by kernel_rfl
theorem fo79 : fieldOffs Tryd.prog 79 = some [(0, 1), (1, 1)] := by kernel_rfl
theorem z79 : zerosOf Tryd.prog 79 = some ([.slice none 0 0, i64 0]) := by kernel_rfl
-- 80: *algebra.Maker
theorem sz80 : SizeIs Tryd.prog 80 1 := .of (by kernel_rfl)
theorem z80 : zerosOf Tryd.prog 80 = some ([.pointer none]) := by kernel_rfl
-- 90: uint64
theorem sz90 : SizeIs Tryd.prog 90 1 := .of (by kernel_rfl)
theorem one90 : OneT Tryd.prog 90 8 (u64 0) := .of (by kernel_rfl)
theorem z90 : zerosOf Tryd.prog 90 = some ([u64 0]) := by kernel_rfl
-- 100: [5][]uint8
theorem sz100 : SizeIs Tryd.prog 100 5 := .of (by kernel_rfl)
theorem gd100 : Tryd.prog.eqGuardType Tryd.prog.depth 100 = false := by kernel_rfl
theorem ar100 : elemOff Tryd.prog 100 = some (5, 1, false) := by kernel_rfl
theorem z100 : zerosOf Tryd.prog 100 = some (List.replicate 5 (.slice none 0 0)) := by kernel_rfl
-- 104: struct { a api.Algebra; e api.Errno }
theorem sz104 : SizeIs Tryd.prog 104 37 := .of (by kernel_rfl)
theorem gd104 : Tryd.prog.eqGuardType Tryd.prog.depth 104 = false := by kernel_rfl
theorem fd104_0 : fieldOff Tryd.prog 104 0 = some (0, 36, true) := by kernel_rfl
theorem fd104_1 : fieldOff Tryd.prog 104 1 = some (36, 1, false) := by kernel_rfl
theorem fo104 : fieldOffs Tryd.prog 104 = some [(0, 36), (36, 1)] := by kernel_rfl
theorem z104 : zerosOf Tryd.prog 104 = some ([.bool false] ++ (List.replicate 32 (u8 0)) ++ [i64 0, .slice none 0 0, .slice none 0 0, i64 0]) := by kernel_rfl
-- 105: macaroon/algebra.Maker
theorem sz105 : SizeIs Tryd.prog 105 37 := .of (by kernel_rfl)
theorem gd105 : Tryd.prog.eqGuardType Tryd.prog.depth 105 = false := by kernel_rfl
theorem fd105_0 : fieldOff Tryd.prog 105 0 = some (0, 36, true) := by kernel_rfl
theorem fd105_1 : fieldOff Tryd.prog 105 1 = some (36, 1, false) := by kernel_rfl
theorem fo105 : fieldOffs Tryd.prog 105 = some [(0, 36), (36, 1)] := by kernel_rfl
theorem z105 : zerosOf Tryd.prog 105 = some ([.bool false] ++ (List.replicate 32 (u8 0)) ++ [i64 0, .slice none 0 0, .slice none 0 0, i64 0]) := by kernel_rfl
-- 112: uint32
theorem sz112 : SizeIs Tryd.prog 112 1 := .of (by kernel_rfl)
theorem one112 : OneT Tryd.prog 112 4 (u32 0) := .of (by kernel_rfl)
theorem z112 : zerosOf Tryd.prog 112 = some ([u32 0]) := by kernel_rfl
-- 113: [8]uint32
theorem sz113 : SizeIs Tryd.prog 113 8 := .of (by kernel_rfl)
theorem gd113 : Tryd.prog.eqGuardType Tryd.prog.depth 113 = false := by kernel_rfl
theorem ar113 : elemOff Tryd.prog 113 = some (8, 1, false) := by kernel_rfl
theorem z113 : zerosOf Tryd.prog 113 = some (List.replicate 8 (u32 0)) := by kernel_rfl
-- 114: struct { H [8]uint32; Rest []uint8; Len int }
theorem sz114 : SizeIs Tryd.prog 114 10 := .of (by kernel_rfl)
theorem gd114 : Tryd.prog.eqGuardType Tryd.prog.depth 114 = false := by kernel_rfl
theorem fd114_0 : fieldOff Tryd.prog 114 0 = some (0, 8, true) := by kernel_rfl
theorem fd114_1 : fieldOff Tryd.prog 114 1 = some (8, 1, false) := by kernel_rfl
theorem fd114_2 : fieldOff Tryd.prog 114 2 = some (9, 1, false) := by kernel_rfl
theorem fo114 : fieldOffs Tryd.prog 114 = some [(0, 8), (8, 1), (9, 1)] := by kernel_rfl
theorem z114 : zerosOf Tryd.prog 114 = some ((List.replicate 8 (u32 0)) ++ [.slice none 0 0, i64 0]) := by kernel_rfl
-- 115: macaroon/api.Hash
theorem sz115 : SizeIs Tryd.prog 115 10 := .of (by kernel_rfl)
theorem gd115 : Tryd.prog.eqGuardType Tryd.prog.depth 115 = false := by kernel_rfl
theorem fd115_0 : fieldOff Tryd.prog 115 0 = some (0, 8, true) := by kernel_rfl
theorem fd115_1 : fieldOff Tryd.prog 115 1 = some (8, 1, false) := by kernel_rfl
theorem fd115_2 : fieldOff Tryd.prog 115 2 = some (9, 1, false) := by kernel_rfl
theorem fo115 : fieldOffs Tryd.prog 115 = some [(0, 8), (8, 1), (9, 1)] := by kernel_rfl
theorem z115 : zerosOf Tryd.prog 115 = some ((List.replicate 8 (u32 0)) ++ [.slice none 0 0, i64 0]) := by kernel_rfl
-- 119: uint
theorem sz119 : SizeIs Tryd.prog 119 1 := .of (by kernel_rfl)
theorem one119 : OneT Tryd.prog 119 8 (u64 0) := .of (by kernel_rfl)
theorem z119 : zerosOf Tryd.prog 119 = some ([u64 0]) := by kernel_rfl
-- 132: [64]uint32
theorem sz132 : SizeIs Tryd.prog 132 64 := .of (by kernel_rfl)
theorem gd132 : Tryd.prog.eqGuardType Tryd.prog.depth 132 = false := by kernel_rfl
theorem ar132 : elemOff Tryd.prog 132 = some (64, 1, false) := by kernel_rfl
theorem z132 : zerosOf Tryd.prog 132 = some (List.replicate 64 (u32 0)) := by kernel_rfl
end Go.Proofs.YtiekhjbhlekaeaaDoor
