/- Facts on the types of this seat's translation for walks over typed values, by program (wip/tool/ab.py). -/
import Derived.Test.YtlohppddhbimnaaDoorFacts
import Derived.Test.YtlohppddhbimnaaDoorTy
namespace Go.Proofs.YtlohppddhbimnaaDoor
open Go.Ab Go.Mac
-- 2: int64
theorem ty2 : TyIs Tryd.prog 2 Int := .of (by kernel_rfl) (by kernel_rfl) (by kernel_rfl) (by decide)
-- 3: int
theorem ty3 : TyIs Tryd.prog 3 Int := .of (by kernel_rfl) (by kernel_rfl) (by kernel_rfl) (by decide)
-- 4: bool
theorem ty4 : TyIs Tryd.prog 4 Bool := .of (by kernel_rfl) (by kernel_rfl) (by kernel_rfl) (by decide)
-- 5: uint8
theorem ty5 : TyIs Tryd.prog 5 UInt8 := .of (by kernel_rfl) (by kernel_rfl) (by kernel_rfl) (by decide)
-- 6: internal/abi.BoundsErrorCode
theorem ty6 : TyIs Tryd.prog 6 UInt8 := .of (by kernel_rfl) (by kernel_rfl) (by kernel_rfl) (by decide)
-- 9: string
theorem ty9 : TyIs Tryd.prog 9 Str := .of (by kernel_rfl) (by kernel_rfl) (by kernel_rfl) (by decide)
-- 10: runtime.errorString
theorem ty10 : TyIs Tryd.prog 10 Str := .of (by kernel_rfl) (by kernel_rfl) (by kernel_rfl) (by decide)
-- 11: runtime.plainError
theorem ty11 : TyIs Tryd.prog 11 Str := .of (by kernel_rfl) (by kernel_rfl) (by kernel_rfl) (by decide)
-- 12: uintptr
theorem ty12 : TyIs Tryd.prog 12 UInt64 := .of (by kernel_rfl) (by kernel_rfl) (by kernel_rfl) (by decide)
-- 22: []uint8
theorem ty22 : TyIs Tryd.prog 22 (List UInt8) := .of (by kernel_rfl) (by kernel_rfl) (by kernel_rfl) (by decide)
theorem st22 : SlT Tryd.prog 22 5 UInt8 1 := ⟨.of (by kernel_rfl), ty5⟩
-- 23: uint16
theorem ty23 : TyIs Tryd.prog 23 UInt16 := .of (by kernel_rfl) (by kernel_rfl) (by kernel_rfl) (by decide)
-- 25: [32]uint8
theorem ty25 : TyIs Tryd.prog 25 (Arr 32 UInt8) := .of (by kernel_rfl) (by kernel_rfl) (by kernel_rfl) (by decide)
-- 26: macaroon/api.Tag
theorem ty26 : TyIs Tryd.prog 26 (Arr 32 UInt8) := .of (by kernel_rfl) (by kernel_rfl) (by kernel_rfl) (by decide)
-- 31: uint32
theorem ty31 : TyIs Tryd.prog 31 UInt32 := .of (by kernel_rfl) (by kernel_rfl) (by kernel_rfl) (by decide)
-- 32: [8]uint32
theorem ty32 : TyIs Tryd.prog 32 (Arr 8 UInt32) := .of (by kernel_rfl) (by kernel_rfl) (by kernel_rfl) (by decide)
-- 34: macaroon/api.Hash
theorem ty34 : TyIs Tryd.prog 34 G_api_Hash := .of (by kernel_rfl) (by kernel_rfl) (by kernel_rfl) (by decide)
-- 41: []int
theorem ty41 : TyIs Tryd.prog 41 (List Int) := .of (by kernel_rfl) (by kernel_rfl) (by kernel_rfl) (by decide)
theorem st41 : SlT Tryd.prog 41 3 Int 8 := ⟨.of (by kernel_rfl), ty3⟩
-- 48: macaroon/api.Errno
theorem ty48 : TyIs Tryd.prog 48 Int := .of (by kernel_rfl) (by kernel_rfl) (by kernel_rfl) (by decide)
-- 57: uint64
theorem ty57 : TyIs Tryd.prog 57 UInt64 := .of (by kernel_rfl) (by kernel_rfl) (by kernel_rfl) (by decide)
-- 60: uint
theorem ty60 : TyIs Tryd.prog 60 UInt64 := .of (by kernel_rfl) (by kernel_rfl) (by kernel_rfl) (by decide)
-- 65: macaroon/macaroonmade.Deck
theorem ty65 : TyIs Tryd.prog 65 G_macaroonmade_Deck := .of (by kernel_rfl) (by kernel_rfl) (by kernel_rfl) (by decide)
-- 66: []string
theorem ty66 : TyIs Tryd.prog 66 (List Str) := .of (by kernel_rfl) (by kernel_rfl) (by kernel_rfl) (by decide)
theorem st66 : SlT Tryd.prog 66 9 Str 16 := ⟨.of (by kernel_rfl), ty9⟩
-- 67: [64]uint32
theorem ty67 : TyIs Tryd.prog 67 (Arr 64 UInt32) := .of (by kernel_rfl) (by kernel_rfl) (by kernel_rfl) (by decide)
-- 70: [][]uint8
theorem ty70 : TyIs Tryd.prog 70 (List (List UInt8)) := .of (by kernel_rfl) (by kernel_rfl) (by kernel_rfl) (by decide)
theorem st70 : SlT Tryd.prog 70 22 (List UInt8) 24 := ⟨.of (by kernel_rfl), ty22⟩
-- 80: internal/abi.TFlag
theorem ty80 : TyIs Tryd.prog 80 UInt8 := .of (by kernel_rfl) (by kernel_rfl) (by kernel_rfl) (by decide)
-- 81: internal/abi.Kind
theorem ty81 : TyIs Tryd.prog 81 UInt8 := .of (by kernel_rfl) (by kernel_rfl) (by kernel_rfl) (by decide)
end Go.Proofs.YtlohppddhbimnaaDoor
