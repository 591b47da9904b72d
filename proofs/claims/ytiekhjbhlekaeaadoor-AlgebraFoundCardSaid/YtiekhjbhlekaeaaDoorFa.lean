/- Facts on the types of this seat's translation for walks over typed values, by program (wip/tool/ab.py). -/
import Derived.Test.YtiekhjbhlekaeaaDoorFacts
import Derived.Test.YtiekhjbhlekaeaaDoorTy
set_option maxRecDepth 1000000
namespace Go.Proofs.YtiekhjbhlekaeaaDoor
open Go.Ab Go.Mac
-- 2: int64
theorem ty2 : TyIs Tryd.prog 2 Int := .of (by kernel_rfl) (by kernel_rfl) (by kernel_rfl) (by decide)
-- 3: int
theorem ty3 : TyIs Tryd.prog 3 Int := .of (by kernel_rfl) (by kernel_rfl) (by kernel_rfl) (by decide)
-- 4: bool
theorem ty4 : TyIs Tryd.prog 4 Bool := .of (by kernel_rfl) (by kernel_rfl) (by kernel_rfl) (by decide)
-- 5: uint8
theorem ty5 : TyIs Tryd.prog 5 UInt8 := .of (by kernel_rfl) (by kernel_rfl) (by kernel_rfl) (by decide)
-- 6: internal/abi.BoundsErrorCode
theorem ty6 : TyIs Tryd.prog 6 UInt8 := .of (by kernel_rfl) (by kernel_rfl) (by kernel_rfl) (by decide)
-- 9: string
theorem ty9 : TyIs Tryd.prog 9 Str := .of (by kernel_rfl) (by kernel_rfl) (by kernel_rfl) (by decide)
-- 10: runtime.errorString
theorem ty10 : TyIs Tryd.prog 10 Str := .of (by kernel_rfl) (by kernel_rfl) (by kernel_rfl) (by decide)
-- 11: runtime.plainError
theorem ty11 : TyIs Tryd.prog 11 Str := .of (by kernel_rfl) (by kernel_rfl) (by kernel_rfl) (by decide)
-- 12: uintptr
theorem ty12 : TyIs Tryd.prog 12 UInt64 := .of (by kernel_rfl) (by kernel_rfl) (by kernel_rfl) (by decide)
-- 22: []int
theorem ty22 : TyIs Tryd.prog 22 (List Int) := .of (by kernel_rfl) (by kernel_rfl) (by kernel_rfl) (by decide)
-- 23: []uint8
theorem ty23 : TyIs Tryd.prog 23 (List UInt8) := .of (by kernel_rfl) (by kernel_rfl) (by kernel_rfl) (by decide)
-- 27: [32]uint8
theorem ty27 : TyIs Tryd.prog 27 (Arr 32 UInt8) := .of (by kernel_rfl) (by kernel_rfl) (by kernel_rfl) (by decide)
-- 28: macaroon/api.Tag
theorem ty28 : TyIs Tryd.prog 28 (Arr 32 UInt8) := .of (by kernel_rfl) (by kernel_rfl) (by kernel_rfl) (by decide)
-- 29: []api.Mac
theorem ty29 : TyIs Tryd.prog 29 (List G_api_Mac) := .of (by kernel_rfl) (by kernel_rfl) (by kernel_rfl) (by decide)
-- 30: []api.Sealed
theorem ty30 : TyIs Tryd.prog 30 (List G_api_Sealed) := .of (by kernel_rfl) (by kernel_rfl) (by kernel_rfl) (by decide)
-- 32: macaroon/api.Algebra
theorem ty32 : TyIs Tryd.prog 32 G_api_Algebra := .of (by kernel_rfl) (by kernel_rfl) (by kernel_rfl) (by decide)
-- 36: [][]uint8
theorem ty36 : TyIs Tryd.prog 36 (List (List UInt8)) := .of (by kernel_rfl) (by kernel_rfl) (by kernel_rfl) (by decide)
-- 38: macaroon/api.Mac
theorem ty38 : TyIs Tryd.prog 38 G_api_Mac := .of (by kernel_rfl) (by kernel_rfl) (by kernel_rfl) (by decide)
-- 39: macaroon/api.Errno
theorem ty39 : TyIs Tryd.prog 39 Int := .of (by kernel_rfl) (by kernel_rfl) (by kernel_rfl) (by decide)
-- 56: macaroon/api.Sealed
theorem ty56 : TyIs Tryd.prog 56 G_api_Sealed := .of (by kernel_rfl) (by kernel_rfl) (by kernel_rfl) (by decide)
-- 67: macaroon/api.Item
theorem ty67 : TyIs Tryd.prog 67 G_api_Item := .of (by kernel_rfl) (by kernel_rfl) (by kernel_rfl) (by decide)
-- 72: []api.Item
theorem ty72 : TyIs Tryd.prog 72 (List G_api_Item) := .of (by kernel_rfl) (by kernel_rfl) (by kernel_rfl) (by decide)
-- 79: macaroon/macaroonmade.Deck
theorem ty79 : TyIs Tryd.prog 79 G_macaroonmade_Deck := .of (by kernel_rfl) (by kernel_rfl) (by kernel_rfl) (by decide)
-- 90: uint64
theorem ty90 : TyIs Tryd.prog 90 UInt64 := .of (by kernel_rfl) (by kernel_rfl) (by kernel_rfl) (by decide)
-- 100: [5][]uint8
theorem ty100 : TyIs Tryd.prog 100 (Arr 5 (List UInt8)) := .of (by kernel_rfl) (by kernel_rfl) (by kernel_rfl) (by decide)
-- 105: macaroon/algebra.Maker
theorem ty105 : TyIs Tryd.prog 105 G_algebra_Maker := .of (by kernel_rfl) (by kernel_rfl) (by kernel_rfl) (by decide)
-- 112: uint32
theorem ty112 : TyIs Tryd.prog 112 UInt32 := .of (by kernel_rfl) (by kernel_rfl) (by kernel_rfl) (by decide)
-- 113: [8]uint32
theorem ty113 : TyIs Tryd.prog 113 (Arr 8 UInt32) := .of (by kernel_rfl) (by kernel_rfl) (by kernel_rfl) (by decide)
-- 115: macaroon/api.Hash
theorem ty115 : TyIs Tryd.prog 115 G_api_Hash := .of (by kernel_rfl) (by kernel_rfl) (by kernel_rfl) (by decide)
-- 119: uint
theorem ty119 : TyIs Tryd.prog 119 UInt64 := .of (by kernel_rfl) (by kernel_rfl) (by kernel_rfl) (by decide)
-- 132: [64]uint32
theorem ty132 : TyIs Tryd.prog 132 (Arr 64 UInt32) := .of (by kernel_rfl) (by kernel_rfl) (by kernel_rfl) (by decide)
-- 145: internal/abi.TFlag
theorem ty145 : TyIs Tryd.prog 145 UInt8 := .of (by kernel_rfl) (by kernel_rfl) (by kernel_rfl) (by decide)
-- 146: internal/abi.Kind
theorem ty146 : TyIs Tryd.prog 146 UInt8 := .of (by kernel_rfl) (by kernel_rfl) (by kernel_rfl) (by decide)
theorem st22 : SlT Tryd.prog 22 3 Int 8 := ⟨.of (by kernel_rfl), ty3⟩
theorem st23 : SlT Tryd.prog 23 5 UInt8 1 := ⟨.of (by kernel_rfl), ty5⟩
theorem st29 : SlT Tryd.prog 29 38 G_api_Mac 88 := ⟨.of (by kernel_rfl), ty38⟩
theorem st30 : SlT Tryd.prog 30 56 G_api_Sealed 88 := ⟨.of (by kernel_rfl), ty56⟩
theorem st36 : SlT Tryd.prog 36 23 (List UInt8) 24 := ⟨.of (by kernel_rfl), ty23⟩
theorem st72 : SlT Tryd.prog 72 67 G_api_Item 112 := ⟨.of (by kernel_rfl), ty67⟩
end Go.Proofs.YtiekhjbhlekaeaaDoor
