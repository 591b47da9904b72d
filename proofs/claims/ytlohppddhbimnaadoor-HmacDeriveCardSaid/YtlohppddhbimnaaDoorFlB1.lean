import Derived.Test.YtlohppddhbimnaaDoorFlB0
import Derived.Laws.MakeOwn
set_option linter.unusedVariables false
set_option linter.unusedSimpArgs false
namespace Go.Fl
open Go.RowKit

section
variable {P : Program} {C : Ctx} {N : Nat} {ρ : Env} {I : Im} {L : Lh} {φ : Value → Prop} {d : Option Nat} {ty : TypeId} {ps : String} {af : Array Edge} {g : Option (Nat × Bool)}
variable {x y z : Operand} {T T2 : TypeId}

/-! shifts by a number less than the width -/
theorem run_eqGuard_shl (T : TypeId) (x y : Operand) (a b : Value) (w : World) : (eqGuard .shl T x y a b).run P w = .ok () w := by simp [eqGuard]
theorem OpV.shl8 {m : UInt8} {kd : IntKind} {j : Int} (n : Nat) (hx : ev ρ x = some (u8 m)) (hy : ev ρ y = some (.int kd j)) (hj : j = (n : Int)) (h : n < 8) (k : φ (u8 (m <<< UInt8.ofNat n))) : OpV P N ⟨d, .binOp .shl T x y T2, ty, ps, af, g⟩ ρ I L φ :=
  .mk k fun a w ha _ => by subst hj; simp [execOp, ha.ev hx, ha.ev hy, eqGuard, bin_shl8 T m kd n h]
theorem OpV.shr8 {m : UInt8} {kd : IntKind} {j : Int} (n : Nat) (hx : ev ρ x = some (u8 m)) (hy : ev ρ y = some (.int kd j)) (hj : j = (n : Int)) (h : n < 8) (k : φ (u8 (m >>> UInt8.ofNat n))) : OpV P N ⟨d, .binOp .shr T x y T2, ty, ps, af, g⟩ ρ I L φ :=
  .mk k fun a w ha _ => by subst hj; simp [execOp, ha.ev hx, ha.ev hy, eqGuard, bin_shr8 T m kd n h]
theorem OpV.shl32 {m : UInt32} {kd : IntKind} {j : Int} (n : Nat) (hx : ev ρ x = some (u32 m)) (hy : ev ρ y = some (.int kd j)) (hj : j = (n : Int)) (h : n < 32) (k : φ (u32 (m <<< UInt32.ofNat n))) : OpV P N ⟨d, .binOp .shl T x y T2, ty, ps, af, g⟩ ρ I L φ :=
  .mk k fun a w ha _ => by subst hj; simp [execOp, ha.ev hx, ha.ev hy, eqGuard, bin_shl32 T m kd n h]
theorem OpV.shr32 {m : UInt32} {kd : IntKind} {j : Int} (n : Nat) (hx : ev ρ x = some (u32 m)) (hy : ev ρ y = some (.int kd j)) (hj : j = (n : Int)) (h : n < 32) (k : φ (u32 (m >>> UInt32.ofNat n))) : OpV P N ⟨d, .binOp .shr T x y T2, ty, ps, af, g⟩ ρ I L φ :=
  .mk k fun a w ha _ => by subst hj; simp [execOp, ha.ev hx, ha.ev hy, eqGuard, bin_shr32 T m kd n h]
theorem OpV.shl64 {m : UInt64} {kd : IntKind} {j : Int} (n : Nat) (hx : ev ρ x = some (u64 m)) (hy : ev ρ y = some (.int kd j)) (hj : j = (n : Int)) (h : n < 64) (k : φ (u64 (m <<< UInt64.ofNat n))) : OpV P N ⟨d, .binOp .shl T x y T2, ty, ps, af, g⟩ ρ I L φ :=
  .mk k fun a w ha _ => by subst hj; simp [execOp, ha.ev hx, ha.ev hy, eqGuard, bin_shl64 T m kd n h]
theorem OpV.shr64 {m : UInt64} {kd : IntKind} {j : Int} (n : Nat) (hx : ev ρ x = some (u64 m)) (hy : ev ρ y = some (.int kd j)) (hj : j = (n : Int)) (h : n < 64) (k : φ (u64 (m >>> UInt64.ofNat n))) : OpV P N ⟨d, .binOp .shr T x y T2, ty, ps, af, g⟩ ρ I L φ :=
  .mk k fun a w ha _ => by subst hj; simp [execOp, ha.ev hx, ha.ev hy, eqGuard, bin_shr64 T m kd n h]
theorem OpV.add8 {m n : UInt8} (hx : ev ρ x = some (u8 m)) (hy : ev ρ y = some (u8 n)) (k : φ (u8 (m + n))) : OpV P N ⟨d, .binOp .add T x y T2, ty, ps, af, g⟩ ρ I L φ :=
  .mk k fun a w ha _ => by simp [execOp, ha.ev hx, ha.ev hy, eqGuard, binOp, Op.intArith, u8, wrap_u8]
theorem OpV.add64 {m n : UInt64} (hx : ev ρ x = some (u64 m)) (hy : ev ρ y = some (u64 n)) (k : φ (u64 (m + n))) : OpV P N ⟨d, .binOp .add T x y T2, ty, ps, af, g⟩ ρ I L φ :=
  .mk k fun a w ha _ => by simp [execOp, ha.ev hx, ha.ev hy, eqGuard, binOp, Op.intArith, u64, wrap_u64]
theorem OpV.mul64 {m n : UInt64} (hx : ev ρ x = some (u64 m)) (hy : ev ρ y = some (u64 n)) (k : φ (u64 (m * n))) : OpV P N ⟨d, .binOp .mul T x y T2, ty, ps, af, g⟩ ρ I L φ :=
  .mk k fun a w ha _ => by simp [execOp, ha.ev hx, ha.ev hy, eqGuard, binOp, Op.intArith, u64, wrap_u64]

theorem OpV.sub64 {m n : UInt64} (hx : ev ρ x = some (u64 m)) (hy : ev ρ y = some (u64 n)) (k : φ (u64 (m - n))) : OpV P N ⟨d, .binOp .sub T x y T2, ty, ps, af, g⟩ ρ I L φ :=
  .mk k fun a w ha _ => by
    have e : (((m.toNat : Int) - n.toNat) % 18446744073709551616) = ((m - n).toNat : Int) := by
      have h1 := m.toNat_lt; have h2 := n.toNat_lt
      rw [UInt64.toNat_sub]
      omega
    simp [execOp, ha.ev hx, ha.ev hy, eqGuard, binOp, Op.intArith, u64, wrap_u64, e]

theorem OpV.neg {m : Int} (hx : ev ρ x = some (i64 m)) (h : -9223372036854775807 ≤ m ∧ m ≤ 9223372036854775807) (k : φ (i64 (-m))) : OpV P N ⟨d, .unOp .neg T x, ty, ps, af, g⟩ ρ I L φ :=
  .mk k fun a w ha _ => by simp [execOp, ha.ev hx, Op.unary, Op.intArith, wrap_i64 (n := -m) (by omega) (by omega)]

/-! conversions -/
theorem run_convert_int {S D : TypeId} {ds : TypeDesc} {k : IntKind} (hS : P.underlying S = some ds) (hD : P.underlying D = some (.int k)) (j : IntKind) (n : Int) (w : World) :
    (convert S D (.int j n)).run P w = .ok (.int k (k.wrap n)) w := by
  simp [convert, run_underlying hS, run_underlying hD, Conv.intToInt]
section conv
variable {S D : TypeId} {ds : TypeDesc}
theorem OpV.convI {j : IntKind} {n : Int} (hS : P.underlying S = some ds) (hD : P.underlying D = some (.int .i64)) (hx : ev ρ x = some (.int j n)) (h1 : -9223372036854775808 ≤ n) (h2 : n ≤ 9223372036854775807) (k : φ (i64 n)) :
    OpV P N ⟨d, .convert S D x, ty, ps, af, g⟩ ρ I L φ := .mk k fun a w ha _ => by simp [execOp, ha.ev hx, run_convert_int hS hD, wrap_i64 h1 h2]
theorem OpV.conv8 {j : IntKind} {n : Int} (hS : P.underlying S = some ds) (hD : P.underlying D = some (.int .u8)) (hx : ev ρ x = some (.int j n)) (k : φ (u8 (UInt8.ofInt n))) :
    OpV P N ⟨d, .convert S D x, ty, ps, af, g⟩ ρ I L φ := .mk k fun a w ha _ => by
  have e : IntKind.wrap .u8 n = ((UInt8.ofInt n).toNat : Int) := by
    rw [wrap_u8]
    show _ = (((UInt8.ofNat (n % 2 ^ 8).toNat).toNat : Nat) : Int)
    simp only [UInt8.toNat_ofNat']
    omega
  simp [execOp, ha.ev hx, run_convert_int hS hD, e, u8]
theorem OpV.conv32 {j : IntKind} {n : Int} (hS : P.underlying S = some ds) (hD : P.underlying D = some (.int .u32)) (hx : ev ρ x = some (.int j n)) (k : φ (u32 (UInt32.ofInt n))) :
    OpV P N ⟨d, .convert S D x, ty, ps, af, g⟩ ρ I L φ := .mk k fun a w ha _ => by
  have e : IntKind.wrap .u32 n = ((UInt32.ofInt n).toNat : Int) := by
    rw [wrap_u32]
    show _ = (((UInt32.ofNat (n % 2 ^ 32).toNat).toNat : Nat) : Int)
    simp only [UInt32.toNat_ofNat']
    omega
  simp [execOp, ha.ev hx, run_convert_int hS hD, e, u32]
theorem OpV.conv64 {j : IntKind} {n : Int} (hS : P.underlying S = some ds) (hD : P.underlying D = some (.int .u64)) (hx : ev ρ x = some (.int j n)) (k : φ (u64 (UInt64.ofInt n))) :
    OpV P N ⟨d, .convert S D x, ty, ps, af, g⟩ ρ I L φ := .mk k fun a w ha _ => by
  have e : IntKind.wrap .u64 n = ((UInt64.ofInt n).toNat : Int) := by
    rw [wrap_u64]
    show _ = (((UInt64.ofNat (n % 2 ^ 64).toNat).toNat : Nat) : Int)
    simp only [UInt64.toNat_ofNat']
    omega
  simp [execOp, ha.ev hx, run_convert_int hS hD, e, u64]
theorem OpV.conv8_32 {m : UInt8} (hS : P.underlying S = some ds) (hD : P.underlying D = some (.int .u32)) (hx : ev ρ x = some (u8 m)) (k : φ (u32 m.toUInt32)) :
    OpV P N ⟨d, .convert S D x, ty, ps, af, g⟩ ρ I L φ := .mk k fun a w ha _ => by
  have h := m.toNat_lt
  have e : IntKind.wrap .u32 (m.toNat : Int) = (m.toUInt32.toNat : Int) := by rw [wrap_u32]; simp; omega
  simp [execOp, ha.ev hx, u8, run_convert_int hS hD, e, u32]
theorem OpV.conv8_64 {m : UInt8} (hS : P.underlying S = some ds) (hD : P.underlying D = some (.int .u64)) (hx : ev ρ x = some (u8 m)) (k : φ (u64 m.toUInt64)) :
    OpV P N ⟨d, .convert S D x, ty, ps, af, g⟩ ρ I L φ := .mk k fun a w ha _ => by
  have h := m.toNat_lt
  have e : IntKind.wrap .u64 (m.toNat : Int) = (m.toUInt64.toNat : Int) := by rw [wrap_u64]; simp; omega
  simp [execOp, ha.ev hx, u8, run_convert_int hS hD, e, u64]
theorem OpV.conv32_8 {m : UInt32} (hS : P.underlying S = some ds) (hD : P.underlying D = some (.int .u8)) (hx : ev ρ x = some (u32 m)) (k : φ (u8 m.toUInt8)) :
    OpV P N ⟨d, .convert S D x, ty, ps, af, g⟩ ρ I L φ := .mk k fun a w ha _ => by
  have e : IntKind.wrap .u8 (m.toNat : Int) = (m.toUInt8.toNat : Int) := by rw [wrap_u8]; simp
  simp [execOp, ha.ev hx, u32, run_convert_int hS hD, e, u8]
theorem OpV.conv64_8 {m : UInt64} (hS : P.underlying S = some ds) (hD : P.underlying D = some (.int .u8)) (hx : ev ρ x = some (u64 m)) (k : φ (u8 m.toUInt8)) :
    OpV P N ⟨d, .convert S D x, ty, ps, af, g⟩ ρ I L φ := .mk k fun a w ha _ => by
  have e : IntKind.wrap .u8 (m.toNat : Int) = (m.toUInt8.toNat : Int) := by rw [wrap_u8]; simp
  simp [execOp, ha.ev hx, u64, run_convert_int hS hD, e, u8]
end conv

/-! len, cap, min, max -/
section len
variable {E : TypeId} {a0 : Option Addr} {n c : Nat}
theorem OpV.len (hT : P.underlying T = some (.slice E)) (hx : ev ρ x = some (.slice a0 n c)) (k : φ (i64 n)) : OpV P N ⟨d, .call ⟨.builtin .len, #[x], #[T]⟩, ty, ps, af, g⟩ ρ I L φ :=
  .mk k fun a w ha _ => by simp [execOp, resolve, invoke, builtin, Builtin.len_, run_underlying hT, ha.ev hx, goInt]
theorem OpV.lenS {s : ByteArray} (hT : P.underlying T = some .string) (hx : ev ρ x = some (.string s)) (k : φ (i64 s.size)) : OpV P N ⟨d, .call ⟨.builtin .len, #[x], #[T]⟩, ty, ps, af, g⟩ ρ I L φ :=
  .mk k fun a w ha _ => by simp [execOp, resolve, invoke, builtin, Builtin.len_, run_underlying hT, ha.ev hx, goInt]
theorem OpV.cap (hT : P.underlying T = some (.slice E)) (hx : ev ρ x = some (.slice a0 n c)) (k : φ (i64 c)) : OpV P N ⟨d, .call ⟨.builtin .cap, #[x], #[T]⟩, ty, ps, af, g⟩ ρ I L φ :=
  .mk k fun a w ha _ => by simp [execOp, resolve, invoke, builtin, Builtin.cap_, run_underlying hT, ha.ev hx, goInt]
end len
theorem OpV.minI {m n : Int} {ts : Array TypeId} (hx : ev ρ x = some (i64 m)) (hy : ev ρ y = some (i64 n)) (k : φ (i64 (min m n))) : OpV P N ⟨d, .call ⟨.builtin .min, #[x, y], ts⟩, ty, ps, af, g⟩ ρ I L φ :=
  .mk k fun a w ha _ => by
    have e : (if n < m then n else m) = min m n := by simp only [Int.min_def]; split <;> split <;> omega
    simp [execOp, resolve, invoke, builtin, Builtin.min_, Builtin.min2, ha.ev hx, ha.ev hy, e]
theorem OpV.maxI {m n : Int} {ts : Array TypeId} (hx : ev ρ x = some (i64 m)) (hy : ev ρ y = some (i64 n)) (k : φ (i64 (max m n))) : OpV P N ⟨d, .call ⟨.builtin .max, #[x, y], ts⟩, ty, ps, af, g⟩ ρ I L φ :=
  .mk k fun a w ha _ => by
    have e : (if m < n then n else m) = max m n := by simp only [Int.max_def]; split <;> split <;> omega
    simp [execOp, resolve, invoke, builtin, Builtin.max_, Builtin.max2, ha.ev hx, ha.ev hy, e]
end
end Go.Fl
