import Derived.Test.YtlohppddhbimnaaDoorFlA
set_option linter.unusedVariables false
set_option linter.unusedSimpArgs false
namespace Go.Fl
open Go.RowKit

/-! ### Numbers -/
def u8 (x : UInt8) : Value := .int .u8 (x.toNat : Int)
def u32 (x : UInt32) : Value := .int .u32 (x.toNat : Int)
def u64 (x : UInt64) : Value := .int .u64 (x.toNat : Int)
abbrev i64 (n : Int) : Value := .int .i64 n
abbrev bl (b : Bool) : Value := .bool b

theorem wrap_i64 {n : Int} (h1 : -9223372036854775808 ≤ n) (h2 : n ≤ 9223372036854775807) : IntKind.wrap .i64 n = n := by
  exact IntWalk.i64_in n ⟨h1, h2⟩
theorem wrap_u8 (n : Int) : IntKind.wrap .u8 n = n % 256 := by simp [IntKind.wrap, IntKind.bits, IntKind.signed]
theorem wrap_u32 (n : Int) : IntKind.wrap .u32 n = n % 4294967296 := by simp [IntKind.wrap, IntKind.bits, IntKind.signed]
theorem wrap_u64 (n : Int) : IntKind.wrap .u64 n = n % 18446744073709551616 := by simp [IntKind.wrap, IntKind.bits, IntKind.signed]

section
variable {P : Program} {C : Ctx} {N : Nat} {ρ : Env} {I : Im} {L : Lh} {φ : Value → Prop} {d : Option Nat} {ty : TypeId} {ps : String} {af : Array Edge} {g : Option (Nat × Bool)}
theorem OpV.mk {o : Oper} {v : Value} (hv : φ v) (h : ∀ a w, Fits N ρ a → Mem I L w → (execOp a.eval o).run P w = .ok (.value v) w) : OpV P N o ρ I L φ := fun a w ha hm => ⟨v, hv, h a w ha hm⟩
variable {x y z : Operand} {T T2 : TypeId}
theorem OpV.move {v : Value} (hx : ev ρ x = some v) (k : φ v) : OpV P N ⟨d, .move x, ty, ps, af, g⟩ ρ I L φ := .mk k fun a w ha _ => by simp [execOp, ha.ev hx]
theorem OpV.assign {v : Value} (hx : ev ρ x = some v) (k : φ v) : OpV P N ⟨d, .assign x, ty, ps, af, g⟩ ρ I L φ := .mk k fun a w ha _ => by simp [execOp, ha.ev hx]
theorem OpV.pickT {v : Value} (hc : ev ρ x = some (.bool true)) (hx : ev ρ y = some v) (k : φ v) : OpV P N ⟨d, .pick x y z, ty, ps, af, g⟩ ρ I L φ := .mk k fun a w ha _ => by simp [execOp, ha.ev hc, ha.ev hx, asBool]
theorem OpV.pickF {v : Value} (hc : ev ρ x = some (.bool false)) (hx : ev ρ z = some v) (k : φ v) : OpV P N ⟨d, .pick x y z, ty, ps, af, g⟩ ρ I L φ := .mk k fun a w ha _ => by simp [execOp, ha.ev hc, ha.ev hx, asBool]
theorem OpV.extract {vs : Array Value} {v : Value} {i : Nat} (hx : ev ρ x = some (.tuple vs)) (hv : vs[i]? = some v) (k : φ v) : OpV P N ⟨d, .extract x i, ty, ps, af, g⟩ ρ I L φ := .mk k fun a w ha _ => by simp [execOp, ha.ev hx, Instr.extract, hv]

/-! the integers of kind i64 -/
theorem OpV.add {m n : Int} (hx : ev ρ x = some (i64 m)) (hy : ev ρ y = some (i64 n)) (h1 : -9223372036854775808 ≤ m + n) (h2 : m + n ≤ 9223372036854775807) (k : φ (i64 (m + n))) :
    OpV P N ⟨d, .binOp .add T x y T2, ty, ps, af, g⟩ ρ I L φ := .mk k fun a w ha _ => by simp [execOp, ha.ev hx, ha.ev hy, eqGuard, binOp, Op.intArith, wrap_i64 h1 h2]
theorem OpV.sub {m n : Int} (hx : ev ρ x = some (i64 m)) (hy : ev ρ y = some (i64 n)) (h1 : -9223372036854775808 ≤ m - n) (h2 : m - n ≤ 9223372036854775807) (k : φ (i64 (m - n))) :
    OpV P N ⟨d, .binOp .sub T x y T2, ty, ps, af, g⟩ ρ I L φ := .mk k fun a w ha _ => by simp [execOp, ha.ev hx, ha.ev hy, eqGuard, binOp, Op.intArith, wrap_i64 h1 h2]
theorem OpV.mul {m n : Int} (hx : ev ρ x = some (i64 m)) (hy : ev ρ y = some (i64 n)) (h1 : -9223372036854775808 ≤ m * n) (h2 : m * n ≤ 9223372036854775807) (k : φ (i64 (m * n))) :
    OpV P N ⟨d, .binOp .mul T x y T2, ty, ps, af, g⟩ ρ I L φ := .mk k fun a w ha _ => by simp [execOp, ha.ev hx, ha.ev hy, eqGuard, binOp, Op.intArith, wrap_i64 h1 h2]
/-- x / y of numbers that are not negative. -/
theorem OpV.quo {m n : Int} (hx : ev ρ x = some (i64 m)) (hy : ev ρ y = some (i64 n)) (h0 : 0 ≤ m) (h1 : m ≤ 9223372036854775807) (h2 : 0 < n) (k : φ (i64 (m / n))) :
    OpV P N ⟨d, .binOp .quo T x y T2, ty, ps, af, g⟩ ρ I L φ := .mk k fun a w ha _ => by
  have hn : n ≠ 0 := by omega
  have h3 : m.tdiv n = m / n := Int.tdiv_eq_ediv_of_nonneg h0
  have h4 : 0 ≤ m / n := Int.ediv_nonneg h0 (by omega)
  have h5 : m / n ≤ m := Int.ediv_le_self _ h0
  simp [execOp, ha.ev hx, ha.ev hy, eqGuard, binOp, Op.intDiv, hn, h3, wrap_i64 (n := m / n) (by omega) (by omega)]
theorem OpV.rem {m n : Int} (hx : ev ρ x = some (i64 m)) (hy : ev ρ y = some (i64 n)) (h0 : 0 ≤ m) (h2 : 0 < n) (k : φ (i64 (m % n))) :
    OpV P N ⟨d, .binOp .rem T x y T2, ty, ps, af, g⟩ ρ I L φ := .mk k fun a w ha _ => by
  have hn : n ≠ 0 := by omega
  have h3 : m.tmod n = m % n := Int.tmod_eq_emod_of_nonneg h0
  simp [execOp, ha.ev hx, ha.ev hy, eqGuard, binOp, Op.intDiv, hn, h3]
theorem OpV.tmod {m n : Int} (hx : ev ρ x = some (i64 m)) (hy : ev ρ y = some (i64 n)) (hn : n ≠ 0) (k : φ (i64 (m.tmod n))) :
    OpV P N ⟨d, .binOp .rem T x y T2, ty, ps, af, g⟩ ρ I L φ := .mk k fun a w ha _ => by simp [execOp, ha.ev hx, ha.ev hy, eqGuard, binOp, Op.intDiv, hn]
section cmp
variable {kd : IntKind} {m n : Int}
theorem OpV.lss (hx : ev ρ x = some (.int kd m)) (hy : ev ρ y = some (.int kd n)) (k : φ (.bool (decide (m < n)))) : OpV P N ⟨d, .binOp .lss T x y T2, ty, ps, af, g⟩ ρ I L φ :=
  .mk k fun a w ha _ => by simp [execOp, ha.ev hx, ha.ev hy, eqGuard, binOp, Op.intCmp]
theorem OpV.leq (hx : ev ρ x = some (.int kd m)) (hy : ev ρ y = some (.int kd n)) (k : φ (.bool (decide (m ≤ n)))) : OpV P N ⟨d, .binOp .leq T x y T2, ty, ps, af, g⟩ ρ I L φ :=
  .mk k fun a w ha _ => by simp [execOp, ha.ev hx, ha.ev hy, eqGuard, binOp, Op.intCmp]
theorem OpV.gtr (hx : ev ρ x = some (.int kd m)) (hy : ev ρ y = some (.int kd n)) (k : φ (.bool (decide (n < m)))) : OpV P N ⟨d, .binOp .gtr T x y T2, ty, ps, af, g⟩ ρ I L φ :=
  .mk k fun a w ha _ => by simp [execOp, ha.ev hx, ha.ev hy, eqGuard, binOp, Op.intCmp]
theorem OpV.geq (hx : ev ρ x = some (.int kd m)) (hy : ev ρ y = some (.int kd n)) (k : φ (.bool (decide (n ≤ m)))) : OpV P N ⟨d, .binOp .geq T x y T2, ty, ps, af, g⟩ ρ I L φ :=
  .mk k fun a w ha _ => by simp [execOp, ha.ev hx, ha.ev hy, eqGuard, binOp, Op.intCmp]
theorem OpV.eqlI (hx : ev ρ x = some (.int kd m)) (hy : ev ρ y = some (.int kd n)) (k : φ (.bool (decide (m = n)))) : OpV P N ⟨d, .binOp .eql T x y T2, ty, ps, af, g⟩ ρ I L φ :=
  .mk k fun a w ha _ => by
    have : (m == n) = decide (m = n) := rfl
    simp [execOp, ha.ev hx, ha.ev hy, eqGuard, binOp, Op.intCmp, this]
theorem OpV.neqI (hx : ev ρ x = some (.int kd m)) (hy : ev ρ y = some (.int kd n)) (k : φ (.bool (decide (m ≠ n)))) : OpV P N ⟨d, .binOp .neq T x y T2, ty, ps, af, g⟩ ρ I L φ :=
  .mk k fun a w ha _ => by
    have : (m != n) = decide (m ≠ n) := by by_cases h : m = n <;> simp [h, bne]
    simp only [execOp, ha.ev hx, ha.ev hy, eqGuard, binOp, Op.intCmp, this]
    simp [Sem.run]
end cmp
theorem OpV.not {b : Bool} (hx : ev ρ x = some (.bool b)) (k : φ (.bool (!b))) : OpV P N ⟨d, .unOp .not T x, ty, ps, af, g⟩ ρ I L φ :=
  .mk k fun a w ha _ => by simp [execOp, ha.ev hx, Op.unary]

/-! numbers without a sign -/
theorem bv_ofInt32 (x : UInt32) : BitVec.ofInt 32 (x.toNat : Int) = x.toBitVec := by
  apply BitVec.eq_of_toNat_eq
  have := x.toNat_lt
  simp [BitVec.toNat_ofInt]
theorem bv_ofInt64 (x : UInt64) : BitVec.ofInt 64 (x.toNat : Int) = x.toBitVec := by
  apply BitVec.eq_of_toNat_eq
  have := x.toNat_lt
  simp [BitVec.toNat_ofInt]
theorem bv_ofInt8 (x : UInt8) : BitVec.ofInt 8 (x.toNat : Int) = x.toBitVec := by
  apply BitVec.eq_of_toNat_eq
  have := x.toNat_lt
  simp [BitVec.toNat_ofInt]
theorem mod32 (x : UInt32) : (x.toNat : Int) % 4294967296 = x.toNat := by have := x.toNat_lt; omega
theorem mod64 (x : UInt64) : (x.toNat : Int) % 18446744073709551616 = x.toNat := by have := x.toNat_lt; omega
theorem mod8 (x : UInt8) : (x.toNat : Int) % 256 = x.toNat := by have := x.toNat_lt; omega
theorem OpV.add32 {m n : UInt32} (hx : ev ρ x = some (u32 m)) (hy : ev ρ y = some (u32 n)) (k : φ (u32 (m + n))) : OpV P N ⟨d, .binOp .add T x y T2, ty, ps, af, g⟩ ρ I L φ :=
  .mk k fun a w ha _ => by simp [execOp, ha.ev hx, ha.ev hy, eqGuard, binOp, Op.intArith, u32, wrap_u32]
theorem wrap_bv32 (b : BitVec 32) : IntKind.wrap .u32 (b.toNat : Int) = b.toNat := by rw [wrap_u32]; have := b.isLt; omega
theorem wrap_bv64 (b : BitVec 64) : IntKind.wrap .u64 (b.toNat : Int) = b.toNat := by rw [wrap_u64]; have := b.isLt; omega
theorem wrap_bv8 (b : BitVec 8) : IntKind.wrap .u8 (b.toNat : Int) = b.toNat := by rw [wrap_u8]; have := b.isLt; omega
theorem bin_xor8 (T : TypeId) (m n : UInt8) : binOp .xor T (u8 m) (u8 n) = pure (u8 (m ^^^ n)) := by
  unfold binOp u8
  simp only [ne_eq, not_true, if_false]
  show (pure (Value.int .u8 (IntKind.wrap .u8 ((BitVec.ofInt 8 m.toNat ^^^ BitVec.ofInt 8 n.toNat).toNat : Int))) : Sem Value) = _
  rw [bv_ofInt8, bv_ofInt8, wrap_bv8]
  rfl
theorem OpV.xor8 {m n : UInt8} (hx : ev ρ x = some (u8 m)) (hy : ev ρ y = some (u8 n)) (k : φ (u8 (m ^^^ n))) : OpV P N ⟨d, .binOp .xor T x y T2, ty, ps, af, g⟩ ρ I L φ :=
  .mk k fun a w ha _ => by simp [execOp, ha.ev hx, ha.ev hy, eqGuard, bin_xor8]
theorem bin_and8 (T : TypeId) (m n : UInt8) : binOp .and T (u8 m) (u8 n) = pure (u8 (m &&& n)) := by
  unfold binOp u8
  simp only [ne_eq, not_true, if_false]
  show (pure (Value.int .u8 (IntKind.wrap .u8 ((BitVec.ofInt 8 m.toNat &&& BitVec.ofInt 8 n.toNat).toNat : Int))) : Sem Value) = _
  rw [bv_ofInt8, bv_ofInt8, wrap_bv8]
  rfl
theorem OpV.and8 {m n : UInt8} (hx : ev ρ x = some (u8 m)) (hy : ev ρ y = some (u8 n)) (k : φ (u8 (m &&& n))) : OpV P N ⟨d, .binOp .and T x y T2, ty, ps, af, g⟩ ρ I L φ :=
  .mk k fun a w ha _ => by simp [execOp, ha.ev hx, ha.ev hy, eqGuard, bin_and8]
theorem bin_or8 (T : TypeId) (m n : UInt8) : binOp .or T (u8 m) (u8 n) = pure (u8 (m ||| n)) := by
  unfold binOp u8
  simp only [ne_eq, not_true, if_false]
  show (pure (Value.int .u8 (IntKind.wrap .u8 ((BitVec.ofInt 8 m.toNat ||| BitVec.ofInt 8 n.toNat).toNat : Int))) : Sem Value) = _
  rw [bv_ofInt8, bv_ofInt8, wrap_bv8]
  rfl
theorem OpV.or8 {m n : UInt8} (hx : ev ρ x = some (u8 m)) (hy : ev ρ y = some (u8 n)) (k : φ (u8 (m ||| n))) : OpV P N ⟨d, .binOp .or T x y T2, ty, ps, af, g⟩ ρ I L φ :=
  .mk k fun a w ha _ => by simp [execOp, ha.ev hx, ha.ev hy, eqGuard, bin_or8]
theorem un_not8 (m : UInt8) : Op.unary .xor (u8 m) = pure (u8 (~~~m)) := by
  unfold Op.unary u8
  show (pure (Value.int .u8 (IntKind.wrap .u8 ((BitVec.ofInt 8 (2 ^ 8 - 1) ^^^ BitVec.ofInt 8 m.toNat).toNat : Int))) : Sem Value) = _
  rw [bv_ofInt8, wrap_bv8]
  have h : BitVec.ofInt 8 (2 ^ 8 - 1) ^^^ m.toBitVec = ~~~ m.toBitVec := by
    rw [show BitVec.ofInt 8 (2 ^ 8 - 1) = BitVec.allOnes 8 from by decide]
    exact BitVec.allOnes_xor
  rw [h]
  rfl
theorem OpV.not8 {m : UInt8} (hx : ev ρ x = some (u8 m)) (k : φ (u8 (~~~m))) : OpV P N ⟨d, .unOp .xor T x, ty, ps, af, g⟩ ρ I L φ :=
  .mk k fun a w ha _ => by simp [execOp, ha.ev hx, un_not8]
/-- << by a number less than the width. -/
theorem bin_shl8 (T : TypeId) (m : UInt8) (kd : IntKind) (n : Nat) (h : n < 8) : binOp .shl T (u8 m) (.int kd (n : Int)) = pure (u8 (m <<< UInt8.ofNat n)) := by
  unfold u8
  show Op.shift .shl .u8 m.toNat kd n = _
  unfold Op.shift
  rw [if_neg (by omega)]
  have e : min ((n : Int).toNat) (IntKind.bits .u8) = n := by simp [IntKind.bits]; omega
  have hs : ((m <<< UInt8.ofNat n).toNat : Int) = (m.toNat * 2 ^ n : Int) % 256 := by
    have h1 : (UInt8.ofNat n).toNat = n := by simp; omega
    rw [UInt8.toNat_shiftLeft, h1, Nat.mod_eq_of_lt h, Nat.shiftLeft_eq]
    rw [Int.natCast_emod, Int.natCast_mul, Int.natCast_pow]
    rfl
  simp only [e, wrap_u8, hs]
theorem bin_shr8 (T : TypeId) (m : UInt8) (kd : IntKind) (n : Nat) (h : n < 8) : binOp .shr T (u8 m) (.int kd (n : Int)) = pure (u8 (m >>> UInt8.ofNat n)) := by
  unfold u8
  show Op.shift .shr .u8 m.toNat kd n = _
  unfold Op.shift
  rw [if_neg (by omega)]
  have e : min ((n : Int).toNat) (IntKind.bits .u8) = n := by simp [IntKind.bits]; omega
  have hs : ((m >>> UInt8.ofNat n).toNat : Int) = Int.fdiv m.toNat (2 ^ n) := by
    have h1 : (UInt8.ofNat n).toNat = n := by simp; omega
    rw [UInt8.toNat_shiftRight, h1, Nat.mod_eq_of_lt h, Nat.shiftRight_eq_div_pow, Int.fdiv_eq_ediv_of_nonneg _ (Int.pow_nonneg (by omega)), Int.natCast_ediv, Int.natCast_pow]
    rfl
  show (pure (Value.int .u8 (Int.fdiv m.toNat (2 ^ (min ((n : Int).toNat) (IntKind.bits .u8))))) : Sem Value) = _
  rw [e, hs]
theorem bin_xor32 (T : TypeId) (m n : UInt32) : binOp .xor T (u32 m) (u32 n) = pure (u32 (m ^^^ n)) := by
  unfold binOp u32
  simp only [ne_eq, not_true, if_false]
  show (pure (Value.int .u32 (IntKind.wrap .u32 ((BitVec.ofInt 32 m.toNat ^^^ BitVec.ofInt 32 n.toNat).toNat : Int))) : Sem Value) = _
  rw [bv_ofInt32, bv_ofInt32, wrap_bv32]
  rfl
theorem OpV.xor32 {m n : UInt32} (hx : ev ρ x = some (u32 m)) (hy : ev ρ y = some (u32 n)) (k : φ (u32 (m ^^^ n))) : OpV P N ⟨d, .binOp .xor T x y T2, ty, ps, af, g⟩ ρ I L φ :=
  .mk k fun a w ha _ => by simp [execOp, ha.ev hx, ha.ev hy, eqGuard, bin_xor32]
theorem bin_and32 (T : TypeId) (m n : UInt32) : binOp .and T (u32 m) (u32 n) = pure (u32 (m &&& n)) := by
  unfold binOp u32
  simp only [ne_eq, not_true, if_false]
  show (pure (Value.int .u32 (IntKind.wrap .u32 ((BitVec.ofInt 32 m.toNat &&& BitVec.ofInt 32 n.toNat).toNat : Int))) : Sem Value) = _
  rw [bv_ofInt32, bv_ofInt32, wrap_bv32]
  rfl
theorem OpV.and32 {m n : UInt32} (hx : ev ρ x = some (u32 m)) (hy : ev ρ y = some (u32 n)) (k : φ (u32 (m &&& n))) : OpV P N ⟨d, .binOp .and T x y T2, ty, ps, af, g⟩ ρ I L φ :=
  .mk k fun a w ha _ => by simp [execOp, ha.ev hx, ha.ev hy, eqGuard, bin_and32]
theorem bin_or32 (T : TypeId) (m n : UInt32) : binOp .or T (u32 m) (u32 n) = pure (u32 (m ||| n)) := by
  unfold binOp u32
  simp only [ne_eq, not_true, if_false]
  show (pure (Value.int .u32 (IntKind.wrap .u32 ((BitVec.ofInt 32 m.toNat ||| BitVec.ofInt 32 n.toNat).toNat : Int))) : Sem Value) = _
  rw [bv_ofInt32, bv_ofInt32, wrap_bv32]
  rfl
theorem OpV.or32 {m n : UInt32} (hx : ev ρ x = some (u32 m)) (hy : ev ρ y = some (u32 n)) (k : φ (u32 (m ||| n))) : OpV P N ⟨d, .binOp .or T x y T2, ty, ps, af, g⟩ ρ I L φ :=
  .mk k fun a w ha _ => by simp [execOp, ha.ev hx, ha.ev hy, eqGuard, bin_or32]
theorem un_not32 (m : UInt32) : Op.unary .xor (u32 m) = pure (u32 (~~~m)) := by
  unfold Op.unary u32
  show (pure (Value.int .u32 (IntKind.wrap .u32 ((BitVec.ofInt 32 (2 ^ 32 - 1) ^^^ BitVec.ofInt 32 m.toNat).toNat : Int))) : Sem Value) = _
  rw [bv_ofInt32, wrap_bv32]
  have h : BitVec.ofInt 32 (2 ^ 32 - 1) ^^^ m.toBitVec = ~~~ m.toBitVec := by
    rw [show BitVec.ofInt 32 (2 ^ 32 - 1) = BitVec.allOnes 32 from by decide]
    exact BitVec.allOnes_xor
  rw [h]
  rfl
theorem OpV.not32 {m : UInt32} (hx : ev ρ x = some (u32 m)) (k : φ (u32 (~~~m))) : OpV P N ⟨d, .unOp .xor T x, ty, ps, af, g⟩ ρ I L φ :=
  .mk k fun a w ha _ => by simp [execOp, ha.ev hx, un_not32]
/-- << by a number less than the width. -/
theorem bin_shl32 (T : TypeId) (m : UInt32) (kd : IntKind) (n : Nat) (h : n < 32) : binOp .shl T (u32 m) (.int kd (n : Int)) = pure (u32 (m <<< UInt32.ofNat n)) := by
  unfold u32
  show Op.shift .shl .u32 m.toNat kd n = _
  unfold Op.shift
  rw [if_neg (by omega)]
  have e : min ((n : Int).toNat) (IntKind.bits .u32) = n := by simp [IntKind.bits]; omega
  have hs : ((m <<< UInt32.ofNat n).toNat : Int) = (m.toNat * 2 ^ n : Int) % 4294967296 := by
    have h1 : (UInt32.ofNat n).toNat = n := by simp; omega
    rw [UInt32.toNat_shiftLeft, h1, Nat.mod_eq_of_lt h, Nat.shiftLeft_eq]
    rw [Int.natCast_emod, Int.natCast_mul, Int.natCast_pow]
    rfl
  simp only [e, wrap_u32, hs]
theorem bin_shr32 (T : TypeId) (m : UInt32) (kd : IntKind) (n : Nat) (h : n < 32) : binOp .shr T (u32 m) (.int kd (n : Int)) = pure (u32 (m >>> UInt32.ofNat n)) := by
  unfold u32
  show Op.shift .shr .u32 m.toNat kd n = _
  unfold Op.shift
  rw [if_neg (by omega)]
  have e : min ((n : Int).toNat) (IntKind.bits .u32) = n := by simp [IntKind.bits]; omega
  have hs : ((m >>> UInt32.ofNat n).toNat : Int) = Int.fdiv m.toNat (2 ^ n) := by
    have h1 : (UInt32.ofNat n).toNat = n := by simp; omega
    rw [UInt32.toNat_shiftRight, h1, Nat.mod_eq_of_lt h, Nat.shiftRight_eq_div_pow, Int.fdiv_eq_ediv_of_nonneg _ (Int.pow_nonneg (by omega)), Int.natCast_ediv, Int.natCast_pow]
    rfl
  show (pure (Value.int .u32 (Int.fdiv m.toNat (2 ^ (min ((n : Int).toNat) (IntKind.bits .u32))))) : Sem Value) = _
  rw [e, hs]
theorem bin_xor64 (T : TypeId) (m n : UInt64) : binOp .xor T (u64 m) (u64 n) = pure (u64 (m ^^^ n)) := by
  unfold binOp u64
  simp only [ne_eq, not_true, if_false]
  show (pure (Value.int .u64 (IntKind.wrap .u64 ((BitVec.ofInt 64 m.toNat ^^^ BitVec.ofInt 64 n.toNat).toNat : Int))) : Sem Value) = _
  rw [bv_ofInt64, bv_ofInt64, wrap_bv64]
  rfl
theorem OpV.xor64 {m n : UInt64} (hx : ev ρ x = some (u64 m)) (hy : ev ρ y = some (u64 n)) (k : φ (u64 (m ^^^ n))) : OpV P N ⟨d, .binOp .xor T x y T2, ty, ps, af, g⟩ ρ I L φ :=
  .mk k fun a w ha _ => by simp [execOp, ha.ev hx, ha.ev hy, eqGuard, bin_xor64]
theorem bin_and64 (T : TypeId) (m n : UInt64) : binOp .and T (u64 m) (u64 n) = pure (u64 (m &&& n)) := by
  unfold binOp u64
  simp only [ne_eq, not_true, if_false]
  show (pure (Value.int .u64 (IntKind.wrap .u64 ((BitVec.ofInt 64 m.toNat &&& BitVec.ofInt 64 n.toNat).toNat : Int))) : Sem Value) = _
  rw [bv_ofInt64, bv_ofInt64, wrap_bv64]
  rfl
theorem OpV.and64 {m n : UInt64} (hx : ev ρ x = some (u64 m)) (hy : ev ρ y = some (u64 n)) (k : φ (u64 (m &&& n))) : OpV P N ⟨d, .binOp .and T x y T2, ty, ps, af, g⟩ ρ I L φ :=
  .mk k fun a w ha _ => by simp [execOp, ha.ev hx, ha.ev hy, eqGuard, bin_and64]
theorem bin_or64 (T : TypeId) (m n : UInt64) : binOp .or T (u64 m) (u64 n) = pure (u64 (m ||| n)) := by
  unfold binOp u64
  simp only [ne_eq, not_true, if_false]
  show (pure (Value.int .u64 (IntKind.wrap .u64 ((BitVec.ofInt 64 m.toNat ||| BitVec.ofInt 64 n.toNat).toNat : Int))) : Sem Value) = _
  rw [bv_ofInt64, bv_ofInt64, wrap_bv64]
  rfl
theorem OpV.or64 {m n : UInt64} (hx : ev ρ x = some (u64 m)) (hy : ev ρ y = some (u64 n)) (k : φ (u64 (m ||| n))) : OpV P N ⟨d, .binOp .or T x y T2, ty, ps, af, g⟩ ρ I L φ :=
  .mk k fun a w ha _ => by simp [execOp, ha.ev hx, ha.ev hy, eqGuard, bin_or64]
theorem un_not64 (m : UInt64) : Op.unary .xor (u64 m) = pure (u64 (~~~m)) := by
  unfold Op.unary u64
  show (pure (Value.int .u64 (IntKind.wrap .u64 ((BitVec.ofInt 64 (2 ^ 64 - 1) ^^^ BitVec.ofInt 64 m.toNat).toNat : Int))) : Sem Value) = _
  rw [bv_ofInt64, wrap_bv64]
  have h : BitVec.ofInt 64 (2 ^ 64 - 1) ^^^ m.toBitVec = ~~~ m.toBitVec := by
    rw [show BitVec.ofInt 64 (2 ^ 64 - 1) = BitVec.allOnes 64 from by decide]
    exact BitVec.allOnes_xor
  rw [h]
  rfl
theorem OpV.not64 {m : UInt64} (hx : ev ρ x = some (u64 m)) (k : φ (u64 (~~~m))) : OpV P N ⟨d, .unOp .xor T x, ty, ps, af, g⟩ ρ I L φ :=
  .mk k fun a w ha _ => by simp [execOp, ha.ev hx, un_not64]
/-- << by a number less than the width. -/
theorem bin_shl64 (T : TypeId) (m : UInt64) (kd : IntKind) (n : Nat) (h : n < 64) : binOp .shl T (u64 m) (.int kd (n : Int)) = pure (u64 (m <<< UInt64.ofNat n)) := by
  unfold u64
  show Op.shift .shl .u64 m.toNat kd n = _
  unfold Op.shift
  rw [if_neg (by omega)]
  have e : min ((n : Int).toNat) (IntKind.bits .u64) = n := by simp [IntKind.bits]; omega
  have hs : ((m <<< UInt64.ofNat n).toNat : Int) = (m.toNat * 2 ^ n : Int) % 18446744073709551616 := by
    have h1 : (UInt64.ofNat n).toNat = n := by simp; omega
    rw [UInt64.toNat_shiftLeft, h1, Nat.mod_eq_of_lt h, Nat.shiftLeft_eq]
    rw [Int.natCast_emod, Int.natCast_mul, Int.natCast_pow]
    rfl
  simp only [e, wrap_u64, hs]
theorem bin_shr64 (T : TypeId) (m : UInt64) (kd : IntKind) (n : Nat) (h : n < 64) : binOp .shr T (u64 m) (.int kd (n : Int)) = pure (u64 (m >>> UInt64.ofNat n)) := by
  unfold u64
  show Op.shift .shr .u64 m.toNat kd n = _
  unfold Op.shift
  rw [if_neg (by omega)]
  have e : min ((n : Int).toNat) (IntKind.bits .u64) = n := by simp [IntKind.bits]; omega
  have hs : ((m >>> UInt64.ofNat n).toNat : Int) = Int.fdiv m.toNat (2 ^ n) := by
    have h1 : (UInt64.ofNat n).toNat = n := by simp; omega
    rw [UInt64.toNat_shiftRight, h1, Nat.mod_eq_of_lt h, Nat.shiftRight_eq_div_pow, Int.fdiv_eq_ediv_of_nonneg _ (Int.pow_nonneg (by omega)), Int.natCast_ediv, Int.natCast_pow]
    rfl
  show (pure (Value.int .u64 (Int.fdiv m.toNat (2 ^ (min ((n : Int).toNat) (IntKind.bits .u64))))) : Sem Value) = _
  rw [e, hs]
end
end Go.Fl
