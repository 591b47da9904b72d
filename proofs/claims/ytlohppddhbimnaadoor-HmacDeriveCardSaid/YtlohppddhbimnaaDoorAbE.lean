import Derived.Test.YtlohppddhbimnaaDoorAbD
/- Rules per operation over typed values. -/
set_option linter.unusedVariables false
namespace Go.Ab
open Go.Fl Go.RowKit
open Rep (rep)
variable {P : Program} {C : Ctx} {N : Nat} {σ : AEnv} {H : AHeap} {K : AV → Prop} {d : Option Nat} {ty : TypeId} {ps : String} {af : Array Edge} {g : Option (Nat × Bool)}
variable {x y z : Operand} {T T2 E S D : TypeId}
theorem OpP.vk {o : Oper} {r : AV} (k : K r) (h : ∀ ρ I L, RSt C I L σ H ρ → OpV P N o ρ I L (fun v => RepV I r v)) : OpP P N C o σ H K := .ofV r h k
theorem OpP.move {a : AV} (hx : EvA C σ H x a) (k : K a) : OpP P N C ⟨d, .move x, ty, ps, af, g⟩ σ H K :=
  .ofV a (fun ρ I L hs => by obtain ⟨u, h1, h2⟩ := hx ρ I L hs; exact .move h1 h2) k
theorem OpP.assign {a : AV} (hx : EvA C σ H x a) (k : K a) : OpP P N C ⟨d, .assign x, ty, ps, af, g⟩ σ H K :=
  .ofV a (fun ρ I L hs => by obtain ⟨u, h1, h2⟩ := hx ρ I L hs; exact .assign h1 h2) k
theorem OpP.pick {α : Type} {r : Rep α} {b : Bool} {u v : α} (hc : EvA C σ H x (.v b)) (hy : b = true → EvA C σ H y (.v u)) (hz : b = false → EvA C σ H z (.v v)) (k : K (.v (if b then u else v))) :
    OpP P N C ⟨d, .pick x y z, ty, ps, af, g⟩ σ H K :=
  .ofV (.v (if b then u else v)) (fun ρ I L hs => by
    cases b with
    | true => obtain ⟨w, h1, h2⟩ := hy rfl ρ I L hs; exact .pickT (hc.bool hs) h1 h2
    | false => obtain ⟨w, h1, h2⟩ := hz rfl ρ I L hs; exact .pickF (hc.bool hs) h1 h2) k
/-- a && b : pick a b false. -/
theorem OpP.pickAnd {b v : Bool} (hc : EvA C σ H x (.v b)) (hy : b = true → EvA C σ H y (.v v)) (k : K (.v (b && v))) : OpP P N C ⟨d, .pick x y (.const (.bool false)), ty, ps, af, g⟩ σ H K :=
  .ofV (.v (b && v)) (fun ρ I L hs => by
    cases b with
    | true => obtain ⟨w, h1, h2⟩ := hy rfl ρ I L hs; exact .pickT (hc.bool hs) h1 (by simpa using h2)
    | false => exact .pickF (v := .bool false) (hc.bool hs) rfl ⟨_, rfl, rfl⟩) k
/-- a || b : pick a true b. -/
theorem OpP.pickOr {b v : Bool} (hc : EvA C σ H x (.v b)) (hz : b = false → EvA C σ H z (.v v)) (k : K (.v (b || v))) : OpP P N C ⟨d, .pick x (.const (.bool true)) z, ty, ps, af, g⟩ σ H K :=
  .ofV (.v (b || v)) (fun ρ I L hs => by
    cases b with
    | true => exact .pickT (v := .bool true) (hc.bool hs) rfl ⟨_, rfl, rfl⟩
    | false => obtain ⟨w, h1, h2⟩ := hz rfl ρ I L hs; exact .pickF (hc.bool hs) h1 (by simpa using h2)) k
theorem OpP.pickT {a : AV} (hc : EvA C σ H x (.v true)) (hy : EvA C σ H y a) (k : K a) : OpP P N C ⟨d, .pick x y z, ty, ps, af, g⟩ σ H K :=
  .ofV a (fun ρ I L hs => by obtain ⟨w, h1, h2⟩ := hy ρ I L hs; exact .pickT (hc.bool hs) h1 h2) k
theorem OpP.pickF {a : AV} (hc : EvA C σ H x (.v false)) (hz : EvA C σ H z a) (k : K a) : OpP P N C ⟨d, .pick x y z, ty, ps, af, g⟩ σ H K :=
  .ofV a (fun ρ I L hs => by obtain ⟨w, h1, h2⟩ := hz ρ I L hs; exact .pickF (hc.bool hs) h1 h2) k
theorem OpP.ext2_0 {a b : AV} (hx : EvA C σ H x (.t2 a b)) (k : K a) : OpP P N C ⟨d, .extract x 0, ty, ps, af, g⟩ σ H K :=
  .ofV a (fun ρ I L hs => by obtain ⟨u, h1, v, w, rfl, h3, h4⟩ := hx ρ I L hs; exact .extract h1 rfl h3) k
theorem OpP.ext2_1 {a b : AV} (hx : EvA C σ H x (.t2 a b)) (k : K b) : OpP P N C ⟨d, .extract x 1, ty, ps, af, g⟩ σ H K :=
  .ofV b (fun ρ I L hs => by obtain ⟨u, h1, v, w, rfl, h3, h4⟩ := hx ρ I L hs; exact .extract h1 rfl h4) k
theorem OpP.ext3_0 {a b c : AV} (hx : EvA C σ H x (.t3 a b c)) (k : K a) : OpP P N C ⟨d, .extract x 0, ty, ps, af, g⟩ σ H K :=
  .ofV a (fun ρ I L hs => by obtain ⟨u, h1, v, w, t, rfl, h3, h4, h5⟩ := hx ρ I L hs; exact .extract h1 rfl h3) k
theorem OpP.ext3_1 {a b c : AV} (hx : EvA C σ H x (.t3 a b c)) (k : K b) : OpP P N C ⟨d, .extract x 1, ty, ps, af, g⟩ σ H K :=
  .ofV b (fun ρ I L hs => by obtain ⟨u, h1, v, w, t, rfl, h3, h4, h5⟩ := hx ρ I L hs; exact .extract h1 rfl h4) k
theorem OpP.ext3_2 {a b c : AV} (hx : EvA C σ H x (.t3 a b c)) (k : K c) : OpP P N C ⟨d, .extract x 2, ty, ps, af, g⟩ σ H K :=
  .ofV c (fun ρ I L hs => by obtain ⟨u, h1, v, w, t, rfl, h3, h4, h5⟩ := hx ρ I L hs; exact .extract h1 rfl h5) k
section int
variable {m n : Int} (hx : EvA C σ H x (.v m)) (hy : EvA C σ H y (.v n))
include hx hy
theorem OpP.add (h1 : -9223372036854775808 ≤ m + n) (h2 : m + n ≤ 9223372036854775807) (k : K (.v (m + n))) : OpP P N C ⟨d, .binOp .add T x y T2, ty, ps, af, g⟩ σ H K :=
  .vk k (fun ρ I L hs => .add (hx.int hs).1 (hy.int hs).1 h1 h2 ⟨_, ⟨rfl, h1, h2⟩, rfl⟩)
theorem OpP.sub (h1 : -9223372036854775808 ≤ m - n) (h2 : m - n ≤ 9223372036854775807) (k : K (.v (m - n))) : OpP P N C ⟨d, .binOp .sub T x y T2, ty, ps, af, g⟩ σ H K :=
  .vk k (fun ρ I L hs => .sub (hx.int hs).1 (hy.int hs).1 h1 h2 ⟨_, ⟨rfl, h1, h2⟩, rfl⟩)
theorem OpP.mul (h1 : -9223372036854775808 ≤ m * n) (h2 : m * n ≤ 9223372036854775807) (k : K (.v (m * n))) : OpP P N C ⟨d, .binOp .mul T x y T2, ty, ps, af, g⟩ σ H K :=
  .vk k (fun ρ I L hs => .mul (hx.int hs).1 (hy.int hs).1 h1 h2 ⟨_, ⟨rfl, h1, h2⟩, rfl⟩)
theorem OpP.quo (h0 : 0 ≤ m) (h2 : 0 < n) (k : K (.v (m / n))) : OpP P N C ⟨d, .binOp .quo T x y T2, ty, ps, af, g⟩ σ H K :=
  .vk k (fun ρ I L hs => .quo (hx.int hs).1 (hy.int hs).1 h0 (hx.int hs).2.2 h2 ⟨_, ⟨rfl, by have := Int.ediv_nonneg h0 (Int.le_of_lt h2); omega, by have := Int.ediv_le_self n h0; have := (hx.int hs).2.2; omega⟩, rfl⟩)
theorem OpP.rem (h0 : 0 ≤ m) (h2 : 0 < n) (k : K (.v (m % n))) : OpP P N C ⟨d, .binOp .rem T x y T2, ty, ps, af, g⟩ σ H K :=
  .vk k (fun ρ I L hs => .rem (hx.int hs).1 (hy.int hs).1 h0 h2 ⟨_, ⟨rfl, by have := Int.emod_nonneg m (show n ≠ 0 by omega); omega, by have := Int.emod_lt_of_pos m h2; have := (hy.int hs).2.2; omega⟩, rfl⟩)
theorem OpP.tmod (hn : n ≠ 0) (k : K (.v (m.tmod n))) : OpP P N C ⟨d, .binOp .rem T x y T2, ty, ps, af, g⟩ σ H K :=
  .vk k (fun ρ I L hs => .tmod (hx.int hs).1 (hy.int hs).1 hn ⟨_, ⟨rfl, by
      have h1 := (hx.int hs).2
      have h3 : (m.tmod n).natAbs ≤ m.natAbs := by rw [Int.natAbs_tmod]; exact Nat.mod_le _ _
      by_cases hm : 0 ≤ m
      · have := Int.tmod_nonneg n hm; omega
      · omega, by
      have h1 := (hx.int hs).2
      have h3 : (m.tmod n).natAbs ≤ m.natAbs := by rw [Int.natAbs_tmod]; exact Nat.mod_le _ _
      by_cases hm : 0 ≤ m
      · omega
      · have e : m.tmod n = -((-m).tmod n) := by rw [Int.neg_tmod]; omega
        have := Int.tmod_nonneg n (show 0 ≤ -m by omega)
        omega⟩, rfl⟩)
theorem OpP.lss (k : K (.v (decide (m < n)))) : OpP P N C ⟨d, .binOp .lss T x y T2, ty, ps, af, g⟩ σ H K :=
  .vk k (fun ρ I L hs => .lss (hx.int hs).1 (hy.int hs).1 ⟨_, rfl, rfl⟩)
theorem OpP.leq (k : K (.v (decide (m ≤ n)))) : OpP P N C ⟨d, .binOp .leq T x y T2, ty, ps, af, g⟩ σ H K :=
  .vk k (fun ρ I L hs => .leq (hx.int hs).1 (hy.int hs).1 ⟨_, rfl, rfl⟩)
theorem OpP.gtr (k : K (.v (decide (n < m)))) : OpP P N C ⟨d, .binOp .gtr T x y T2, ty, ps, af, g⟩ σ H K :=
  .vk k (fun ρ I L hs => .gtr (hx.int hs).1 (hy.int hs).1 ⟨_, rfl, rfl⟩)
theorem OpP.geq (k : K (.v (decide (n ≤ m)))) : OpP P N C ⟨d, .binOp .geq T x y T2, ty, ps, af, g⟩ σ H K :=
  .vk k (fun ρ I L hs => .geq (hx.int hs).1 (hy.int hs).1 ⟨_, rfl, rfl⟩)
theorem OpP.eqlI (k : K (.v (decide (m = n)))) : OpP P N C ⟨d, .binOp .eql T x y T2, ty, ps, af, g⟩ σ H K :=
  .vk k (fun ρ I L hs => .eqlI (hx.int hs).1 (hy.int hs).1 ⟨_, rfl, rfl⟩)
theorem OpP.neqI (k : K (.v (decide (m ≠ n)))) : OpP P N C ⟨d, .binOp .neq T x y T2, ty, ps, af, g⟩ σ H K :=
  .vk k (fun ρ I L hs => .neqI (hx.int hs).1 (hy.int hs).1 ⟨_, rfl, rfl⟩)
theorem OpP.minI {ts : Array TypeId} (k : K (.v (min m n))) : OpP P N C ⟨d, .call ⟨.builtin .min, #[x, y], ts⟩, ty, ps, af, g⟩ σ H K :=
  .vk k (fun ρ I L hs => .minI (hx.int hs).1 (hy.int hs).1 ⟨_, ⟨rfl, by have := (hx.int hs).2; have := (hy.int hs).2; omega, by have := (hx.int hs).2; omega⟩, rfl⟩)
theorem OpP.maxI {ts : Array TypeId} (k : K (.v (max m n))) : OpP P N C ⟨d, .call ⟨.builtin .max, #[x, y], ts⟩, ty, ps, af, g⟩ σ H K :=
  .vk k (fun ρ I L hs => .maxI (hx.int hs).1 (hy.int hs).1 ⟨_, ⟨rfl, by have := (hx.int hs).2; omega, by have := (hx.int hs).2; have := (hy.int hs).2; omega⟩, rfl⟩)
end int
theorem OpP.neg {m : Int} (hx : EvA C σ H x (.v m)) (h1 : -9223372036854775807 ≤ m) (k : K (.v (-m))) : OpP P N C ⟨d, .unOp .neg T x, ty, ps, af, g⟩ σ H K :=
  .vk k (fun ρ I L hs => .neg (hx.int hs).1 ⟨h1, (hx.int hs).2.2⟩ ⟨_, ⟨rfl, by have := (hx.int hs).2; omega, by omega⟩, rfl⟩)
theorem OpP.not {b : Bool} (hx : EvA C σ H x (.v b)) (k : K (.v (!b))) : OpP P N C ⟨d, .unOp .not T x, ty, ps, af, g⟩ σ H K :=
  .vk k (fun ρ I L hs => .not (hx.bool hs) ⟨_, rfl, rfl⟩)
theorem dec_lt8 (m n : UInt8) : decide ((m.toNat : Int) < n.toNat) = decide (m < n) := by simp [UInt8.lt_iff_toNat_lt]
theorem dec_le8 (m n : UInt8) : decide ((m.toNat : Int) ≤ n.toNat) = decide (m ≤ n) := by simp [UInt8.le_iff_toNat_le]
theorem dec_eq8 (m n : UInt8) : decide ((m.toNat : Int) = n.toNat) = decide (m = n) := by rw [decide_eq_decide, Int.ofNat_inj, UInt8.toNat_inj]
theorem dec_eq16 (m n : UInt16) : decide ((m.toNat : Int) = n.toNat) = decide (m = n) := by rw [decide_eq_decide, Int.ofNat_inj, UInt16.toNat_inj]
theorem dec_eq32 (m n : UInt32) : decide ((m.toNat : Int) = n.toNat) = decide (m = n) := by rw [decide_eq_decide, Int.ofNat_inj, UInt32.toNat_inj]
theorem dec_eq64 (m n : UInt64) : decide ((m.toNat : Int) = n.toNat) = decide (m = n) := by rw [decide_eq_decide, Int.ofNat_inj, UInt64.toNat_inj]
theorem dec_lt64 (m n : UInt64) : decide ((m.toNat : Int) < n.toNat) = decide (m < n) := by simp [UInt64.lt_iff_toNat_lt]
section by8
variable {m n : UInt8} (hx : EvA C σ H x (.v m)) (hy : EvA C σ H y (.v n))
include hx hy
theorem OpP.lss8 (k : K (.v (decide (m < n)))) : OpP P N C ⟨d, .binOp .lss T x y T2, ty, ps, af, g⟩ σ H K :=
  .vk k (fun ρ I L hs => .lss (hx.by8 hs) (hy.by8 hs) ⟨_, rfl, by rw [dec_lt8]; rfl⟩)
theorem OpP.leq8 (k : K (.v (decide (m ≤ n)))) : OpP P N C ⟨d, .binOp .leq T x y T2, ty, ps, af, g⟩ σ H K :=
  .vk k (fun ρ I L hs => .leq (hx.by8 hs) (hy.by8 hs) ⟨_, rfl, by rw [dec_le8]; rfl⟩)
theorem OpP.gtr8 (k : K (.v (decide (n < m)))) : OpP P N C ⟨d, .binOp .gtr T x y T2, ty, ps, af, g⟩ σ H K :=
  .vk k (fun ρ I L hs => .gtr (hx.by8 hs) (hy.by8 hs) ⟨_, rfl, by rw [dec_lt8]; rfl⟩)
theorem OpP.geq8 (k : K (.v (decide (n ≤ m)))) : OpP P N C ⟨d, .binOp .geq T x y T2, ty, ps, af, g⟩ σ H K :=
  .vk k (fun ρ I L hs => .geq (hx.by8 hs) (hy.by8 hs) ⟨_, rfl, by rw [dec_le8]; rfl⟩)
theorem OpP.eql8 (k : K (.v (decide (m = n)))) : OpP P N C ⟨d, .binOp .eql T x y T2, ty, ps, af, g⟩ σ H K :=
  .vk k (fun ρ I L hs => .eqlI (hx.by8 hs) (hy.by8 hs) ⟨_, rfl, by rw [dec_eq8]; rfl⟩)
theorem OpP.neq8 (k : K (.v (decide (m ≠ n)))) : OpP P N C ⟨d, .binOp .neq T x y T2, ty, ps, af, g⟩ σ H K :=
  .vk k (fun ρ I L hs => .neqI (hx.by8 hs) (hy.by8 hs) ⟨_, rfl, by simp only [ne_eq, decide_not, dec_eq8]; rfl⟩)
theorem OpP.xor8 (k : K (.v (m ^^^ n))) : OpP P N C ⟨d, .binOp .xor T x y T2, ty, ps, af, g⟩ σ H K :=
  .vk k (fun ρ I L hs => .xor8 (hx.by8 hs) (hy.by8 hs) ⟨_, rfl, rfl⟩)
theorem OpP.or8 (k : K (.v (m ||| n))) : OpP P N C ⟨d, .binOp .or T x y T2, ty, ps, af, g⟩ σ H K :=
  .vk k (fun ρ I L hs => .or8 (hx.by8 hs) (hy.by8 hs) ⟨_, rfl, rfl⟩)
theorem OpP.and8 (k : K (.v (m &&& n))) : OpP P N C ⟨d, .binOp .and T x y T2, ty, ps, af, g⟩ σ H K :=
  .vk k (fun ρ I L hs => .and8 (hx.by8 hs) (hy.by8 hs) ⟨_, rfl, rfl⟩)
theorem OpP.add8 (k : K (.v (m + n))) : OpP P N C ⟨d, .binOp .add T x y T2, ty, ps, af, g⟩ σ H K :=
  .vk k (fun ρ I L hs => .add8 (hx.by8 hs) (hy.by8 hs) ⟨_, rfl, rfl⟩)
end by8
section by64
variable {m n : UInt64} (hx : EvA C σ H x (.v m)) (hy : EvA C σ H y (.v n))
include hx hy
theorem OpP.eql64 (k : K (.v (decide (m = n)))) : OpP P N C ⟨d, .binOp .eql T x y T2, ty, ps, af, g⟩ σ H K :=
  .vk k (fun ρ I L hs => .eqlI (hx.by64 hs) (hy.by64 hs) ⟨_, rfl, by rw [dec_eq64]; rfl⟩)
theorem OpP.neq64 (k : K (.v (decide (m ≠ n)))) : OpP P N C ⟨d, .binOp .neq T x y T2, ty, ps, af, g⟩ σ H K :=
  .vk k (fun ρ I L hs => .neqI (hx.by64 hs) (hy.by64 hs) ⟨_, rfl, by simp only [ne_eq, decide_not, dec_eq64]; rfl⟩)
theorem OpP.xor64 (k : K (.v (m ^^^ n))) : OpP P N C ⟨d, .binOp .xor T x y T2, ty, ps, af, g⟩ σ H K :=
  .vk k (fun ρ I L hs => .xor64 (hx.by64 hs) (hy.by64 hs) ⟨_, rfl, rfl⟩)
theorem OpP.or64 (k : K (.v (m ||| n))) : OpP P N C ⟨d, .binOp .or T x y T2, ty, ps, af, g⟩ σ H K :=
  .vk k (fun ρ I L hs => .or64 (hx.by64 hs) (hy.by64 hs) ⟨_, rfl, rfl⟩)
theorem OpP.and64 (k : K (.v (m &&& n))) : OpP P N C ⟨d, .binOp .and T x y T2, ty, ps, af, g⟩ σ H K :=
  .vk k (fun ρ I L hs => .and64 (hx.by64 hs) (hy.by64 hs) ⟨_, rfl, rfl⟩)
theorem OpP.add64 (k : K (.v (m + n))) : OpP P N C ⟨d, .binOp .add T x y T2, ty, ps, af, g⟩ σ H K :=
  .vk k (fun ρ I L hs => .add64 (hx.by64 hs) (hy.by64 hs) ⟨_, rfl, rfl⟩)
theorem OpP.sub64 (k : K (.v (m - n))) : OpP P N C ⟨d, .binOp .sub T x y T2, ty, ps, af, g⟩ σ H K :=
  .vk k (fun ρ I L hs => .sub64 (hx.by64 hs) (hy.by64 hs) ⟨_, rfl, rfl⟩)
end by64
section conv
variable {ds : TypeDesc}
theorem OpP.convI {n : Int} (hS : P.underlying S = some ds) (hD : P.underlying D = some (.int .i64)) (hx : EvA C σ H x (.v n)) (k : K (.v n)) : OpP P N C ⟨d, .convert S D x, ty, ps, af, g⟩ σ H K :=
  .vk k (fun ρ I L hs => .convI hS hD (hx.int hs).1 (hx.int hs).2.1 (hx.int hs).2.2 ⟨_, ⟨rfl, (hx.int hs).2⟩, rfl⟩)
theorem OpP.convI8 {n : UInt8} (hS : P.underlying S = some ds) (hD : P.underlying D = some (.int .i64)) (hx : EvA C σ H x (.v n)) (k : K (.v (n.toNat : Int))) : OpP P N C ⟨d, .convert S D x, ty, ps, af, g⟩ σ H K :=
  .vk k (fun ρ I L hs => .convI hS hD (hx.by8 hs) (by have := n.toNat_lt; omega) (by have := n.toNat_lt; omega) ⟨_, ⟨rfl, by have := n.toNat_lt; omega, by have := n.toNat_lt; omega⟩, rfl⟩)
theorem OpP.convI16 {n : UInt16} (hS : P.underlying S = some ds) (hD : P.underlying D = some (.int .i64)) (hx : EvA C σ H x (.v n)) (k : K (.v (n.toNat : Int))) : OpP P N C ⟨d, .convert S D x, ty, ps, af, g⟩ σ H K :=
  .vk k (fun ρ I L hs => .convI hS hD (hx.by16 hs) (by have := n.toNat_lt; omega) (by have := n.toNat_lt; omega) ⟨_, ⟨rfl, by have := n.toNat_lt; omega, by have := n.toNat_lt; omega⟩, rfl⟩)
theorem OpP.conv8 {n : Int} (hS : P.underlying S = some ds) (hD : P.underlying D = some (.int .u8)) (hx : EvA C σ H x (.v n)) (k : K (.v (UInt8.ofInt n))) : OpP P N C ⟨d, .convert S D x, ty, ps, af, g⟩ σ H K :=
  .vk k (fun ρ I L hs => .conv8 hS hD (hx.int hs).1 ⟨_, rfl, rfl⟩)
theorem OpP.conv64 {n : Int} (hS : P.underlying S = some ds) (hD : P.underlying D = some (.int .u64)) (hx : EvA C σ H x (.v n)) (k : K (.v (UInt64.ofInt n))) : OpP P N C ⟨d, .convert S D x, ty, ps, af, g⟩ σ H K :=
  .vk k (fun ρ I L hs => .conv64 hS hD (hx.int hs).1 ⟨_, rfl, rfl⟩)
end conv
/-! ### Slices, arrays, structures -/
theorem OpP.len {α : Type} {r : Rep α} {l : List α} (hT : P.underlying T = some (.slice E)) (hx : EvA C σ H x (.v l)) (k : K (.v (l.length : Int))) : OpP P N C ⟨d, .call ⟨.builtin .len, #[x], #[T]⟩, ty, ps, af, g⟩ σ H K :=
  .vk k (fun ρ I L hs => by
    obtain ⟨u, h1, xs, ⟨a, c, rfl, _, h3, h4, _⟩, _⟩ := hx.sl hs
    exact .len hT h1 ⟨_, ⟨rfl, by omega, by unfold maxLen at h4; omega⟩, rfl⟩)
theorem OpP.lenOwn {α : Type} {r : Rep α} {t : Nat} {w : Value} {l : List α} {b : Bool} {F : Bool × Blk → AHeap} (hT : P.underlying T = some (.slice E)) (hx : lookA σ t = some (.raw w)) {E' : TypeId} (hH : Hole H (b, .own E' w l) F) (k : K (.v (l.length : Int))) :
    OpP P N C ⟨d, .call ⟨.builtin .len, #[.tmp t], #[T]⟩, ty, ps, af, g⟩ σ H K :=
  .vk k (fun ρ I L hs => by
    obtain ⟨u, h1, rfl⟩ := hs.env t _ hx
    obtain ⟨i, X, h2, h3, _⟩ := hH.get hs.heap
    obtain ⟨xs, ho, _⟩ := h3.1
    have hle := ho.le
    obtain ⟨a, c, rfl⟩ := ho.shape
    exact .len hT h1 ⟨_, ⟨rfl, by omega, by omega⟩, rfl⟩)
theorem OpP.lenS {s : Str} (hT : P.underlying T = some .string) (hx : EvA C σ H x (.v s)) (k : K (.v (s.l.length : Int))) : OpP P N C ⟨d, .call ⟨.builtin .len, #[x], #[T]⟩, ty, ps, af, g⟩ σ H K :=
  .vk k (fun ρ I L hs => by
    obtain ⟨b, h1, h2⟩ := hx.str hs
    have hb := hx.strLe hs
    have e : (b.size : Int) = (s.l.length : Int) := by rw [← h2]; rfl
    exact .lenS hT h1 ⟨_, ⟨congrArg (fun q => [i64 q]) e, by omega, by omega⟩, rfl⟩)
theorem segGet_get {xs : List Value} {k s i : Nat} {v : Value} (h : (segGet xs k s)[i]? = some v) : xs[k + i]? = some v := by
  simp only [segGet, List.getElem?_take, List.getElem?_drop] at h
  split at h
  · exact h
  · cases h
/-- The address of an element of a slice that does not turn. -/
theorem OpP.idx {α : Type} {r : Rep α} {i : Inhabited α} {l : List α} {n : Int} (tE : TyIs P E α) (hT : P.underlying T = some (.slice E)) (hx : EvA C σ H x (.v l)) (hy : EvA C σ H y (.v n)) (h0 : 0 ≤ n) (h1 : n < l.length)
    (k : K (.p (l[n.toNat]'(by omega)))) : OpP P N C ⟨d, .indexAddr T x y, ty, ps, af, g⟩ σ H K :=
  .vk k (fun ρ I L hs => by
    obtain ⟨u, hu, xs, hsl, hl⟩ := hx.sl hs
    have hk : n.toNat < l.length := by omega
    have hg := hl.get n.toNat hk
    obtain ⟨a, c, rfl, hlen, h3, h4, h5, h6⟩ := hsl
    have hz : xs ≠ [] := by
      intro hz
      have := hl.len
      rw [hz] at this
      simp only [List.length_nil] at this
      rcases Nat.mul_eq_zero.1 this.symm with h | h
      · omega
      · exact tE.pos h
    obtain ⟨b, o, rfl, hc⟩ := h6 hz
    exact .indexAddrS hT tE.size hu (hy.int hs).1 h0 h1 ⟨b, _, _, rfl, hg, hc.sub (n.toNat * Rep.size α) (fun i v hv => segGet_get hv)⟩)
theorem shrI_run (T : TypeId) (m : Int) (kd : IntKind) (n : Nat) (h : n < 64) : binOp .shr T (i64 m) (.int kd (n : Int)) = pure (i64 (m >>> n)) := by
  show Op.shift .shr .i64 m kd n = _
  unfold Op.shift
  rw [if_neg (by omega)]
  have e : min ((n : Int).toNat) (IntKind.bits .i64) = n := by simp [IntKind.bits]; omega
  show (pure (Value.int .i64 (Int.fdiv m (2 ^ (min ((n : Int).toNat) (IntKind.bits .i64))))) : Sem Value) = _
  rw [e, Int.shiftRight_eq_div_pow, Int.fdiv_eq_ediv_of_nonneg _ (Int.pow_nonneg (by omega))]
  rfl
theorem OpP.shrI {m n : Int} (hx : EvA C σ H x (.v m)) (hy : EvA C σ H y (.v n)) (h0 : 0 ≤ n) (h1 : n < 64) (k : K (.v (m >>> n.toNat))) : OpP P N C ⟨d, .binOp .shr T x y T2, ty, ps, af, g⟩ σ H K :=
  .vk k (fun ρ I L hs => by
    obtain ⟨j, rfl⟩ := Int.eq_ofNat_of_zero_le h0
    have hm := (hx.int hs).2
    refine .mk ⟨_, ⟨rfl, ?_, ?_⟩, rfl⟩ fun a w ha hm => by
      simp [execOp, ha.ev (hx.int hs).1, ha.ev (hy.int hs).1, eqGuard, shrI_run T m _ j (by omega), asV, Rep.agg]
    · rw [Int.toNat_natCast, Int.shiftRight_eq_div_pow]
      rcases Int.le_total 0 m with h | h
      · have := Int.ediv_nonneg h (Int.natCast_nonneg (2 ^ j)); omega
      · have h2 : (1 : Int) ≤ ((2 ^ j : Nat) : Int) := Int.natCast_pos.2 (Nat.two_pow_pos j)
        have := Int.le_ediv_of_mul_le (a := m) (b := m) (c := ((2 ^ j : Nat) : Int)) (by omega) (by have := Int.mul_le_mul_of_nonpos_left h h2; omega)
        omega
    · rw [Int.toNat_natCast, Int.shiftRight_eq_div_pow]
      rcases Int.le_total 0 m with h | h
      · have := Int.ediv_le_self ((2 ^ j : Nat) : Int) h; omega
      · have h2 : (0 : Int) < ((2 ^ j : Nat) : Int) := Int.natCast_pos.2 (Nat.two_pow_pos j)
        have := Int.ediv_lt_of_lt_mul (a := m) (b := 1) h2 (by omega); omega)
end Go.Ab
