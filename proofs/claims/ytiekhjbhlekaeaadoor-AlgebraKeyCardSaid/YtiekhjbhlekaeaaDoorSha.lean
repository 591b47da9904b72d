/- SHA-256 on lists: plain Lean, no program in sight. -/
import Derived.Test.YtiekhjbhlekaeaaDoorFl
set_option maxRecDepth 1000000
namespace Go.Sha
open Go.Fl
def rotr (x : UInt32) (n : Nat) : UInt32 := x >>> UInt32.ofNat n ||| x <<< UInt32.ofNat (32 - n)
def s0 (x : UInt32) : UInt32 := rotr x 7 ^^^ rotr x 18 ^^^ x >>> UInt32.ofNat 3
def s1 (x : UInt32) : UInt32 := rotr x 17 ^^^ rotr x 19 ^^^ x >>> UInt32.ofNat 10
def beW (l : List UInt8) (t : Nat) : UInt32 :=
  (l.getD (4 * t) 0).toUInt32 <<< UInt32.ofNat 24 ||| (l.getD (4 * t + 1) 0).toUInt32 <<< UInt32.ofNat 16 ||| (l.getD (4 * t + 2) 0).toUInt32 <<< UInt32.ofNat 8 ||| (l.getD (4 * t + 3) 0).toUInt32
def next (l : List UInt8) (w : List UInt32) (t : Nat) : UInt32 :=
  if t < 16 then beW l t else s1 (w.getD (t - 2) 0) + w.getD (t - 7) 0 + s0 (w.getD (t - 15) 0) + w.getD (t - 16) 0
def wl (l : List UInt8) : Nat → List UInt32
  | 0 => []
  | t + 1 => wl l t ++ [next l (wl l t) t]
theorem wl_length (l : List UInt8) : ∀ t, (wl l t).length = t
  | 0 => rfl
  | t + 1 => by simp [wl, wl_length l t]
/-- The block of 64 words behind t rounds. -/
def wcells (l : List UInt8) (t : Nat) : List Value := (wl l t ++ List.replicate (64 - t) 0).map u32
theorem wcells_length (l : List UInt8) (t : Nat) (h : t ≤ 64) : (wcells l t).length = 64 := by simp [wcells, wl_length]; omega
theorem wcells_zero (l : List UInt8) : wcells l 0 = List.replicate 64 (u32 0) := by simp [wcells, wl]
theorem wcells_all (l : List UInt8) : wcells l 64 = (wl l 64).map u32 := by simp [wcells]
theorem wcells_get (l : List UInt8) (t i j : Nat) (hj : j = i) (h : i < t) : (wcells l t)[j]? = some (u32 ((wl l t).getD i 0)) := by
  subst hj
  have hl := wl_length l t
  simp only [wcells, List.map_append]
  rw [List.getElem?_append_left (by simp; omega), List.getElem?_map]
  simp [List.getD, List.getElem?_eq_getElem (show j < (wl l t).length by omega)]
theorem wcells_set (l : List UInt8) (t j : Nat) (hj : j = t) (h : t < 64) : segSet (wcells l t) j [u32 (next l (wl l t) t)] = wcells l (t + 1) := by
  subst hj
  have hl := wl_length l j
  rw [segSet_one _ _ _ (by rw [wcells_length l j (by omega)]; exact h)]
  simp only [wcells, wl, List.map_append]
  rw [List.set_append_right _ _ (by simp; omega)]
  have : 64 - j = (64 - (j + 1)) + 1 := by omega
  rw [this, List.replicate_succ]
  simp [hl]
theorem getB (l : List UInt8) (i j : Nat) (hj : j = i) (h : i < l.length) : (bytesV l)[j]? = some (u8 (l.getD i 0)) := by
  subst hj
  simp [bytesV, List.getD, h]
/-- The eight words of a chaining value. -/
structure H8 where
  (a b c d e f g h : UInt32)
def H8.l (x : H8) : List UInt32 := [x.a, x.b, x.c, x.d, x.e, x.f, x.g, x.h]
def H8.cells (x : H8) : List Value := [u32 x.a, u32 x.b, u32 x.c, u32 x.d, u32 x.e, u32 x.f, u32 x.g, u32 x.h]
def H8.v (x : H8) : Value := .agg x.cells.toArray
def H8.at (x : H8) (i : Nat) : UInt32 := x.l.getD i 0
def kk : List UInt32 := [0x428a2f98, 0x71374491, 0xb5c0fbcf, 0xe9b5dba5, 0x3956c25b, 0x59f111f1, 0x923f82a4, 0xab1c5ed5, 0xd807aa98, 0x12835b01, 0x243185be, 0x550c7dc3, 0x72be5d74, 0x80deb1fe, 0x9bdc06a7, 0xc19bf174, 0xe49b69c1, 0xefbe4786, 0x0fc19dc6, 0x240ca1cc, 0x2de92c6f, 0x4a7484aa, 0x5cb0a9dc, 0x76f988da, 0x983e5152, 0xa831c66d, 0xb00327c8, 0xbf597fc7, 0xc6e00bf3, 0xd5a79147, 0x06ca6351, 0x14292967, 0x27b70a85, 0x2e1b2138, 0x4d2c6dfc, 0x53380d13, 0x650a7354, 0x766a0abb, 0x81c2c92e, 0x92722c85, 0xa2bfe8a1, 0xa81a664b, 0xc24b8b70, 0xc76c51a3, 0xd192e819, 0xd6990624, 0xf40e3585, 0x106aa070, 0x19a4c116, 0x1e376c08, 0x2748774c, 0x34b0bcb5, 0x391c0cb3, 0x4ed8aa4a, 0x5b9cca4f, 0x682e6ff3, 0x748f82ee, 0x78a5636f, 0x84c87814, 0x8cc70208, 0x90befffa, 0xa4506ceb, 0xbef9a3f7, 0xc67178f2]
def tOne (x : H8) (k w : UInt32) : UInt32 := x.h + ((rotr x.e 6 ^^^ rotr x.e 11) ^^^ rotr x.e 25) + ((x.e &&& x.f) ^^^ (~~~x.e &&& x.g)) + k + w
def tTwo (x : H8) : UInt32 := ((rotr x.a 2 ^^^ rotr x.a 13) ^^^ rotr x.a 22) + (((x.a &&& x.b) ^^^ (x.a &&& x.c)) ^^^ (x.b &&& x.c))
def rnd (x : H8) (k w : UInt32) : H8 := ⟨tOne x k w + tTwo x, x.a, x.b, x.c, x.d + tOne x k w, x.e, x.f, x.g⟩
def rounds (ws : List UInt32) (x : H8) : Nat → H8
  | 0 => x
  | t + 1 => rnd (rounds ws x t) (kk.getD t 0) (ws.getD t 0)
def H8.add (x y : H8) : H8 := ⟨x.a + y.a, x.b + y.b, x.c + y.c, x.d + y.d, x.e + y.e, x.f + y.f, x.g + y.g, x.h + y.h⟩
def compress (x : H8) (l : List UInt8) : H8 := (rounds (wl l 64) x 64).add x
/-- The first i words summed, the others as they were. -/
def H8.mix (v o : H8) (i : Nat) : List Value := ((v.add o).l.take i ++ v.l.drop i).map u32
theorem mix_get (v o : H8) (i j : Nat) (hj : j = i) (h : i < 8) : (v.mix o i)[j]? = some (u32 (v.at i)) := by
  subst hj
  match j, h with
  | 0, _ | 1, _ | 2, _ | 3, _ | 4, _ | 5, _ | 6, _ | 7, _ => rfl
theorem cells_get (o : H8) (i j : Nat) (hj : j = i) (h : i < 8) : o.cells[j]? = some (u32 (o.at i)) := by
  subst hj
  match j, h with
  | 0, _ | 1, _ | 2, _ | 3, _ | 4, _ | 5, _ | 6, _ | 7, _ => rfl
theorem mix_set (v o : H8) (i j : Nat) (hj : j = i) (h : i < 8) : segSet (v.mix o i) j [u32 (v.at i + o.at i)] = v.mix o (i + 1) := by
  subst hj
  match j, h with
  | 0, _ | 1, _ | 2, _ | 3, _ | 4, _ | 5, _ | 6, _ | 7, _ => rfl
theorem mix_length (v o : H8) (i : Nat) (h : i ≤ 8) : (v.mix o i).length = 8 := by
  simp [H8.mix, H8.l]; omega
theorem get32 (l : List UInt32) (i j : Nat) (hj : j = i) (h : i < l.length) : (l.map u32)[j]? = some (u32 (l.getD i 0)) := by
  subst hj
  simp [List.getD, h]
def iv : H8 := ⟨0x6a09e667, 0xbb67ae85, 0x3c6ef372, 0xa54ff53a, 0x510e527f, 0x9b05688c, 0x1f83d9ab, 0x5be0cd19⟩
/-- The first k blocks of l are taken in. -/
def feed (x : H8) (l : List UInt8) : Nat → H8
  | 0 => x
  | k + 1 => compress (feed x l k) ((l.drop (64 * k)).take 64)
def absorb (x : H8) (l : List UInt8) : H8 := feed x l (l.length / 64)
def rest (l : List UInt8) : List UInt8 := l.drop (64 * (l.length / 64))
def be64 (n : UInt64) (k : Nat) : List UInt8 := (List.range k).map fun j => (n >>> UInt64.ofNat (56 - 8 * j)).toUInt8
def be32 (w : UInt32) : List UInt8 := [(w >>> UInt32.ofNat 24).toUInt8, (w >>> UInt32.ofNat 16).toUInt8, (w >>> UInt32.ofNat 8).toUInt8, w.toUInt8]
def padZ (m : Nat) : Nat := (119 - m % 64) % 64
def pad (m : Nat) (n : UInt64) : List UInt8 := (128 :: List.replicate (padZ m) 0) ++ be64 n 8
def digest (x : H8) (r : List UInt8) (len : Nat) : List UInt8 := (absorb x (r ++ pad r.length (UInt64.ofInt (len : Int) * 8))).l.flatMap be32
def sha256 (l : List UInt8) : List UInt8 := digest (absorb iv l) (rest l) l.length
def outc (y : H8) (k : Nat) : List Value := bytesV ((y.l.take k).flatMap be32 ++ List.replicate (32 - 4 * k) 0)
theorem flat_length : ∀ l : List UInt32, (l.flatMap be32).length = 4 * l.length
  | [] => rfl
  | x :: r => by simp [flat_length r, be32]; omega
theorem H8.length (y : H8) : y.l.length = 8 := rfl
theorem bytesV_length (l : List UInt8) : (bytesV l).length = l.length := by simp [bytesV]
theorem flat_take (y : H8) (k : Nat) (h : k ≤ 8) : ((y.l.take k).flatMap be32).length = 4 * k := by
  rw [flat_length, List.length_take, H8.length]; omega
theorem outc_length (y : H8) (k : Nat) (h : k ≤ 8) : (outc y k).length = 32 := by
  rw [outc, bytesV_length, List.length_append, flat_take y k h, List.length_replicate]; omega
theorem at_get (y : H8) (k : Nat) (h : k < 8) : y.l[k]? = some (y.at k) := by
  have : k < y.l.length := h
  simp [H8.at, List.getD, this]
theorem segSet_snoc (A R : List Value) (z a : Value) (o : Nat) (h : o = A.length) : segSet (A ++ z :: R) o [a] = (A ++ [a]) ++ R := by
  subst h
  simp [segSet]
theorem outc_set (y : H8) (k o0 o1 o2 o3 : Nat) (h0 : o0 = 4 * k) (h1 : o1 = 4 * k + 1) (h2 : o2 = 4 * k + 2) (h3 : o3 = 4 * k + 3) (h : k < 8) :
    segSet (segSet (segSet (segSet (outc y k) o0 [u8 ((y.at k >>> UInt32.ofNat 24).toUInt8)]) o1 [u8 ((y.at k >>> UInt32.ofNat 16).toUInt8)]) o2 [u8 ((y.at k >>> UInt32.ofNat 8).toUInt8)]) o3 [u8 ((y.at k).toUInt8)] = outc y (k + 1) := by
  have hl : (bytesV ((y.l.take k).flatMap be32)).length = 4 * k := by rw [bytesV_length, flat_take y k (by omega)]
  generalize hA : bytesV ((y.l.take k).flatMap be32) = A at hl
  have e1 : outc y k = A ++ u8 0 :: u8 0 :: u8 0 :: u8 0 :: bytesV (List.replicate (32 - 4 * (k + 1)) 0) := by
    have : 32 - 4 * k = (32 - 4 * (k + 1)) + 4 := by omega
    rw [← hA]
    simp [outc, bytesV, this, List.replicate_succ]
  have e2 : outc y (k + 1) = A ++ bytesV (be32 (y.at k)) ++ bytesV (List.replicate (32 - 4 * (k + 1)) 0) := by
    rw [← hA]
    simp [outc, bytesV, List.take_add_one, at_get y k h]
  rw [e1, e2, segSet_snoc _ _ _ _ _ (by omega), segSet_snoc _ _ _ _ _ (by simp; omega), segSet_snoc _ _ _ _ _ (by simp; omega), segSet_snoc _ _ _ _ _ (by simp; omega)]
  simp [be32, bytesV]
theorem be64_length (n : UInt64) (k : Nat) : (be64 n k).length = k := by simp [be64]
theorem be64_succ (n : UInt64) (k : Nat) : be64 n (k + 1) = be64 n k ++ [(n >>> UInt64.ofNat (56 - 8 * k)).toUInt8] := by simp [be64, List.range_succ]
theorem pad_length (m : Nat) (n : UInt64) : (pad m n).length = padZ m + 9 := by simp [pad, be64_length]
theorem padZ_lt (m : Nat) : padZ m < 64 := by unfold padZ; omega
/-- The reference's digest. -/
def refM (l : List UInt8) : List UInt8 := l ++ pad l.length (UInt64.ofInt (l.length : Int) * 8)
def refSha (l : List UInt8) : List UInt8 := (feed iv (refM l) ((refM l).length / 64)).l.flatMap be32
def outb (D : List UInt8) (i : Nat) : List Value := bytesV (D.take i ++ List.replicate (32 - i) 0)
theorem flat_get : ∀ (l : List UInt32) (q r : Nat), r < 4 → (l.flatMap be32)[4 * q + r]? = (l[q]?).bind fun w => (be32 w)[r]?
  | [], q, r, _ => by simp
  | w :: t, 0, r, h => by
    rw [List.flatMap_cons, List.getElem?_append_left (by simp [be32]; omega)]
    simp
  | w :: t, q + 1, r, h => by
    have := flat_get t q r h
    rw [List.flatMap_cons, List.getElem?_append_right (by simp [be32]; omega)]
    have e : 4 * (q + 1) + r - (be32 w).length = 4 * q + r := by simp [be32]; omega
    rw [e, this]
    simp
theorem be32_get (w : UInt32) (r : Nat) (h : r < 4) : (be32 w)[r]? = some ((w >>> UInt32.ofNat (24 - 8 * r)).toUInt8) := by
  match r, h with
  | 0, _ => rfl
  | 1, _ => rfl
  | 2, _ => rfl
  | 3, _ => simp [be32]
theorem flat_at (y : H8) (i : Nat) (h : i < 32) : (y.l.flatMap be32)[i]? = some ((y.at (i / 4) >>> UInt32.ofNat (24 - 8 * (i % 4))).toUInt8) := by
  have h1 := flat_get y.l (i / 4) (i % 4) (by omega)
  rw [Nat.div_add_mod] at h1
  rw [h1, at_get y _ (by omega)]
  exact be32_get _ _ (by omega)
theorem outb_length (D : List UInt8) (i : Nat) (hD : D.length = 32) (h : i ≤ 32) : (outb D i).length = 32 := by
  rw [outb, bytesV_length, List.length_append, List.length_take, List.length_replicate, hD]; omega
theorem outb_set (D : List UInt8) (i o : Nat) (c : UInt8) (ho : o = i) (h : i < 32) (hD : D.length = 32) (hc : D[i]? = some c) : segSet (outb D i) o [u8 c] = outb D (i + 1) := by
  subst ho
  have e : 32 - o = (32 - (o + 1)) + 1 := by omega
  have e1 : outb D o = bytesV (D.take o) ++ u8 0 :: bytesV (List.replicate (32 - (o + 1)) 0) := by rw [outb, e, List.replicate_succ]; simp [bytesV]
  rw [e1, segSet_snoc _ _ _ _ _ (by rw [bytesV_length, List.length_take, hD]; omega)]
  simp [outb, bytesV, List.take_add_one, hc]
theorem be64_sh (k : Nat) (h : k < 8) : ((UInt64.ofInt (56 - 8 * (k : Int))).toNat : Int) = ((56 - 8 * k : Nat) : Int) := by
  have : ∀ k : Fin 8, ((UInt64.ofInt (56 - 8 * (k.val : Int))).toNat : Int) = ((56 - 8 * k.val : Nat) : Int) := by decide +kernel
  exact this ⟨k, h⟩
theorem sh_24 (i : Nat) : ((UInt64.ofInt (24 - 8 * ((i : Int) % 4))).toNat : Int) = ((24 - 8 * (i % 4) : Nat) : Int) := by
  have h : ∀ r : Fin 4, ((UInt64.ofInt (24 - 8 * (r.val : Int))).toNat : Int) = ((24 - 8 * r.val : Nat) : Int) := by decide +kernel
  have := h ⟨i % 4, by omega⟩
  simpa using this
end Go.Sha
