/- Plain laws of the hash: no program in sight. -/
import Derived.Test.YtiekhjbhlekaeaaDoorSha
set_option maxRecDepth 1000000
namespace Go.Sha
open Go.Fl
theorem feed_left (x : H8) (l m : List UInt8) : ∀ k, 64 * k ≤ l.length → feed x (l ++ m) k = feed x l k
  | 0, _ => rfl
  | k + 1, h => by
    rw [feed, feed, feed_left x l m k (by omega), List.drop_append_of_le_length (by omega), List.take_append_of_le_length (by simp; omega)]
theorem feed_add (x : H8) (l : List UInt8) (a : Nat) : ∀ b, feed x l (a + b) = feed (feed x l a) (l.drop (64 * a)) b
  | 0 => rfl
  | b + 1 => by
    rw [← Nat.add_assoc, feed, feed, feed_add x l a b, List.drop_drop, Nat.mul_add]
theorem rest_length (l : List UInt8) : (rest l).length = l.length % 64 := by
  rw [rest, List.length_drop]; omega
theorem absorb_append (x : H8) (l m : List UInt8) : absorb (absorb x l) (rest l ++ m) = absorb x (l ++ m) := by
  have h1 : (l ++ m).length / 64 = l.length / 64 + (rest l ++ m).length / 64 := by
    rw [List.length_append, List.length_append, rest_length]; omega
  unfold absorb
  rw [h1, feed_add, feed_left x l m _ (by omega)]
  congr 1
  rw [rest, List.drop_append_of_le_length (by omega)]
theorem rest_append (l m : List UInt8) : rest (rest l ++ m) = rest (l ++ m) := by
  have h1 : 64 * ((l ++ m).length / 64) = 64 * (l.length / 64) + 64 * ((rest l ++ m).length / 64) := by
    rw [List.length_append, List.length_append, rest_length]; omega
  have h2 : (l ++ m).drop (64 * (l.length / 64)) = rest l ++ m := by rw [rest, List.drop_append_of_le_length (by omega)]
  conv => rhs; unfold rest
  rw [h1, ← List.drop_drop, h2, rest]
theorem pad_mod (m k : Nat) (n : UInt64) (h : m % 64 = k % 64) : pad m n = pad k n := by
  unfold pad padZ; rw [h]
theorem refSha_eq (l : List UInt8) : refSha l = sha256 l := by
  unfold sha256 digest
  rw [absorb_append, pad_mod (rest l).length l.length _ (by rw [rest_length]; omega)]
  rfl
theorem sha_abc : ((sha256 [97, 98, 99])[0]? == some 0xba && (sha256 [97, 98, 99])[1]? == some 0x78 && (sha256 [97, 98, 99])[31]? == some 0xad) = true := by decide +kernel
theorem sha256_length (l : List UInt8) : (sha256 l).length = 32 := by rw [sha256, digest, flat_length, H8.length]
end Go.Sha
