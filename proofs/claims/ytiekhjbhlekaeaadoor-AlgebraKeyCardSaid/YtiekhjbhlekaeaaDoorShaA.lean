/- The contracts of package sha over typed values. -/
import Derived.Test.YtiekhjbhlekaeaaDoorShaE
import Derived.Test.YtiekhjbhlekaeaaDoorRef2
import Derived.Test.YtiekhjbhlekaeaaDoorPl
import Derived.Test.YtiekhjbhlekaeaaDoorFa
set_option maxRecDepth 1000000
set_option linter.unusedVariables false
namespace Go.Mac
open Go.Fl Go.Ab Go.Sha
abbrev Tag := Arr 32 UInt8
def h8 (a : Arr 8 UInt32) : H8 := ⟨a.l.getD 0 0, a.l.getD 1 0, a.l.getD 2 0, a.l.getD 3 0, a.l.getD 4 0, a.l.getD 5 0, a.l.getD 6 0, a.l.getD 7 0⟩
def arr8 (x : H8) : Arr 8 UInt32 := ⟨x.l, rfl⟩
theorem h8_arr8 (x : H8) : h8 (arr8 x) = x := rfl
theorem h8_l (a : Arr 8 UInt32) : (h8 a).l = a.l := by
  obtain ⟨l, h⟩ := a
  match l, h with
  | [a, b, c, d, e, f, g, i], _ => rfl
theorem arr8_h8 (a : Arr 8 UInt32) : arr8 (h8 a) = a := Arr.ext (h8_l a)
def sha (l : List UInt8) : Tag := ⟨sha256 l, sha256_length l⟩
theorem digest_length (x : H8) (r : List UInt8) (n : Nat) : (digest x r n).length = 32 := by rw [digest, flat_length, H8.length]
def hNew : G_api_Hash := ⟨arr8 iv, [], 0⟩
def hWrite (h : G_api_Hash) (b : List UInt8) : G_api_Hash := ⟨arr8 (absorb (h8 h.H) (h.Rest ++ b)), rest (h.Rest ++ b), h.Len + b.length⟩
def hSum (h : G_api_Hash) : Tag := ⟨digest (h8 h.H) h.Rest h.Len.toNat, digest_length _ _ _⟩
/-- The state behind l. -/
def hOf (l : List UInt8) : G_api_Hash := ⟨arr8 (absorb iv l), rest l, l.length⟩
@[simp] theorem hNew_eq : hNew = hOf [] := rfl
@[simp] theorem hWrite_hOf (l m : List UInt8) : hWrite (hOf l) m = hOf (l ++ m) := by
  simp only [hWrite, hOf, h8_arr8, absorb_append, rest_append, List.length_append]
  congr 1
@[simp] theorem hSum_hOf (l : List UInt8) : hSum (hOf l) = sha l := by
  apply Arr.ext
  show digest (h8 (arr8 (absorb iv l))) (rest l) (Int.toNat (l.length : Int)) = sha256 l
  rw [h8_arr8, Int.toNat_natCast]; rfl
@[simp] theorem hOf_Rest (l : List UInt8) : (hOf l).Rest.length = l.length % 64 := rest_length l
@[simp] theorem hOf_Len (l : List UInt8) : (hOf l).Len = l.length := rfl
theorem hOf_rest (l : List UInt8) : (hOf l).Rest.length < 64 := by
  show (rest l).length < 64
  rw [rest_length]; omega
end Go.Mac
namespace Go.Proofs.YtiekhjbhlekaeaaDoor
open Go.Fl Go.Ab Go.Sha Go.Mac
def gl : Gl := ⟨fun I => Cells I 1 0 (kk.map Fl.u32), fun hle h => h.mono hle⟩
theorem cells_h8 (a : Arr 8 UInt32) : a.l.map Fl.u32 = (h8 a).cells := by
  rw [← h8_l a]; rfl
theorem slA_u8 {I : Im} {v : Value} {l : List UInt8} : SlA I v l ↔ Sl I 1 v l.length (bytesV l) := by
  constructor
  · rintro ⟨xs, h1, h2⟩
    rw [repL_u8.1 h2] at h1; exact h1
  · intro h; exact ⟨_, h, repL_u8.2 rfl⟩
theorem hash_open {I : Im} {h : G_api_Hash} {u : Value} (hu : RepV I (.v h) u) : ∃ sv, u = .agg ((h8 h.H).cells ++ [sv, i64 h.Len]).toArray ∧ Sl I 1 sv h.Rest.length (bytesV h.Rest) := by
  obtain ⟨cs, ⟨c1, r1, rfl, h1, c2, r2, rfl, ⟨sv, rfl, h2⟩, c3, r3, rfl, ⟨rfl, _⟩, h4⟩, rfl⟩ := hu
  cases h4
  have := repL_u32.1 h1
  subst this
  exact ⟨sv, by rw [← cells_h8]; rfl, slA_u8.1 h2⟩
theorem hash_close {I : Im} {h : G_api_Hash} {sv : Value} (hs : Sl I 1 sv h.Rest.length (bytesV h.Rest)) (h1 : -9223372036854775808 ≤ h.Len) (h2 : h.Len ≤ 9223372036854775807) : RepV I (.v h) (.agg ((h8 h.H).cells ++ [sv, i64 h.Len]).toArray) := by
  refine ⟨h.H.l.map Fl.u32 ++ ([sv] ++ ([i64 h.Len] ++ [])), ⟨_, _, rfl, repL_u32.2 rfl, _, _, rfl, ⟨sv, rfl, slA_u8.2 hs⟩, _, _, rfl, ⟨rfl, h1, h2⟩, rfl⟩, ?_⟩
  rw [cells_h8]; rfl
theorem bytes_open {I : Im} {l : List UInt8} {u : Value} (hu : RepV I (.v l) u) : Sl I 1 u l.length (bytesV l) := by
  obtain ⟨cs, ⟨v, rfl, h⟩, rfl⟩ := hu
  exact slA_u8.1 h
theorem bytes_close {I : Im} {l : List UInt8} {u : Value} (h : Sl I 1 u l.length (bytesV l)) : RepV I (.v l) u := ⟨[u], ⟨u, rfl, slA_u8.2 h⟩, rfl⟩
theorem tag_close {I : Im} {t : Tag} : RepV I (.v t) (.agg (bytesV t.l).toArray) := ⟨bytesV t.l, repL_u8.2 rfl, rfl⟩
theorem New_c : FunA gl Tryd.prog 91 [] (fun r => r = .v hNew) := fun I vs hG hvs => by
  cases hvs
  refine (New_fun I).mono fun v J hle hv => ⟨_, ?_, rfl⟩
  subst hv
  exact hash_close (h := hNew) (Sl.nil J 1) (by decide) (by decide)
theorem Write_c (h : G_api_Hash) (b : List UInt8) (h0 : 0 ≤ h.Len) (h1 : h.Rest.length + b.length ≤ 35184372088832) (h2 : h.Len + b.length ≤ 4611686018427387904) :
    FunA gl Tryd.prog 90 [.v h, .v b] (fun r => r = .v (hWrite h b)) := fun I vs hG hvs => by
  obtain ⟨u, r, rfl, hu, u2, r2, rfl, hu2, rfl⟩ := hvs
  obtain ⟨sv, rfl, hs⟩ := hash_open hu
  obtain ⟨n, hn⟩ := Int.eq_ofNat_of_zero_le h0
  have hw := Write_fun I (h8 h.H) sv h.Rest n u2 b hs (bytes_open hu2) h1 (by omega) hG
  rw [hn]
  refine hw.mono fun v J hle ⟨sv', hv, hs'⟩ => ⟨_, ?_, rfl⟩
  subst hv
  have e : (hWrite h b).Len = ((n + b.length : Nat) : Int) := by simp [hWrite, hn]
  have := hash_close (I := J) (h := hWrite h b) (sv := sv') hs' (by rw [e]; omega) (by rw [e]; omega)
  rw [e] at this
  exact this
theorem Sum_c (h : G_api_Hash) (h0 : 0 ≤ h.Len) (h1 : h.Rest.length ≤ 17592186044416) (h2 : h.Len ≤ 2305843009213693952) : FunA gl Tryd.prog 89 [.v h] (fun r => r = .v (hSum h)) := fun I vs hG hvs => by
  obtain ⟨u, r, rfl, hu, rfl⟩ := hvs
  obtain ⟨sv, rfl, hs⟩ := hash_open hu
  obtain ⟨n, hn⟩ := Int.eq_ofNat_of_zero_le h0
  have hw := Sum_fun I (h8 h.H) sv h.Rest n hs h1 (by omega) hG
  rw [hn]
  refine hw.mono fun v J hle hv => ⟨_, ?_, rfl⟩
  subst hv
  have e : (hSum h).l = digest (h8 h.H) h.Rest n := by simp [hSum, hn]
  rw [← e]
  exact tag_close
theorem Of_c (b : List UInt8) (h1 : b.length ≤ 17592186044416) : FunA gl Tryd.prog 88 [.v b] (fun r => r = .v (sha b)) := fun I vs hG hvs => by
  obtain ⟨u, r, rfl, hu, rfl⟩ := hvs
  refine (Of_fun I u b (bytes_open hu) h1 hG).mono fun v J hle hv => ⟨_, ?_, rfl⟩
  subst hv
  exact tag_close (t := sha b)
theorem rSha_c (b : List UInt8) (h1 : b.length ≤ 17592186044416) : FunA gl Tryd.prog 84 [.v b] (fun r => r = .v (sha b)) := fun I vs hG hvs => by
  obtain ⟨u, r, rfl, hu, rfl⟩ := hvs
  refine (Sha_fun I u b (bytes_open hu) h1).mono fun v J hle hv => ⟨_, ?_, rfl⟩
  subst hv
  rw [refSha_eq]
  exact tag_close (t := sha b)
theorem Eight_c (n : UInt64) : FunA gl Tryd.prog 62 [.v n] (fun r => r = .v (be64 n 8)) := fun I vs hG hvs => by
  obtain ⟨u, r, rfl, hu, rfl⟩ := hvs
  obtain ⟨cs, rfl, rfl⟩ := hu
  exact (Eight_fun I n).mono fun v J hle hv => ⟨_, bytes_close (by rw [be64_length]; exact hv), rfl⟩
theorem Initial_c : FunA gl Tryd.prog 103 [] (fun r => r = .v (arr8 iv)) := fun I vs hG hvs => by
  cases hvs
  refine (Initial_fun I).mono fun v J hle hv => ⟨_, ?_, rfl⟩
  subst hv
  exact ⟨iv.cells, repL_u32.2 rfl, rfl⟩
theorem Block_c (a : Arr 8 UInt32) (l : List UInt8) (hl : l.length = 64) : FunA gl Tryd.prog 104 [.v a, .v l] (fun r => r = .v (arr8 (compress (h8 a) l))) := fun I vs hG hvs => by
  obtain ⟨u, r, rfl, hu, u2, r2, rfl, hu2, rfl⟩ := hvs
  obtain ⟨cs, h1, rfl⟩ := hu
  have := repL_u32.1 h1
  subst this
  have hs := bytes_open hu2
  rw [hl] at hs
  have hw := Block_fun I (h8 a) l hl u2 hs
  have e : asV (Rep.agg (Arr 8 UInt32)) (a.l.map Fl.u32) = (h8 a).v := by rw [cells_h8]; rfl
  rw [e]
  refine hw.mono fun v J hle hv => ⟨_, ?_, rfl⟩
  subst hv
  exact ⟨_, repL_u32.2 rfl, rfl⟩
end Go.Proofs.YtiekhjbhlekaeaaDoor
