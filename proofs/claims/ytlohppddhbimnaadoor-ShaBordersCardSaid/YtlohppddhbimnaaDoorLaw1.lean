/- The walks of law 01's functions. -/
import Derived.Test.YtlohppddhbimnaaDoorRef2
import Derived.Test.YtlohppddhbimnaaDoorPl
set_option linter.unusedVariables false
namespace Go.Proofs.YtlohppddhbimnaaDoor
open Go.Fl Go.Sha
theorem Sha_fun' (I : Im) (b : Value) (bs : List UInt8) (hb : Sl I 1 b bs.length (bytesV bs)) (hlen : bs.length ≤ 17592186044416) :
    Fun Tryd.prog 14 #[b] I (fun v J => v = .agg (bytesV (sha256 bs)).toArray) := refSha_eq bs ▸ Sha_fun I b bs hb hlen
theorem short_fun (I : Im) (b : Value) (bs : List UInt8) (hb : Sl I 1 b bs.length (bytesV bs)) :
    Fun Tryd.prog 12 #[b] I (fun v J => Sl J 1 v (bs.take 700).length (bytesV (bs.take 700))) := by
  obtain ⟨a1, c1, rfl, hc1, hc2⟩ := id hb.shape
  generalize hbv : Value.slice a1 bs.length c1 = b at *
  refine Fun.intro (l := [b]) Tryd.func12 rfl (by kernel_rfl) 8 rfl rfl [(0, b)] rfl fun C hC => ?_
  refine .seq (.region rfl (.v (.assign rfl (.nil ?_))))
  refine .seq (.region rfl ?_)
  refine .v (.move rfl (.v (.move rfl (.v (.len (a0 := a1) (n := bs.length) (c := c1) Tryd.underlying22 (by rw [hbv]; rfl) (.v (.minI rfl rfl ?_)))))))
  refine .v (.slice (l := 0) (h := min bs.length 700) el22.und el22.size rfl hb (.inl ⟨rfl, rfl⟩) (.inr ⟨_, _, rfl, congrArg (fun q => some (i64 q)) (by omega)⟩) (by omega) (by omega) fun v' hv' => ?_)
  refine .v (.assign rfl ?_)
  refine .nil (.ret ⟨_, .r1 rfl (.tmp rfl), ?_⟩)
  have e1 : (bs.take 700).length = min bs.length 700 - 0 := by simp [Nat.min_comm]
  have e2 : bytesV (bs.take 700) = ((bytesV bs).take (min bs.length 700 * 1)).drop (0 * 1) := by
    simp only [Nat.mul_one, List.drop_zero, bytesV, ← List.map_take]
    congr 1
    rw [List.take_eq_take_iff]; omega
  rw [e1, e2]
  exact hv'
theorem abc_get (i : Nat) (c : UInt8) (h : (sha256 [97, 98, 99])[i]? = some c) : (bytesV (sha256 [97, 98, 99]))[i]? = some (u8 c) := by simp [bytesV, h]
theorem abc0 : (sha256 [97, 98, 99])[0]? = some 0xba := by have := sha_abc; simp only [Bool.and_eq_true, beq_iff_eq] at this; exact this.1.1
theorem abc1 : (sha256 [97, 98, 99])[1]? = some 0x78 := by have := sha_abc; simp only [Bool.and_eq_true, beq_iff_eq] at this; exact this.1.2
theorem abc31 : (sha256 [97, 98, 99])[31]? = some 0xad := by have := sha_abc; simp only [Bool.and_eq_true, beq_iff_eq] at this; exact this.2
theorem awake_fun (I : Im) (hkk : Cells I 0 0 (kk.map u32)) : Fun Tryd.prog 15 #[] I (fun v J => v = .bool true) := by
  refine Fun.intro (l := []) Tryd.func15 rfl (by kernel_rfl) 24 rfl rfl [] rfl fun C hC => ?_
  refine .seq (.region rfl (.v (.assign rfl (.nil ?_))))
  refine .seq (.region rfl (.x (.buildSlice (n := 3) (zs := [u8 0]) (vs := [u8 97, u8 98, u8 99]) (pv := [(0, u8 97), (1, u8 98), (2, u8 99)]) el22.und el22.size z5 rfl rfl rfl rfl (by decide) fun b2 => ?_)))
  refine .s (.convSame (cs := [u8 97, u8 98, u8 99]) 0 Tryd.underlying22 Tryd.underlying5 rfl rfl ?_)
  refine .freeze 0 rfl (fun p _ hM => by rw [hC] at hM; cases hM) fun J hJ hp => ?_
  have hb : Sl J 1 (slc b2 0 3 3) ([97, 98, 99] : List UInt8).length (bytesV [97, 98, 99]) := by
    refine Sl.of_cells ?_ rfl (by decide) (by decide)
    exact ⟨_, _, _, hp _ (List.mem_singleton.2 rfl), fun i v hv => by simpa [bytesV] using hv⟩
  have hdl := sha256_length [97, 98, 99]
  have g0 := abc_get 0 _ abc0
  have g1 := abc_get 1 _ abc1
  have g31 := abc_get 31 _ abc31
  refine .x (.lendIs rfl rfl (fun J2 hJ2 _ => Of_fun J2 _ [97, 98, 99] (hb.mono hJ2) (by decide) (hkk.mono (hJ.trans hJ2))) ?_)
  generalize sha256 [97, 98, 99] = D at *
  refine .x (.alloc z26 fun b1 => ?_)
  refine .n (.storeW 0 32 sz26 rfl rfl (by rw [bytesV_length, hdl]) (ones_map _ _ fun _ => rfl) rfl rfl (.nil ?_))
  refine .seq (.region rfl ?_)
  refine .v (.indexAddrA ar26 rfl rfl (by omega) (by omega) (.v (.loadL 0 Tryd.underlying5 rfl rfl rfl g0 (.v (.eqlIT rfl rfl rfl (.v (.move rfl (.gt 8 rfl rfl (.ofX (.ofV (.indexAddrA ar26 rfl rfl (by omega) (by omega) (.gt 8 rfl rfl (.ofX (.ofV (.loadL 0 Tryd.underlying5 rfl rfl rfl g1 ?_)))))))))))))))
  refine .gt 8 rfl rfl (.ofX (.ofV (.eqlIT rfl rfl rfl (.v (.pickT rfl rfl (.v (.move rfl (.gt 13 rfl rfl (.ofX (.ofV (.indexAddrA ar26 rfl rfl (by omega) (by omega) (.gt 13 rfl rfl (.ofX (.ofV (.loadL 0 Tryd.underlying5 rfl rfl rfl g31 (.gt 13 rfl rfl (.ofX (.ofV (.eqlIT rfl rfl rfl ?_)))))))))))))))))))
  refine .v (.pickT rfl rfl (.v (.move rfl (.gt 18 rfl rfl (.ofX (.lendIs rfl rfl (fun J hJ hL => New_fun J) (.gt 18 rfl rfl (.ofX (.ofV (.fieldA (vs := iv.cells) fd34_0 rfl rfl (.gt 18 rfl rfl (.ofX (.ofV (.indexS (v := u32 0x6a09e667) ar32 rfl rfl (by omega) (by omega) rfl (.gt 18 rfl rfl (.ofX (.ofV (.eqlIT rfl rfl rfl ?_))))))))))))))))))
  refine .v (.pickT rfl rfl (.v (.assign rfl ?_)))
  exact .nil (.ret ⟨_, .r1 rfl (.tmp rfl), rfl⟩)
theorem fill_set (m k o : Nat) (c : UInt8) (ho : o = k) (h : k < m) : segSet (bytesV (List.replicate k c ++ List.replicate (m - k) 0)) o [u8 c] = bytesV (List.replicate (k + 1) c ++ List.replicate (m - (k + 1)) 0) := by
  subst ho
  have e : m - o = (m - (o + 1)) + 1 := by omega
  have e1 : bytesV (List.replicate o c ++ List.replicate (m - o) 0) = bytesV (List.replicate o c) ++ u8 0 :: bytesV (List.replicate (m - (o + 1)) 0) := by rw [e, List.replicate_succ]; simp [bytesV]
  rw [e1, segSet_snoc _ _ _ _ _ (by simp [bytesV])]
  simp [bytesV, List.replicate_succ']
theorem ShaDigest_fun (I : Im) (b : Value) (bs : List UInt8) (hb : Sl I 1 b bs.length (bytesV bs)) (n : Int) (hn0 : 0 ≤ n) (hn1 : n < 65536) (c : UInt8) (hkk : Cells I 0 0 (kk.map u32)) :
    Fun Tryd.prog 3 #[b, .int .u16 n, u8 c] I (fun v J => v = .bool true) := by
  refine Fun.intro (l := [b, .int .u16 n, u8 c]) Tryd.func3 rfl (by kernel_rfl) 40 rfl rfl [(0, b), (1, .int .u16 n), (2, u8 c)] rfl fun C hC => ?_
  refine .seq (.region rfl (.v (.assign rfl (.nil ?_))))
  refine .seq (.region rfl ?_)
  refine .v (.move rfl ?_)
  refine .x (.call rfl rfl (short_fun I b bs hb) fun v0 J0 hJ0 hv0 => ?_)
  have hs7 : (bs.take 700).length ≤ 700 := by simp; omega
  generalize bs.take 700 = ds at hv0 hs7
  refine .v (.assign rfl ?_)
  refine .nil (.seq (.region rfl ?_))
  refine .v (.move rfl (.v (.convI Tryd.underlying23 Tryd.underlying3 rfl (by first | omega | decide) (by first | omega | decide) (.v (.rem rfl rfl (by omega) (by omega) ?_)))))
  have hm : (n % 300 : Int) = (((n % 300).toNat : Nat) : Int) := by omega
  have hm3 : (n % 300).toNat < 300 := by omega
  generalize (n % 300).toNat = m at hm hm3
  rw [hm]
  refine .x (.makeOne (n := m) Tryd.underlying22 one5 rfl rfl (by omega) (by omega) fun b7 => ?_)
  refine .v (.assign rfl ?_)
  refine .nil (.seq (.seq (.region rfl ?_)))
  refine .v (.assign rfl ?_)
  refine .nil (.block (.loop (α := Nat) (fun k => [(8, i64 k), (7, slc b7 0 m m), (2, u8 c), (0, v0)])
    (fun k => [[(b7, row (bytesV (List.replicate k c ++ List.replicate (m - k) 0)) 5)]]) (fun k _ => k ≤ m) (fun k => m - k) 0 (by omega)
    (.cons rfl (.cons rfl (.cons rfl (.cons rfl (.nil _))))) (by simp [bytesV]) fun k J1 hJ1 hk => ?_))
  refine .seq (.seq (.region rfl ?_))
  refine .v (.move rfl (.v (.move rfl (.v (.len Tryd.underlying22 rfl (.v (.lss rfl rfl ?_)))))))
  refine .nil (.condP rfl (fun hlt => .skip ?_) (fun hge => .exit ?_))
  · have hkm : k < m := by omega
    refine .seq (.block (.region rfl ?_))
    refine .v (.move rfl (.v (.move rfl (.v (.move rfl (.v (.indexAddrS el22.und el22.size rfl rfl (by omega) (by omega) ?_)))))))
    have hset := fill_set m k (0 + (k : Int).toNat * 1) c (by simp) hkm
    refine .n (.storeS 0 sz5 rfl rfl rfl rfl rfl (by rw [bytesV_length]; simp; omega) (.nil ?_))
    refine .region rfl ?_
    refine .v (.move rfl (.v (.add rfl rfl (by omega) (by omega) (.v (.assign rfl ?_)))))
    refine .nil ⟨k + 1, .cons rfl (.cons rfl (.cons rfl (.cons rfl (.nil _)))), ?_, by omega, by omega, hJ1⟩
    exact congrArg (fun c => [[(b7, row c 5)]]) hset
  have hkm : k = m := by omega
  subst hkm
  refine .freeze 0 rfl (fun p _ hM => by rw [hC] at hM; cases hM) fun J2 hJ2 hp2 => ?_
  have hl : Sl J2 1 (slc b7 0 k k) (List.replicate k c).length (bytesV (List.replicate k c)) := by
    have h1 : Cells J2 b7 0 (bytesV (List.replicate k c)) := by
      have := Cells.of_row (hp2 _ (List.mem_singleton.2 rfl))
      simpa using this
    have := Sl.of_cells (s := 1) (n := k) (c := k) h1 (by rw [bytesV_length]; simp) (Nat.le_refl _) (by unfold maxLen; omega)
    simpa using this
  have hl3 : (List.replicate k c).length < 300 := by simpa using hm3
  generalize List.replicate k c = ls at hl hl3
  have hd := hv0.mono (hJ1.trans hJ2)
  have hkk2 := hkk.mono (hJ0.trans (hJ1.trans hJ2))
  refine .seq (.region rfl ?_)
  refine .v (.move rfl (.x (.lendIs rfl rfl (fun J hJ _ => Of_fun J _ ds (hd.mono hJ) (by omega) (hkk2.mono hJ)) (.v (.move rfl (.x (.lendIs rfl rfl (fun J hJ _ => Sha_fun' J _ ds (hd.mono hJ) (by omega)) (.v (.eqlBT Tryd.underlying26 sz5 Tryd.underlying5 gd26 (sha256_length ds) rfl rfl rfl (.v (.move rfl ?_)))))))))))
  refine .gt 30 rfl rfl (.ofX (.ofV (.move rfl (.gt 30 rfl rfl (.ofX (.lendIs rfl rfl (fun J hJ _ => Of_fun J _ ls (hl.mono hJ) (by omega) (hkk2.mono hJ)) (.gt 30 rfl rfl (.ofX (.ofV (.move rfl (.gt 30 rfl rfl (.ofX (.lendIs rfl rfl (fun J hJ _ => Sha_fun' J _ ls (hl.mono hJ) (by omega)) (.gt 30 rfl rfl (.ofX (.ofV (.eqlBT Tryd.underlying26 sz5 Tryd.underlying5 gd26 (sha256_length ls) rfl rfl rfl (.v (.pickT rfl rfl ?_)))))))))))))))))))
  refine .v (.move rfl (.gt 37 rfl rfl (.ofX (.lendIs rfl rfl (fun J hJ _ => awake_fun J (hkk2.mono hJ)) (.v (.pickT rfl rfl (.v (.assign rfl ?_))))))))
  exact .nil (.ret ⟨_, .r1 rfl (.tmp rfl), rfl⟩)
end Go.Proofs.YtlohppddhbimnaaDoor
