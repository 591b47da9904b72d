/- The walks of package sha: what each function of it computes. -/
import Derived.Test.YtiekhjbhlekaeaaDoorFacts
import Derived.Test.YtiekhjbhlekaeaaDoorSha
set_option maxRecDepth 1000000
set_option linter.unusedVariables false
namespace Go.Proofs.YtiekhjbhlekaeaaDoor
open Go.Fl Go.Sha
theorem rot_s (n : Nat) (h0 : 0 < n) (h1 : n < 32) : UInt64.ofInt (-(n : Int)) &&& 31 = UInt64.ofNat (32 - n) := by
  have : ∀ n : Fin 32, 0 < n.val → UInt64.ofInt (-(n.val : Int)) &&& 31 = UInt64.ofNat (32 - n.val) := by decide +kernel
  exact this ⟨n, h1⟩ h0
theorem rot_t (n : Nat) (h0 : 0 < n) (h1 : n < 32) : (32 : UInt64) - UInt64.ofNat (32 - n) = UInt64.ofNat n := by
  have : ∀ n : Fin 32, 0 < n.val → (32 : UInt64) - UInt64.ofNat (32 - n.val) = UInt64.ofNat n.val := by decide +kernel
  exact this ⟨n, h1⟩ h0
theorem rot_u (n : Nat) (h1 : n < 33) : (UInt64.ofNat n).toNat = n := by simp; omega
theorem RotateLeft32_fun (I : Im) (x : UInt32) (n : Nat) (h0 : 0 < n) (h1 : n < 32) :
    Fun Tryd.prog 116 #[u32 x, i64 (-(n : Int))] I (fun v J => v = u32 (rotr x n)) := by
  refine Fun.intro (l := [u32 x, i64 (-(n : Int))]) Tryd.func116 rfl (by kernel_rfl) 17 rfl rfl [(0, u32 x), (1, i64 (-(n : Int)))] rfl fun C hC => ?_
  refine .seq (.region rfl (.v (.assign rfl (.nil ?_))))
  refine .seq (.region rfl ?_)
  refine .v (.move rfl (.v (.conv64 Tryd.underlying3 Tryd.underlying119 rfl (.v (.and64 (n := 31) rfl rfl ?_)))))
  rw [rot_s n h0 h1]
  refine .v (.assign rfl (.nil ?_))
  refine .seq (.region rfl ?_)
  refine .v (.move rfl (.v (.move rfl (.v (.shl32 (32 - n) rfl rfl (by rw [rot_u _ (by omega)]) (by omega) (.v (.move rfl (.v (.move rfl (.v (.sub64 (m := 32) rfl rfl ?_)))))))))))
  rw [rot_t n h0 h1]
  refine .v (.shr32 n rfl rfl (by rw [rot_u _ (by omega)]) (by omega) (.v (.or32 rfl rfl (.v (.assign rfl ?_)))))
  refine .nil (.ret ⟨_, .r1 rfl (.tmp rfl), ?_⟩)
  rw [rotr, UInt32.or_comm]
theorem rotate_fun (I : Im) (x : UInt32) (n : Nat) (h0 : 0 < n) (h1 : n < 32) :
    Fun Tryd.prog 115 #[u32 x, i64 (n : Int)] I (fun v J => v = u32 (rotr x n)) := by
  refine Fun.intro (l := [u32 x, i64 (n : Int)]) Tryd.func115 rfl (by kernel_rfl) 9 rfl rfl [(0, u32 x), (1, i64 (n : Int))] rfl fun C hC => ?_
  refine .seq (.region rfl (.v (.assign rfl (.nil ?_))))
  refine .seq (.region rfl ?_)
  refine .v (.move rfl (.v (.move rfl (.v (.neg rfl (by omega) (.x (.lendIs rfl rfl (fun J _ _ => RotateLeft32_fun J x n h0 h1) (.v (.assign rfl ?_)))))))))
  exact .nil (.ret ⟨_, .r1 rfl (.tmp rfl), rfl⟩)
theorem schedule_fun (I : Im) (l : List UInt8) (hl : l.length = 64) (s : Value) (hs : Sl I 1 s 64 (bytesV l)) :
    Fun Tryd.prog 114 #[s] I (fun v J => v = .agg ((wl l 64).map u32).toArray) := by
  obtain ⟨bb, oo, cc, rfl, hc, h1, h2⟩ := hs.open (by intro e; have := congrArg List.length e; simp [bytesV, hl] at this)
  refine Fun.intro (l := [slc bb oo 64 cc]) Tryd.func114 rfl (by kernel_rfl) 90 rfl rfl [(0, slc bb oo 64 cc)] rfl fun C hC => ?_
  refine .seq (.region rfl (.x (.alloc z132 fun b2 => .nil ?_)))
  refine .seq (.region rfl (.x (.alloc z132 fun b3 => .nil ?_)))
  refine .seq (.seq (.region rfl ?_))
  refine .v (.move rfl ?_)
  refine .nil (.block (.loop (α := Nat) (fun k => [(9, i64 k), (0, slc bb oo 64 cc), (2, ptr b2 0), (3, ptr b3 0)])
    (fun k => [[(b3, row (wcells l k) 132)], [(b2, row (List.replicate 64 (u32 0)) 132)]]) (fun k _ => k ≤ 64) (fun k => 64 - k) 0 (by omega)
    (.cons rfl (.cons rfl (.cons rfl (.cons rfl (.nil _))))) (by rw [wcells_zero]; rfl) fun k J hJ hk => ?_))
  refine .seq (.region rfl ?_)
  refine .v (.lss rfl rfl ?_)
  refine .nil (.seq (.condP rfl (fun hlt => .skip ?_) (fun hge => .exit ?_)))
  · have hk64 : k < 64 := by omega
    have hcJ := hc.mono hJ
    refine .seq (.block (.seq (.region rfl ?_)))
    refine .v (.move rfl (.v (.assign rfl ?_)))
    refine .nil (.seq (.seq (.region rfl ?_)))
    refine .v (.move rfl (.v (.lss rfl rfl ?_)))
    refine .nil (.condP rfl (fun h16 => ?_) (fun h16 => ?_))
    · have hk16 : k < 16 := by omega
      refine .seq ?_
      refine .draw (by kernel_rfl) 35 [[], [], [], [(16, 2)], [(15, 1), (17, 3)], [(18, 4)], [(19, 5)], [(20, 6)], [], [], [(23, 9)], [(24, 10)], [(22, 8), (25, 11)], [(26, 12)], [(27, 13)], [(28, 14)], [(21, 7), (29, 15)], [], [], [(32, 18)], [(33, 19)], [(31, 17), (34, 20)], [(35, 21)], [(36, 22)], [(37, 23)], [(30, 16), (38, 24)], [], [], [(41, 27)], [(42, 28)], [(40, 26), (43, 29)], [(44, 30)], [(45, 31)], [(39, 25), (46, 32)], [(14, 0)]] rfl (by kernel_rfl) rfl ?_
      refine ⟨.is _, fun JJ hJJ ρ e4 => .ofV (.move e4 ⟨rfl, rfl⟩), ?_⟩
      refine ⟨.is _, fun JJ hJJ ρ e0 => .ofV (.move e0 ⟨rfl, rfl⟩), ?_⟩
      refine ⟨.is _, fun JJ hJJ ρ e4 => .ofV (.move e4 ⟨rfl, rfl⟩), ?_⟩
      refine ⟨.is _, fun JJ hJJ ρ e16 => .ofV (.mul rfl e16 (by omega) (by omega) ⟨rfl, rfl⟩), ?_⟩
      refine ⟨.is _, fun JJ hJJ ρ e15 e17 => .ofV (.indexAddrS el23.und el23.size e15 e17 (by omega) (by omega) ⟨rfl, rfl⟩), ?_⟩
      refine ⟨.is _, fun JJ hJJ ρ e18 => .ofV (.loadC Tryd.underlying5 rfl e18 (hcJ.mono hJJ) rfl (getB l (4 * k) _ (by omega) (by omega)) ⟨rfl, rfl⟩), ?_⟩
      refine ⟨.is _, fun JJ hJJ ρ e19 => .ofV (.conv8_32 Tryd.underlying5 Tryd.underlying112 e19 ⟨rfl, rfl⟩), ?_⟩
      refine ⟨.is _, fun JJ hJJ ρ e20 => .ofV (.shl32 24 e20 rfl rfl (by decide) ⟨rfl, rfl⟩), ?_⟩
      refine ⟨.is _, fun JJ hJJ ρ e0 => .ofV (.move e0 ⟨rfl, rfl⟩), ?_⟩
      refine ⟨.is _, fun JJ hJJ ρ e4 => .ofV (.move e4 ⟨rfl, rfl⟩), ?_⟩
      refine ⟨.is _, fun JJ hJJ ρ e23 => .ofV (.mul rfl e23 (by omega) (by omega) ⟨rfl, rfl⟩), ?_⟩
      refine ⟨.is _, fun JJ hJJ ρ e24 => .ofV (.add e24 rfl (by omega) (by omega) ⟨rfl, rfl⟩), ?_⟩
      refine ⟨.is _, fun JJ hJJ ρ e22 e25 => .ofV (.indexAddrS el23.und el23.size e22 e25 (by omega) (by omega) ⟨rfl, rfl⟩), ?_⟩
      refine ⟨.is _, fun JJ hJJ ρ e26 => .ofV (.loadC Tryd.underlying5 rfl e26 (hcJ.mono hJJ) rfl (getB l (4 * k + 1) _ (by omega) (by omega)) ⟨rfl, rfl⟩), ?_⟩
      refine ⟨.is _, fun JJ hJJ ρ e27 => .ofV (.conv8_32 Tryd.underlying5 Tryd.underlying112 e27 ⟨rfl, rfl⟩), ?_⟩
      refine ⟨.is _, fun JJ hJJ ρ e28 => .ofV (.shl32 16 e28 rfl rfl (by decide) ⟨rfl, rfl⟩), ?_⟩
      refine ⟨.is _, fun JJ hJJ ρ e21 e29 => .ofV (.or32 e21 e29 ⟨rfl, rfl⟩), ?_⟩
      refine ⟨.is _, fun JJ hJJ ρ e0 => .ofV (.move e0 ⟨rfl, rfl⟩), ?_⟩
      refine ⟨.is _, fun JJ hJJ ρ e4 => .ofV (.move e4 ⟨rfl, rfl⟩), ?_⟩
      refine ⟨.is _, fun JJ hJJ ρ e32 => .ofV (.mul rfl e32 (by omega) (by omega) ⟨rfl, rfl⟩), ?_⟩
      refine ⟨.is _, fun JJ hJJ ρ e33 => .ofV (.add e33 rfl (by omega) (by omega) ⟨rfl, rfl⟩), ?_⟩
      refine ⟨.is _, fun JJ hJJ ρ e31 e34 => .ofV (.indexAddrS el23.und el23.size e31 e34 (by omega) (by omega) ⟨rfl, rfl⟩), ?_⟩
      refine ⟨.is _, fun JJ hJJ ρ e35 => .ofV (.loadC Tryd.underlying5 rfl e35 (hcJ.mono hJJ) rfl (getB l (4 * k + 2) _ (by omega) (by omega)) ⟨rfl, rfl⟩), ?_⟩
      refine ⟨.is _, fun JJ hJJ ρ e36 => .ofV (.conv8_32 Tryd.underlying5 Tryd.underlying112 e36 ⟨rfl, rfl⟩), ?_⟩
      refine ⟨.is _, fun JJ hJJ ρ e37 => .ofV (.shl32 8 e37 rfl rfl (by decide) ⟨rfl, rfl⟩), ?_⟩
      refine ⟨.is _, fun JJ hJJ ρ e30 e38 => .ofV (.or32 e30 e38 ⟨rfl, rfl⟩), ?_⟩
      refine ⟨.is _, fun JJ hJJ ρ e0 => .ofV (.move e0 ⟨rfl, rfl⟩), ?_⟩
      refine ⟨.is _, fun JJ hJJ ρ e4 => .ofV (.move e4 ⟨rfl, rfl⟩), ?_⟩
      refine ⟨.is _, fun JJ hJJ ρ e41 => .ofV (.mul rfl e41 (by omega) (by omega) ⟨rfl, rfl⟩), ?_⟩
      refine ⟨.is _, fun JJ hJJ ρ e42 => .ofV (.add e42 rfl (by omega) (by omega) ⟨rfl, rfl⟩), ?_⟩
      refine ⟨.is _, fun JJ hJJ ρ e40 e43 => .ofV (.indexAddrS el23.und el23.size e40 e43 (by omega) (by omega) ⟨rfl, rfl⟩), ?_⟩
      refine ⟨.is _, fun JJ hJJ ρ e44 => .ofV (.loadC Tryd.underlying5 rfl e44 (hcJ.mono hJJ) rfl (getB l (4 * k + 3) _ (by omega) (by omega)) ⟨rfl, rfl⟩), ?_⟩
      refine ⟨.is _, fun JJ hJJ ρ e45 => .ofV (.conv8_32 Tryd.underlying5 Tryd.underlying112 e45 ⟨rfl, rfl⟩), ?_⟩
      refine ⟨.is _, fun JJ hJJ ρ e39 e46 => .ofV (.or32 e39 e46 ⟨rfl, rfl⟩), ?_⟩
      refine ⟨.is _, fun JJ hJJ ρ e3 e14 => .ofV (.indexAddrA ar132 e3 e14 (by omega) (by omega) ⟨rfl, rfl⟩), ?_⟩
      intro J2 hJ2 
      have hset := wcells_set l k (0 + (k : Int).toNat * 1) (by simp) hk64
      refine .n (.storeS 0 sz112 rfl rfl rfl rfl rfl (by rw [wcells_length l k hk]; simp; omega) (.nil (.exit ?_)))
      refine .region rfl ?_
      refine .v (.add rfl rfl (by omega) (by omega) (.v (.move rfl ?_)))
      refine .nil ⟨k + 1, .cons rfl (.cons rfl (.cons rfl (.cons rfl (.nil _)))), ?_, by omega, by omega, hJ.trans hJ2⟩
      simp only [next, if_pos hk16, beW] at hset
      exact congrArg (fun c => [[(b3, row c 132)], [(b2, row (List.replicate 64 (u32 0)) 132)]]) hset
    · have hk16 : ¬ k < 16 := by omega
      refine .skip (.seq ?_)
      refine .draw (by kernel_rfl) 10 [[], [(49, 0)], [(50, 1)], [(51, 2)], [], [(53, 4)], [(54, 5)], [(55, 6)], [(52, 3)], [(56, 7)]] rfl (by kernel_rfl) rfl ?_
      refine ⟨.is _, fun JJ hJJ ρ e4 => .ofV (.move e4 ⟨rfl, rfl⟩), ?_⟩
      refine ⟨.is _, fun JJ hJJ ρ e49 => .ofV (.sub e49 rfl (by omega) (by omega) ⟨rfl, rfl⟩), ?_⟩
      refine ⟨.is _, fun JJ hJJ ρ e3 e50 => .ofV (.indexAddrA ar132 e3 e50 (by omega) (by omega) ⟨rfl, rfl⟩), ?_⟩
      refine ⟨.is _, fun JJ hJJ ρ e51 => .ofV (.loadL 0 Tryd.underlying112 rfl e51 rfl (wcells_get l k (k - 15) _ (by omega) (by omega)) ⟨rfl, rfl⟩), ?_⟩
      refine ⟨.is _, fun JJ hJJ ρ e4 => .ofV (.move e4 ⟨rfl, rfl⟩), ?_⟩
      refine ⟨.is _, fun JJ hJJ ρ e53 => .ofV (.sub e53 rfl (by omega) (by omega) ⟨rfl, rfl⟩), ?_⟩
      refine ⟨.is _, fun JJ hJJ ρ e3 e54 => .ofV (.indexAddrA ar132 e3 e54 (by omega) (by omega) ⟨rfl, rfl⟩), ?_⟩
      refine ⟨.is _, fun JJ hJJ ρ e55 => .ofV (.loadL 0 Tryd.underlying112 rfl e55 rfl (wcells_get l k (k - 2) _ (by omega) (by omega)) ⟨rfl, rfl⟩), ?_⟩
      refine ⟨.is _, fun JJ hJJ ρ e52 => .ofV (.assign e52 ⟨rfl, rfl⟩), ?_⟩
      refine ⟨.is _, fun JJ hJJ ρ e56 => .ofV (.assign e56 ⟨rfl, rfl⟩), ?_⟩
      intro J2 hJ2 
      refine .nil (.seq (.region rfl ?_))
      refine .v (.move rfl (.x (.lendIs rfl rfl (fun J _ _ => rotate_fun J _ 7 (by decide) (by decide)) (.v (.move rfl (.x (.lendIs rfl rfl (fun J _ _ => rotate_fun J _ 18 (by decide) (by decide)) (.v (.xor32 rfl rfl (.v (.move rfl ?_)))))))))))
      refine .v (.shr32 3 rfl rfl rfl (by decide) (.v (.xor32 rfl rfl (.v (.assign rfl ?_)))))
      refine .nil (.seq (.region rfl ?_))
      refine .v (.move rfl (.x (.lendIs rfl rfl (fun J _ _ => rotate_fun J _ 17 (by decide) (by decide)) (.v (.move rfl (.x (.lendIs rfl rfl (fun J _ _ => rotate_fun J _ 19 (by decide) (by decide)) (.v (.xor32 rfl rfl (.v (.move rfl ?_)))))))))))
      refine .v (.shr32 10 rfl rfl rfl (by decide) (.v (.xor32 rfl rfl (.v (.assign rfl ?_)))))
      refine .nil ?_
      refine .draw (by kernel_rfl) 15 [[], [], [], [(75, 2)], [(76, 3)], [(77, 4)], [(74, 1), (78, 5)], [], [(79, 6), (80, 7)], [], [(82, 9)], [(83, 10)], [(84, 11)], [(81, 8), (85, 12)], [(73, 0)]] rfl (by kernel_rfl) rfl ?_
      refine ⟨.is _, fun JJ hJJ ρ e4 => .ofV (.move e4 ⟨rfl, rfl⟩), ?_⟩
      refine ⟨.is _, fun JJ hJJ ρ e8 => .ofV (.move e8 ⟨rfl, rfl⟩), ?_⟩
      refine ⟨.is _, fun JJ hJJ ρ e4 => .ofV (.move e4 ⟨rfl, rfl⟩), ?_⟩
      refine ⟨.is _, fun JJ hJJ ρ e75 => .ofV (.sub e75 rfl (by omega) (by omega) ⟨rfl, rfl⟩), ?_⟩
      refine ⟨.is _, fun JJ hJJ ρ e3 e76 => .ofV (.indexAddrA ar132 e3 e76 (by omega) (by omega) ⟨rfl, rfl⟩), ?_⟩
      refine ⟨.is _, fun JJ hJJ ρ e77 => .ofV (.loadL 0 Tryd.underlying112 rfl e77 rfl (wcells_get l k (k - 7) _ (by omega) (by omega)) ⟨rfl, rfl⟩), ?_⟩
      refine ⟨.is _, fun JJ hJJ ρ e74 e78 => .ofV (.add32 e74 e78 ⟨rfl, rfl⟩), ?_⟩
      refine ⟨.is _, fun JJ hJJ ρ e7 => .ofV (.move e7 ⟨rfl, rfl⟩), ?_⟩
      refine ⟨.is _, fun JJ hJJ ρ e79 e80 => .ofV (.add32 e79 e80 ⟨rfl, rfl⟩), ?_⟩
      refine ⟨.is _, fun JJ hJJ ρ e4 => .ofV (.move e4 ⟨rfl, rfl⟩), ?_⟩
      refine ⟨.is _, fun JJ hJJ ρ e82 => .ofV (.sub e82 rfl (by omega) (by omega) ⟨rfl, rfl⟩), ?_⟩
      refine ⟨.is _, fun JJ hJJ ρ e3 e83 => .ofV (.indexAddrA ar132 e3 e83 (by omega) (by omega) ⟨rfl, rfl⟩), ?_⟩
      refine ⟨.is _, fun JJ hJJ ρ e84 => .ofV (.loadL 0 Tryd.underlying112 rfl e84 rfl (wcells_get l k (k - 16) _ (by omega) (by omega)) ⟨rfl, rfl⟩), ?_⟩
      refine ⟨.is _, fun JJ hJJ ρ e81 e85 => .ofV (.add32 e81 e85 ⟨rfl, rfl⟩), ?_⟩
      refine ⟨.is _, fun JJ hJJ ρ e3 e73 => .ofV (.indexAddrA ar132 e3 e73 (by omega) (by omega) ⟨rfl, rfl⟩), ?_⟩
      intro J3 hJ3 
      have hset := wcells_set l k (0 + (k : Int).toNat * 1) (by simp) hk64
      refine .n (.storeS 0 sz112 rfl rfl rfl rfl rfl (by rw [wcells_length l k hk]; simp; omega) (.nil ?_))
      refine .region rfl ?_
      refine .v (.add rfl rfl (by omega) (by omega) (.v (.move rfl ?_)))
      refine .nil ⟨k + 1, .cons rfl (.cons rfl (.cons rfl (.cons rfl (.nil _)))), ?_, by omega, by omega, hJ.trans (hJ2.trans hJ3)⟩
      simp only [next, if_neg hk16] at hset
      exact congrArg (fun c => [[(b3, row c 132)], [(b2, row (List.replicate 64 (u32 0)) 132)]]) hset
  · have : k = 64 := by omega
    subst this
    refine .seq (.region rfl ?_)
    refine .v (.loadLW 0 Tryd.underlying132 rfl ?_ rfl rfl ?_)
    · rw [wcells_length l 64 (by omega)]; exact sz132
    refine .n (.storeW 1 64 sz132 rfl rfl (wcells_length l 64 (by omega)) (ones_map _ _ fun _ => rfl) rfl rfl (.nil (.ret ⟨_, .r1 rfl (.cellA 1 Tryd.underlying132 rfl ?_ rfl rfl), ?_⟩)))
    · rw [wcells_length l 64 (by omega)]; exact sz132
    · rw [wcells_all]
end Go.Proofs.YtiekhjbhlekaeaaDoor
