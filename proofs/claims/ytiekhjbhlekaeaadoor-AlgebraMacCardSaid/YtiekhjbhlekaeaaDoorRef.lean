/- The walks of the reference's hash. -/
import Derived.Test.YtiekhjbhlekaeaaDoorShaE
set_option maxRecDepth 1000000
set_option linter.unusedVariables false
namespace Go.Proofs.YtiekhjbhlekaeaaDoor
open Go.Fl Go.Sha
theorem rot_t2 (n : Nat) (h1 : n < 32) : (32 : UInt64) - UInt64.ofNat n = UInt64.ofNat (32 - n) := by
  have : ∀ n : Fin 32, (32 : UInt64) - UInt64.ofNat n.val = UInt64.ofNat (32 - n.val) := by decide +kernel
  exact this ⟨n, h1⟩
theorem rotated_fun (I : Im) (x : UInt32) (n : Nat) (h0 : 0 < n) (h1 : n < 32) :
    Fun Tryd.prog 111 #[u32 x, u64 (UInt64.ofNat n)] I (fun v J => v = u32 (rotr x n)) := by
  refine Fun.intro (l := [u32 x, u64 (UInt64.ofNat n)]) Tryd.func111 rfl (by kernel_rfl) 13 rfl rfl [(0, u32 x), (1, u64 (UInt64.ofNat n))] rfl fun C hC => ?_
  refine .seq (.region rfl (.v (.assign rfl (.nil ?_))))
  refine .seq (.region rfl ?_)
  refine .v (.move rfl (.v (.move rfl (.v (.shr32 n rfl rfl (by rw [rot_u n (by omega)]) h1 (.v (.move rfl (.v (.move rfl (.v (.sub64 (m := 32) rfl rfl ?_)))))))))))
  rw [rot_t2 n h1]
  refine .v (.shl32 (32 - n) rfl rfl (by rw [rot_u _ (by omega)]) (by omega) (.v (.or32 rfl rfl (.v (.assign rfl ?_)))))
  exact .nil (.ret ⟨_, .r1 rfl (.tmp rfl), rfl⟩)
set_option maxRecDepth 10000 in
theorem constants_fun (I : Im) : Fun Tryd.prog 112 #[] I (fun v J => v = .agg (kk.map u32).toArray) := by
  refine Fun.intro (l := []) Tryd.func112 rfl (by kernel_rfl) 2 rfl rfl [] rfl fun C hC => ?_
  refine .seq (.region rfl (.x (.alloc z132 fun b => .nil ?_)))
  refine .seq (.region rfl (.v (.buildA (vs := kk.map u32) ar132 z132 rfl rfl rfl rfl ?_)))
  exact .n (.storeW 0 64 sz132 rfl rfl rfl (ones_map _ _ fun _ => rfl) rfl rfl (.nil (.ret ⟨_, .r1 rfl (.cellA (cs := kk.map u32) 0 Tryd.underlying132 rfl sz132 rfl rfl), rfl⟩)))
theorem Initial_fun (I : Im) : Fun Tryd.prog 103 #[] I (fun v J => v = iv.v) := by
  refine Fun.intro (l := []) Tryd.func103 rfl (by kernel_rfl) 2 rfl rfl [] rfl fun C hC => ?_
  refine .seq (.region rfl (.x (.alloc z113 fun b => .nil ?_)))
  refine .seq (.region rfl (.v (.buildA (vs := iv.cells) ar113 z113 rfl rfl rfl rfl ?_)))
  exact .n (.storeW 0 8 sz113 rfl rfl rfl rfl rfl rfl (.nil (.ret ⟨_, .r1 rfl (.cellA (cs := iv.cells) 0 Tryd.underlying113 rfl sz113 rfl rfl), rfl⟩)))
theorem H8.add_comm (x y : H8) : x.add y = y.add x := by simp [H8.add, UInt32.add_comm]
theorem Block_fun (I : Im) (x : H8) (l : List UInt8) (hl : l.length = 64) (s : Value) (hs : Sl I 1 s 64 (bytesV l)) :
    Fun Tryd.prog 104 #[x.v, s] I (fun v J => v = (compress x l).v) := by
  obtain ⟨bb, oo, cc, rfl, hc, h1, h2⟩ := hs.open (by intro e; have := congrArg List.length e; simp [bytesV, hl] at this)
  refine Fun.intro (l := [x.v, slc bb oo 64 cc]) Tryd.func104 rfl (by kernel_rfl) 202 rfl rfl [(0, x.v), (1, slc bb oo 64 cc)] rfl fun C hC => ?_
  refine .seq (.region rfl (.x (.box (cs := x.cells) rfl rfl fun b2 => .x (.alloc z113 fun b4 => .nil ?_))))
  refine .seq (.region rfl (.x (.alloc z132 fun b5 => .nil ?_)))
  refine .seq (.seq (.region rfl ?_))
  refine .v (.assign rfl ?_)
  refine .nil (.block (.loop (α := Nat) (fun k => [(6, i64 k), (1, slc bb oo 64 cc), (2, ptr b2 0), (4, ptr b4 0), (5, ptr b5 0)])
    (fun k => [[(b5, row (wcells l k) 132)], [(b4, row (List.replicate 8 (u32 0)) 113)], [(b2, row x.cells 113)]]) (fun k _ => k ≤ 16) (fun k => 16 - k) 0 (by omega)
    (.cons rfl (.cons rfl (.cons rfl (.cons rfl (.cons rfl (.nil _)))))) (by rw [wcells_zero]; rfl) fun k J hJ hk => ?_))
  have hcJ := hc.mono hJ
  refine .seq (.seq (.region rfl ?_))
  refine .v (.move rfl (.v (.lss rfl rfl ?_)))
  refine .nil (.condP rfl (fun hlt => .skip ?_) (fun hge => .exit ?_))
  · have hk16 : k < 16 := by omega
    refine .seq (.block ?_)
    refine .draw (by kernel_rfl) 35 [[], [], [], [(28, 2)], [(27, 1), (29, 3)], [(30, 4)], [(31, 5)], [(32, 6)], [], [], [(35, 9)], [(36, 10)], [(34, 8), (37, 11)], [(38, 12)], [(39, 13)], [(40, 14)], [(33, 7), (41, 15)], [], [], [(44, 18)], [(45, 19)], [(43, 17), (46, 20)], [(47, 21)], [(48, 22)], [(49, 23)], [(42, 16), (50, 24)], [], [], [(53, 27)], [(54, 28)], [(52, 26), (55, 29)], [(56, 30)], [(57, 31)], [(51, 25), (58, 32)], [(26, 0)]] rfl (by kernel_rfl) rfl ?_
    refine ⟨.is _, fun JJ hJJ ρ e6 => .ofV (.move e6 ⟨rfl, rfl⟩), ?_⟩
    refine ⟨.is _, fun JJ hJJ ρ e1 => .ofV (.move e1 ⟨rfl, rfl⟩), ?_⟩
    refine ⟨.is _, fun JJ hJJ ρ e6 => .ofV (.move e6 ⟨rfl, rfl⟩), ?_⟩
    refine ⟨.is _, fun JJ hJJ ρ e28 => .ofV (.mul rfl e28 (by omega) (by omega) ⟨rfl, rfl⟩), ?_⟩
    refine ⟨.is _, fun JJ hJJ ρ e27 e29 => .ofV (.indexAddrS el23.und el23.size e27 e29 (by omega) (by omega) ⟨rfl, rfl⟩), ?_⟩
    refine ⟨.is _, fun JJ hJJ ρ e30 => .ofV (.loadC Tryd.underlying5 rfl e30 (hcJ.mono hJJ) rfl (getB l (4 * k) _ (by omega) (by omega)) ⟨rfl, rfl⟩), ?_⟩
    refine ⟨.is _, fun JJ hJJ ρ e31 => .ofV (.conv8_32 Tryd.underlying5 Tryd.underlying112 e31 ⟨rfl, rfl⟩), ?_⟩
    refine ⟨.is _, fun JJ hJJ ρ e32 => .ofV (.shl32 24 e32 rfl rfl (by decide) ⟨rfl, rfl⟩), ?_⟩
    refine ⟨.is _, fun JJ hJJ ρ e1 => .ofV (.move e1 ⟨rfl, rfl⟩), ?_⟩
    refine ⟨.is _, fun JJ hJJ ρ e6 => .ofV (.move e6 ⟨rfl, rfl⟩), ?_⟩
    refine ⟨.is _, fun JJ hJJ ρ e35 => .ofV (.mul rfl e35 (by omega) (by omega) ⟨rfl, rfl⟩), ?_⟩
    refine ⟨.is _, fun JJ hJJ ρ e36 => .ofV (.add e36 rfl (by omega) (by omega) ⟨rfl, rfl⟩), ?_⟩
    refine ⟨.is _, fun JJ hJJ ρ e34 e37 => .ofV (.indexAddrS el23.und el23.size e34 e37 (by omega) (by omega) ⟨rfl, rfl⟩), ?_⟩
    refine ⟨.is _, fun JJ hJJ ρ e38 => .ofV (.loadC Tryd.underlying5 rfl e38 (hcJ.mono hJJ) rfl (getB l (4 * k + 1) _ (by omega) (by omega)) ⟨rfl, rfl⟩), ?_⟩
    refine ⟨.is _, fun JJ hJJ ρ e39 => .ofV (.conv8_32 Tryd.underlying5 Tryd.underlying112 e39 ⟨rfl, rfl⟩), ?_⟩
    refine ⟨.is _, fun JJ hJJ ρ e40 => .ofV (.shl32 16 e40 rfl rfl (by decide) ⟨rfl, rfl⟩), ?_⟩
    refine ⟨.is _, fun JJ hJJ ρ e33 e41 => .ofV (.or32 e33 e41 ⟨rfl, rfl⟩), ?_⟩
    refine ⟨.is _, fun JJ hJJ ρ e1 => .ofV (.move e1 ⟨rfl, rfl⟩), ?_⟩
    refine ⟨.is _, fun JJ hJJ ρ e6 => .ofV (.move e6 ⟨rfl, rfl⟩), ?_⟩
    refine ⟨.is _, fun JJ hJJ ρ e44 => .ofV (.mul rfl e44 (by omega) (by omega) ⟨rfl, rfl⟩), ?_⟩
    refine ⟨.is _, fun JJ hJJ ρ e45 => .ofV (.add e45 rfl (by omega) (by omega) ⟨rfl, rfl⟩), ?_⟩
    refine ⟨.is _, fun JJ hJJ ρ e43 e46 => .ofV (.indexAddrS el23.und el23.size e43 e46 (by omega) (by omega) ⟨rfl, rfl⟩), ?_⟩
    refine ⟨.is _, fun JJ hJJ ρ e47 => .ofV (.loadC Tryd.underlying5 rfl e47 (hcJ.mono hJJ) rfl (getB l (4 * k + 2) _ (by omega) (by omega)) ⟨rfl, rfl⟩), ?_⟩
    refine ⟨.is _, fun JJ hJJ ρ e48 => .ofV (.conv8_32 Tryd.underlying5 Tryd.underlying112 e48 ⟨rfl, rfl⟩), ?_⟩
    refine ⟨.is _, fun JJ hJJ ρ e49 => .ofV (.shl32 8 e49 rfl rfl (by decide) ⟨rfl, rfl⟩), ?_⟩
    refine ⟨.is _, fun JJ hJJ ρ e42 e50 => .ofV (.or32 e42 e50 ⟨rfl, rfl⟩), ?_⟩
    refine ⟨.is _, fun JJ hJJ ρ e1 => .ofV (.move e1 ⟨rfl, rfl⟩), ?_⟩
    refine ⟨.is _, fun JJ hJJ ρ e6 => .ofV (.move e6 ⟨rfl, rfl⟩), ?_⟩
    refine ⟨.is _, fun JJ hJJ ρ e53 => .ofV (.mul rfl e53 (by omega) (by omega) ⟨rfl, rfl⟩), ?_⟩
    refine ⟨.is _, fun JJ hJJ ρ e54 => .ofV (.add e54 rfl (by omega) (by omega) ⟨rfl, rfl⟩), ?_⟩
    refine ⟨.is _, fun JJ hJJ ρ e52 e55 => .ofV (.indexAddrS el23.und el23.size e52 e55 (by omega) (by omega) ⟨rfl, rfl⟩), ?_⟩
    refine ⟨.is _, fun JJ hJJ ρ e56 => .ofV (.loadC Tryd.underlying5 rfl e56 (hcJ.mono hJJ) rfl (getB l (4 * k + 3) _ (by omega) (by omega)) ⟨rfl, rfl⟩), ?_⟩
    refine ⟨.is _, fun JJ hJJ ρ e57 => .ofV (.conv8_32 Tryd.underlying5 Tryd.underlying112 e57 ⟨rfl, rfl⟩), ?_⟩
    refine ⟨.is _, fun JJ hJJ ρ e51 e58 => .ofV (.or32 e51 e58 ⟨rfl, rfl⟩), ?_⟩
    refine ⟨.is _, fun JJ hJJ ρ e5 e26 => .ofV (.indexAddrA ar132 e5 e26 (by omega) (by omega) ⟨rfl, rfl⟩), ?_⟩
    intro J2 hJ2 
    have hset := wcells_set l k (0 + (k : Int).toNat * 1) (by simp) (by omega)
    refine .n (.storeS 0 sz112 rfl rfl rfl rfl rfl (by rw [wcells_length l k (by omega)]; simp; omega) (.nil ?_))
    refine .region rfl ?_
    refine .v (.move rfl (.v (.add rfl rfl (by omega) (by omega) (.v (.assign rfl ?_)))))
    refine .nil ⟨k + 1, .cons rfl (.cons rfl (.cons rfl (.cons rfl (.cons rfl (.nil _))))), ?_, by omega, by omega, hJ.trans hJ2⟩
    simp only [next, if_pos hk16, beW] at hset
    exact congrArg (fun c => [[(b5, row c 132)], [(b4, row (List.replicate 8 (u32 0)) 113)], [(b2, row x.cells 113)]]) hset
  have hk16 : k = 16 := by omega
  subst hk16
  refine .seq (.seq (.region rfl ?_))
  refine .v (.assign rfl ?_)
  refine .nil (.block (.loop (α := Nat) (fun k => [(7, i64 k), (1, slc bb oo 64 cc), (2, ptr b2 0), (4, ptr b4 0), (5, ptr b5 0)])
    (fun k => [[(b5, row (wcells l k) 132)], [(b4, row (List.replicate 8 (u32 0)) 113)], [(b2, row x.cells 113)]]) (fun k _ => 16 ≤ k ∧ k ≤ 64) (fun k => 64 - k) 16 (by omega)
    (.cons rfl (.cons rfl (.cons rfl (.cons rfl (.cons rfl (.nil _)))))) rfl fun k J1 hJ1 hk => ?_))
  refine .seq (.seq (.region rfl ?_))
  refine .v (.move rfl (.v (.lss rfl rfl ?_)))
  refine .nil (.condP rfl (fun hlt => .skip ?_) (fun hge => .exit ?_))
  · have hk64 : k < 64 := by omega
    refine .seq (.block (.seq ?_))
    refine .draw (by kernel_rfl) 10 [[], [(65, 0)], [(66, 1)], [(67, 2)], [], [(69, 4)], [(70, 5)], [(71, 6)], [(68, 3)], [(72, 7)]] rfl (by kernel_rfl) rfl ?_
    refine ⟨.is _, fun JJ hJJ ρ e7 => .ofV (.move e7 ⟨rfl, rfl⟩), ?_⟩
    refine ⟨.is _, fun JJ hJJ ρ e65 => .ofV (.sub e65 rfl (by omega) (by omega) ⟨rfl, rfl⟩), ?_⟩
    refine ⟨.is _, fun JJ hJJ ρ e5 e66 => .ofV (.indexAddrA ar132 e5 e66 (by omega) (by omega) ⟨rfl, rfl⟩), ?_⟩
    refine ⟨.is _, fun JJ hJJ ρ e67 => .ofV (.loadL 0 Tryd.underlying112 rfl e67 rfl (wcells_get l k (k - 2) _ (by omega) (by omega)) ⟨rfl, rfl⟩), ?_⟩
    refine ⟨.is _, fun JJ hJJ ρ e7 => .ofV (.move e7 ⟨rfl, rfl⟩), ?_⟩
    refine ⟨.is _, fun JJ hJJ ρ e69 => .ofV (.sub e69 rfl (by omega) (by omega) ⟨rfl, rfl⟩), ?_⟩
    refine ⟨.is _, fun JJ hJJ ρ e5 e70 => .ofV (.indexAddrA ar132 e5 e70 (by omega) (by omega) ⟨rfl, rfl⟩), ?_⟩
    refine ⟨.is _, fun JJ hJJ ρ e71 => .ofV (.loadL 0 Tryd.underlying112 rfl e71 rfl (wcells_get l k (k - 15) _ (by omega) (by omega)) ⟨rfl, rfl⟩), ?_⟩
    refine ⟨.is _, fun JJ hJJ ρ e68 => .ofV (.assign e68 ⟨rfl, rfl⟩), ?_⟩
    refine ⟨.is _, fun JJ hJJ ρ e72 => .ofV (.assign e72 ⟨rfl, rfl⟩), ?_⟩
    intro J2 hJ2 
    refine .nil ?_
    refine .draw (by kernel_rfl) 29 [[], [], [(74, 1)], [], [(76, 3)], [(75, 2), (77, 4)], [], [(79, 6)], [(78, 5), (80, 7)], [], [(82, 9)], [(83, 10)], [(84, 11)], [(81, 8), (85, 12)], [], [(87, 14)], [], [(89, 16)], [(88, 15), (90, 17)], [], [(92, 19)], [(91, 18), (93, 20)], [(86, 13), (94, 21)], [], [(96, 23)], [(97, 24)], [(98, 25)], [(95, 22), (99, 26)], [(73, 0)]] rfl (by kernel_rfl) rfl ?_
    refine ⟨.is _, fun JJ hJJ ρ e7 => .ofV (.move e7 ⟨rfl, rfl⟩), ?_⟩
    refine ⟨.is _, fun JJ hJJ ρ e8 => .ofV (.move e8 ⟨rfl, rfl⟩), ?_⟩
    refine ⟨.is _, fun JJ hJJ ρ e74 => .lendIs rfl (evL2 e74 rfl) (fun J hJ hL => rotated_fun J _ 17 (by decide) (by decide)) ⟨rfl, rfl⟩, ?_⟩
    refine ⟨.is _, fun JJ hJJ ρ e8 => .ofV (.move e8 ⟨rfl, rfl⟩), ?_⟩
    refine ⟨.is _, fun JJ hJJ ρ e76 => .lendIs rfl (evL2 e76 rfl) (fun J hJ hL => rotated_fun J _ 19 (by decide) (by decide)) ⟨rfl, rfl⟩, ?_⟩
    refine ⟨.is _, fun JJ hJJ ρ e75 e77 => .ofV (.xor32 e75 e77 ⟨rfl, rfl⟩), ?_⟩
    refine ⟨.is _, fun JJ hJJ ρ e8 => .ofV (.move e8 ⟨rfl, rfl⟩), ?_⟩
    refine ⟨.is _, fun JJ hJJ ρ e79 => .ofV (.shr32 10 e79 rfl rfl (by decide) ⟨rfl, rfl⟩), ?_⟩
    refine ⟨.is _, fun JJ hJJ ρ e78 e80 => .ofV (.xor32 e78 e80 ⟨rfl, rfl⟩), ?_⟩
    refine ⟨.is _, fun JJ hJJ ρ e7 => .ofV (.move e7 ⟨rfl, rfl⟩), ?_⟩
    refine ⟨.is _, fun JJ hJJ ρ e82 => .ofV (.sub e82 rfl (by omega) (by omega) ⟨rfl, rfl⟩), ?_⟩
    refine ⟨.is _, fun JJ hJJ ρ e5 e83 => .ofV (.indexAddrA ar132 e5 e83 (by omega) (by omega) ⟨rfl, rfl⟩), ?_⟩
    refine ⟨.is _, fun JJ hJJ ρ e84 => .ofV (.loadL 0 Tryd.underlying112 rfl e84 rfl (wcells_get l k (k - 7) _ (by omega) (by omega)) ⟨rfl, rfl⟩), ?_⟩
    refine ⟨.is _, fun JJ hJJ ρ e81 e85 => .ofV (.add32 e81 e85 ⟨rfl, rfl⟩), ?_⟩
    refine ⟨.is _, fun JJ hJJ ρ e9 => .ofV (.move e9 ⟨rfl, rfl⟩), ?_⟩
    refine ⟨.is _, fun JJ hJJ ρ e87 => .lendIs rfl (evL2 e87 rfl) (fun J hJ hL => rotated_fun J _ 7 (by decide) (by decide)) ⟨rfl, rfl⟩, ?_⟩
    refine ⟨.is _, fun JJ hJJ ρ e9 => .ofV (.move e9 ⟨rfl, rfl⟩), ?_⟩
    refine ⟨.is _, fun JJ hJJ ρ e89 => .lendIs rfl (evL2 e89 rfl) (fun J hJ hL => rotated_fun J _ 18 (by decide) (by decide)) ⟨rfl, rfl⟩, ?_⟩
    refine ⟨.is _, fun JJ hJJ ρ e88 e90 => .ofV (.xor32 e88 e90 ⟨rfl, rfl⟩), ?_⟩
    refine ⟨.is _, fun JJ hJJ ρ e9 => .ofV (.move e9 ⟨rfl, rfl⟩), ?_⟩
    refine ⟨.is _, fun JJ hJJ ρ e92 => .ofV (.shr32 3 e92 rfl rfl (by decide) ⟨rfl, rfl⟩), ?_⟩
    refine ⟨.is _, fun JJ hJJ ρ e91 e93 => .ofV (.xor32 e91 e93 ⟨rfl, rfl⟩), ?_⟩
    refine ⟨.is _, fun JJ hJJ ρ e86 e94 => .ofV (.add32 e86 e94 ⟨rfl, rfl⟩), ?_⟩
    refine ⟨.is _, fun JJ hJJ ρ e7 => .ofV (.move e7 ⟨rfl, rfl⟩), ?_⟩
    refine ⟨.is _, fun JJ hJJ ρ e96 => .ofV (.sub e96 rfl (by omega) (by omega) ⟨rfl, rfl⟩), ?_⟩
    refine ⟨.is _, fun JJ hJJ ρ e5 e97 => .ofV (.indexAddrA ar132 e5 e97 (by omega) (by omega) ⟨rfl, rfl⟩), ?_⟩
    refine ⟨.is _, fun JJ hJJ ρ e98 => .ofV (.loadL 0 Tryd.underlying112 rfl e98 rfl (wcells_get l k (k - 16) _ (by omega) (by omega)) ⟨rfl, rfl⟩), ?_⟩
    refine ⟨.is _, fun JJ hJJ ρ e95 e99 => .ofV (.add32 e95 e99 ⟨rfl, rfl⟩), ?_⟩
    refine ⟨.is _, fun JJ hJJ ρ e5 e73 => .ofV (.indexAddrA ar132 e5 e73 (by omega) (by omega) ⟨rfl, rfl⟩), ?_⟩
    intro J3 hJ3 
    have hset := wcells_set l k (0 + (k : Int).toNat * 1) (by simp) hk64
    refine .n (.storeS 0 sz112 rfl rfl rfl rfl rfl (by rw [wcells_length l k (by omega)]; simp; omega) (.nil ?_))
    refine .region rfl ?_
    refine .v (.move rfl (.v (.add rfl rfl (by omega) (by omega) (.v (.assign rfl ?_)))))
    refine .nil ⟨k + 1, .cons rfl (.cons rfl (.cons rfl (.cons rfl (.cons rfl (.nil _))))), ?_, by omega, by omega, hJ1.trans (hJ2.trans hJ3)⟩
    simp only [next, if_neg (show ¬ k < 16 by omega)] at hset
    exact congrArg (fun c => [[(b5, row c 132)], [(b4, row (List.replicate 8 (u32 0)) 113)], [(b2, row x.cells 113)]]) hset
  have hk64 : k = 64 := by omega
  subst hk64
  rw [wcells_all]
  unfold compress
  have hw : (wl l 64).length = 64 := wl_length l 64
  generalize wl l 64 = ws at hw ⊢
  refine .seq (.region rfl (.x (.lendIs rfl rfl (fun J _ _ => constants_fun J) (.x (.alloc z132 fun b10 => ?_)))))
  refine .n (.storeW 0 64 sz132 rfl rfl rfl (ones_map _ _ fun _ => rfl) rfl rfl (.nil ?_))
  refine .seq (.region rfl (.v (.loadLW (cs := x.cells) 3 Tryd.underlying113 rfl sz113 rfl rfl (.x (.alloc z113 fun b11 => ?_)))))
  refine .n (.storeW 0 8 sz113 rfl rfl rfl rfl rfl rfl (.nil ?_))
  refine .seq (.seq (.region rfl ?_))
  refine .v (.assign rfl ?_)
  refine .nil (.block (.loop (α := Nat) (fun k => [(12, i64 k), (2, ptr b2 0), (4, ptr b4 0), (5, ptr b5 0), (10, ptr b10 0), (11, ptr b11 0)])
    (fun k => [[(b11, row (rounds ws x k).cells 113)], [(b10, row (kk.map u32) 132)], [(b5, row (ws.map u32) 132)], [(b4, row (List.replicate 8 (u32 0)) 113)], [(b2, row x.cells 113)]])
    (fun k _ => k ≤ 64) (fun k => 64 - k) 0 (by omega)
    (.cons rfl (.cons rfl (.cons rfl (.cons rfl (.cons rfl (.cons rfl (.nil _))))))) rfl fun k J2 hJ2 hk => ?_))
  refine .seq (.seq (.region rfl ?_))
  refine .v (.move rfl (.v (.lss rfl rfl ?_)))
  refine .nil (.condP rfl (fun hlt => .skip ?_) (fun hge => .exit ?_))
  · have hk64 : k < 64 := by omega
    refine .seq (.block (.seq ?_))
    generalize hX : rounds ws x k = X
    refine .draw (by kernel_rfl) 18 [[], [(108, 0)], [], [(110, 2)], [], [(112, 4)], [], [(114, 6)], [], [(116, 8)], [], [(118, 10)], [(109, 1)], [(111, 3)], [(113, 5)], [(115, 7)], [(117, 9)], [(119, 11)]] rfl (by kernel_rfl) rfl ?_
    refine ⟨.is _, fun JJ hJJ ρ e11 => .ofV (.indexAddrA ar113 e11 rfl (by omega) (by omega) ⟨rfl, rfl⟩), ?_⟩
    refine ⟨.is _, fun JJ hJJ ρ e108 => .ofV (.loadL 0 Tryd.underlying112 rfl e108 rfl (v := u32 X.a) rfl ⟨rfl, rfl⟩), ?_⟩
    refine ⟨.is _, fun JJ hJJ ρ e11 => .ofV (.indexAddrA ar113 e11 rfl (by omega) (by omega) ⟨rfl, rfl⟩), ?_⟩
    refine ⟨.is _, fun JJ hJJ ρ e110 => .ofV (.loadL 0 Tryd.underlying112 rfl e110 rfl (v := u32 X.b) rfl ⟨rfl, rfl⟩), ?_⟩
    refine ⟨.is _, fun JJ hJJ ρ e11 => .ofV (.indexAddrA ar113 e11 rfl (by omega) (by omega) ⟨rfl, rfl⟩), ?_⟩
    refine ⟨.is _, fun JJ hJJ ρ e112 => .ofV (.loadL 0 Tryd.underlying112 rfl e112 rfl (v := u32 X.c) rfl ⟨rfl, rfl⟩), ?_⟩
    refine ⟨.is _, fun JJ hJJ ρ e11 => .ofV (.indexAddrA ar113 e11 rfl (by omega) (by omega) ⟨rfl, rfl⟩), ?_⟩
    refine ⟨.is _, fun JJ hJJ ρ e114 => .ofV (.loadL 0 Tryd.underlying112 rfl e114 rfl (v := u32 X.e) rfl ⟨rfl, rfl⟩), ?_⟩
    refine ⟨.is _, fun JJ hJJ ρ e11 => .ofV (.indexAddrA ar113 e11 rfl (by omega) (by omega) ⟨rfl, rfl⟩), ?_⟩
    refine ⟨.is _, fun JJ hJJ ρ e116 => .ofV (.loadL 0 Tryd.underlying112 rfl e116 rfl (v := u32 X.f) rfl ⟨rfl, rfl⟩), ?_⟩
    refine ⟨.is _, fun JJ hJJ ρ e11 => .ofV (.indexAddrA ar113 e11 rfl (by omega) (by omega) ⟨rfl, rfl⟩), ?_⟩
    refine ⟨.is _, fun JJ hJJ ρ e118 => .ofV (.loadL 0 Tryd.underlying112 rfl e118 rfl (v := u32 X.g) rfl ⟨rfl, rfl⟩), ?_⟩
    refine ⟨.is _, fun JJ hJJ ρ e109 => .ofV (.assign e109 ⟨rfl, rfl⟩), ?_⟩
    refine ⟨.is _, fun JJ hJJ ρ e111 => .ofV (.assign e111 ⟨rfl, rfl⟩), ?_⟩
    refine ⟨.is _, fun JJ hJJ ρ e113 => .ofV (.assign e113 ⟨rfl, rfl⟩), ?_⟩
    refine ⟨.is _, fun JJ hJJ ρ e115 => .ofV (.assign e115 ⟨rfl, rfl⟩), ?_⟩
    refine ⟨.is _, fun JJ hJJ ρ e117 => .ofV (.assign e117 ⟨rfl, rfl⟩), ?_⟩
    refine ⟨.is _, fun JJ hJJ ρ e119 => .ofV (.assign e119 ⟨rfl, rfl⟩), ?_⟩
    intro J3 hJ3 
    refine .nil (.seq ?_)
    refine .draw (by kernel_rfl) 29 [[], [(120, 0)], [], [(122, 2)], [], [(124, 4)], [(123, 3), (125, 5)], [], [(127, 7)], [(126, 6), (128, 8)], [(121, 1), (129, 9)], [], [], [(131, 11), (132, 12)], [], [(134, 14)], [], [(135, 15), (136, 16)], [(133, 13), (137, 17)], [(130, 10), (138, 18)], [], [(140, 20)], [(141, 21)], [(139, 19), (142, 22)], [], [(144, 24)], [(145, 25)], [(143, 23), (146, 26)], [(147, 27)]] rfl (by kernel_rfl) rfl ?_
    refine ⟨.is _, fun JJ hJJ ρ e11 => .ofV (.indexAddrA ar113 e11 rfl (by omega) (by omega) ⟨rfl, rfl⟩), ?_⟩
    refine ⟨.is _, fun JJ hJJ ρ e120 => .ofV (.loadL 0 Tryd.underlying112 rfl e120 rfl (v := u32 X.h) rfl ⟨rfl, rfl⟩), ?_⟩
    refine ⟨.is _, fun JJ hJJ ρ e16 => .ofV (.move e16 ⟨rfl, rfl⟩), ?_⟩
    refine ⟨.is _, fun JJ hJJ ρ e122 => .lendIs rfl (evL2 e122 rfl) (fun J hJ hL => rotated_fun J _ 6 (by decide) (by decide)) ⟨rfl, rfl⟩, ?_⟩
    refine ⟨.is _, fun JJ hJJ ρ e16 => .ofV (.move e16 ⟨rfl, rfl⟩), ?_⟩
    refine ⟨.is _, fun JJ hJJ ρ e124 => .lendIs rfl (evL2 e124 rfl) (fun J hJ hL => rotated_fun J _ 11 (by decide) (by decide)) ⟨rfl, rfl⟩, ?_⟩
    refine ⟨.is _, fun JJ hJJ ρ e123 e125 => .ofV (.xor32 e123 e125 ⟨rfl, rfl⟩), ?_⟩
    refine ⟨.is _, fun JJ hJJ ρ e16 => .ofV (.move e16 ⟨rfl, rfl⟩), ?_⟩
    refine ⟨.is _, fun JJ hJJ ρ e127 => .lendIs rfl (evL2 e127 rfl) (fun J hJ hL => rotated_fun J _ 25 (by decide) (by decide)) ⟨rfl, rfl⟩, ?_⟩
    refine ⟨.is _, fun JJ hJJ ρ e126 e128 => .ofV (.xor32 e126 e128 ⟨rfl, rfl⟩), ?_⟩
    refine ⟨.is _, fun JJ hJJ ρ e121 e129 => .ofV (.add32 e121 e129 ⟨rfl, rfl⟩), ?_⟩
    refine ⟨.is _, fun JJ hJJ ρ e16 => .ofV (.move e16 ⟨rfl, rfl⟩), ?_⟩
    refine ⟨.is _, fun JJ hJJ ρ e17 => .ofV (.move e17 ⟨rfl, rfl⟩), ?_⟩
    refine ⟨.is _, fun JJ hJJ ρ e131 e132 => .ofV (.and32 e131 e132 ⟨rfl, rfl⟩), ?_⟩
    refine ⟨.is _, fun JJ hJJ ρ e16 => .ofV (.move e16 ⟨rfl, rfl⟩), ?_⟩
    refine ⟨.is _, fun JJ hJJ ρ e134 => .ofV (.not32 e134 ⟨rfl, rfl⟩), ?_⟩
    refine ⟨.is _, fun JJ hJJ ρ e18 => .ofV (.move e18 ⟨rfl, rfl⟩), ?_⟩
    refine ⟨.is _, fun JJ hJJ ρ e135 e136 => .ofV (.and32 e135 e136 ⟨rfl, rfl⟩), ?_⟩
    refine ⟨.is _, fun JJ hJJ ρ e133 e137 => .ofV (.xor32 e133 e137 ⟨rfl, rfl⟩), ?_⟩
    refine ⟨.is _, fun JJ hJJ ρ e130 e138 => .ofV (.add32 e130 e138 ⟨rfl, rfl⟩), ?_⟩
    refine ⟨.is _, fun JJ hJJ ρ e12 => .ofV (.move e12 ⟨rfl, rfl⟩), ?_⟩
    refine ⟨.is _, fun JJ hJJ ρ e10 e140 => .ofV (.indexAddrA ar132 e10 e140 (by omega) (by omega) ⟨rfl, rfl⟩), ?_⟩
    refine ⟨.is _, fun JJ hJJ ρ e141 => .ofV (.loadL 1 Tryd.underlying112 rfl e141 rfl (get32 kk k _ (by simp) hk64) ⟨rfl, rfl⟩), ?_⟩
    refine ⟨.is _, fun JJ hJJ ρ e139 e142 => .ofV (.add32 e139 e142 ⟨rfl, rfl⟩), ?_⟩
    refine ⟨.is _, fun JJ hJJ ρ e12 => .ofV (.move e12 ⟨rfl, rfl⟩), ?_⟩
    refine ⟨.is _, fun JJ hJJ ρ e5 e144 => .ofV (.indexAddrA ar132 e5 e144 (by omega) (by omega) ⟨rfl, rfl⟩), ?_⟩
    refine ⟨.is _, fun JJ hJJ ρ e145 => .ofV (.loadL 2 Tryd.underlying112 rfl e145 rfl (get32 ws k _ (by simp) (by omega)) ⟨rfl, rfl⟩), ?_⟩
    refine ⟨.is _, fun JJ hJJ ρ e143 e146 => .ofV (.add32 e143 e146 ⟨rfl, rfl⟩), ?_⟩
    refine ⟨.is _, fun JJ hJJ ρ e147 => .ofV (.assign e147 ⟨rfl, rfl⟩), ?_⟩
    intro J4 hJ4 
    refine .nil (.seq (.region rfl ?_))
    refine .v (.move rfl (.x (.lendIs rfl rfl (fun J hJ hL => rotated_fun J _ 2 (by decide) (by decide)) (.v (.move rfl (.x (.lendIs rfl rfl (fun J hJ hL => rotated_fun J _ 13 (by decide) (by decide)) (.v (.xor32 rfl rfl (.v (.move rfl ?_)))))))))))
    refine .x (.lendIs rfl rfl (fun J hJ hL => rotated_fun J _ 22 (by decide) (by decide)) (.v (.xor32 rfl rfl (.v (.move rfl (.v (.move rfl (.v (.and32 rfl rfl (.v (.move rfl ?_)))))))))))
    refine .v (.move rfl (.v (.and32 rfl rfl (.v (.xor32 rfl rfl (.v (.move rfl (.v (.move rfl (.v (.and32 rfl rfl ?_)))))))))))
    refine .v (.xor32 rfl rfl (.v (.add32 rfl rfl (.v (.assign rfl ?_)))))
    refine .nil (.region rfl ?_)
    refine .v (.move rfl (.v (.move rfl (.v (.add32 rfl rfl (.v (.indexAddrA ar113 rfl rfl (by omega) (by omega) (.v (.loadL 0 Tryd.underlying112 rfl rfl rfl (v := u32 X.a) rfl (.v (.indexAddrA ar113 rfl rfl (by omega) (by omega) ?_)))))))))))
    refine .v (.loadL 0 Tryd.underlying112 rfl rfl rfl (v := u32 X.b) rfl (.v (.indexAddrA ar113 rfl rfl (by omega) (by omega) (.v (.loadL 0 Tryd.underlying112 rfl rfl rfl (v := u32 X.c) rfl (.v (.indexAddrA ar113 rfl rfl (by omega) (by omega) (.v (.loadL 0 Tryd.underlying112 rfl rfl rfl (v := u32 X.d) rfl (.v (.move rfl ?_)))))))))))
    refine .v (.add32 rfl rfl (.v (.indexAddrA ar113 rfl rfl (by omega) (by omega) (.v (.loadL 0 Tryd.underlying112 rfl rfl rfl (v := u32 X.e) rfl (.v (.indexAddrA ar113 rfl rfl (by omega) (by omega) (.v (.loadL 0 Tryd.underlying112 rfl rfl rfl (v := u32 X.f) rfl (.v (.indexAddrA ar113 rfl rfl (by omega) (by omega) ?_)))))))))))
    refine .v (.loadL 0 Tryd.underlying112 rfl rfl rfl (v := u32 X.g) rfl (.v (.buildA ar113 z113 rfl rfl rfl rfl ?_)))
    refine .n (.storeW 0 8 sz113 rfl rfl rfl rfl rfl rfl (.nil ?_))
    refine .region rfl ?_
    refine .v (.move rfl (.v (.add rfl rfl (by omega) (by omega) (.v (.assign rfl ?_)))))
    refine .nil ⟨k + 1, .cons rfl (.cons rfl (.cons rfl (.cons rfl (.cons rfl (.cons rfl (.nil _)))))), ?_, by omega, by omega, hJ2.trans (hJ3.trans hJ4)⟩
    subst hX
    rfl
  have hk64 : k = 64 := by omega
  subst hk64
  generalize rounds ws x 64 = v
  refine .seq (.seq (.region rfl ?_))
  refine .v (.assign rfl ?_)
  refine .nil (.block (.loop (α := Nat) (fun k => [(21, i64 k), (2, ptr b2 0), (4, ptr b4 0), (11, ptr b11 0)])
    (fun k => [[(b11, row v.cells 113)], [(b10, row (kk.map u32) 132)], [(b5, row (ws.map u32) 132)], [(b4, row (List.replicate 8 (u32 0)) 113)], [(b2, row (x.mix v k) 113)]])
    (fun k _ => k ≤ 8) (fun k => 8 - k) 0 (by omega)
    (.cons rfl (.cons rfl (.cons rfl (.cons rfl (.nil _))))) rfl fun k J3 hJ3 hk => ?_))
  refine .seq (.seq (.region rfl ?_))
  refine .v (.move rfl (.v (.lss rfl rfl ?_)))
  refine .nil (.condP rfl (fun hlt => .skip ?_) (fun hge => .exit ?_))
  · have hk8 : k < 8 := by omega
    refine .seq (.block ?_)
    refine .draw (by kernel_rfl) 9 [[], [], [(193, 1)], [(194, 2)], [], [(196, 4)], [(197, 5)], [(195, 3), (198, 6)], [(192, 0)]] rfl (by kernel_rfl) rfl ?_
    refine ⟨.is _, fun JJ hJJ ρ e21 => .ofV (.move e21 ⟨rfl, rfl⟩), ?_⟩
    refine ⟨.is _, fun JJ hJJ ρ e21 => .ofV (.move e21 ⟨rfl, rfl⟩), ?_⟩
    refine ⟨.is _, fun JJ hJJ ρ e2 e193 => .ofV (.indexAddrA ar113 e2 e193 (by omega) (by omega) ⟨rfl, rfl⟩), ?_⟩
    refine ⟨.is _, fun JJ hJJ ρ e194 => .ofV (.loadL 4 Tryd.underlying112 rfl e194 rfl (mix_get x v k _ (by simp) hk8) ⟨rfl, rfl⟩), ?_⟩
    refine ⟨.is _, fun JJ hJJ ρ e21 => .ofV (.move e21 ⟨rfl, rfl⟩), ?_⟩
    refine ⟨.is _, fun JJ hJJ ρ e11 e196 => .ofV (.indexAddrA ar113 e11 e196 (by omega) (by omega) ⟨rfl, rfl⟩), ?_⟩
    refine ⟨.is _, fun JJ hJJ ρ e197 => .ofV (.loadL 0 Tryd.underlying112 rfl e197 rfl (cells_get v k _ (by simp) hk8) ⟨rfl, rfl⟩), ?_⟩
    refine ⟨.is _, fun JJ hJJ ρ e195 e198 => .ofV (.add32 e195 e198 ⟨rfl, rfl⟩), ?_⟩
    refine ⟨.is _, fun JJ hJJ ρ e2 e192 => .ofV (.indexAddrA ar113 e2 e192 (by omega) (by omega) ⟨rfl, rfl⟩), ?_⟩
    intro J4 hJ4 
    have hset := mix_set x v k (0 + (k : Int).toNat * 1) (by simp) hk8
    refine .n (.storeS 4 sz112 rfl rfl rfl rfl rfl (by rw [mix_length x v k hk]; simp; omega) (.nil ?_))
    refine .region rfl ?_
    refine .v (.move rfl (.v (.add rfl rfl (by omega) (by omega) (.v (.assign rfl ?_)))))
    refine .nil ⟨k + 1, .cons rfl (.cons rfl (.cons rfl (.cons rfl (.nil _)))), ?_, by omega, by omega, hJ3.trans hJ4⟩
    exact congrArg (fun c => [[(b11, row v.cells 113)], [(b10, row (kk.map u32) 132)], [(b5, row (ws.map u32) 132)], [(b4, row (List.replicate 8 (u32 0)) 113)], [(b2, row c 113)]]) hset
  have hk8 : k = 8 := by omega
  subst hk8
  refine .seq (.region rfl ?_)
  refine .v (.loadLW (cs := (x.add v).cells) 4 Tryd.underlying113 rfl sz113 rfl rfl ?_)
  refine .n (.storeW 3 8 sz113 rfl rfl rfl rfl rfl rfl (.nil (.ret ⟨_, .r1 rfl (.cellA (cs := (x.add v).cells) 3 Tryd.underlying113 rfl sz113 rfl rfl), ?_⟩)))
  rw [H8.add_comm v x]
  rfl
end Go.Proofs.YtiekhjbhlekaeaaDoor
