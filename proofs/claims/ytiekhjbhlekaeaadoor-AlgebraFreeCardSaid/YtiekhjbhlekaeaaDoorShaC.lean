/- The walk of sha.change. -/
import Derived.Test.YtiekhjbhlekaeaaDoorShaW
set_option maxRecDepth 1000000
set_option linter.unusedVariables false
namespace Go.Proofs.YtiekhjbhlekaeaaDoor
open Go.Fl Go.Sha
theorem change_fun (I : Im) (x : H8) (l : List UInt8) (hl : l.length = 64) (s : Value) (hs : Sl I 1 s 64 (bytesV l)) (hkk : Cells I 1 0 (kk.map u32)) :
    Fun Tryd.prog 106 #[x.v, s] I (fun v J => v = (compress x l).v) := by
  have hw : (wl l 64).length = 64 := wl_length l 64
  have hsch := fun J h => schedule_fun J l hl s (hs.mono (J := J) h)
  unfold compress
  generalize wl l 64 = ws at hw hsch ⊢
  refine Fun.intro (l := [x.v, s]) Tryd.func106 rfl (by kernel_rfl) 115 rfl rfl [(0, x.v), (1, s)] rfl fun C hC => ?_
  refine .seq (.region rfl (.x (.box (cs := x.cells) rfl rfl fun b2 => .x (.alloc z113 fun b4 => .nil ?_))))
  refine .seq ?_
  refine .drawLate (by kernel_rfl) 5 [[], [(19, 0)], [], [], []] [2] rfl (by kernel_rfl) rfl ?_
  refine ⟨.is _, fun JJ hJJ ρ e1 => .ofV (.move e1 ⟨rfl, rfl⟩), ?_⟩
  refine ⟨.is _, fun JJ hJJ ρ e19 => .lendIs rfl (evL1 e19) (fun J hJ hL => hsch J (hJJ.trans hJ)) ⟨rfl, rfl⟩, ?_⟩
  refine ⟨.is _, fun JJ hJJ ρ e2 => .ofV (.loadLW (cs := x.cells) 1 Tryd.underlying113 rfl sz113 e2 rfl ⟨rfl, rfl⟩), ?_⟩
  refine ⟨.new _, fun JJ hJJ ρ  => .alloc z132 fun b => ⟨b, rfl, rfl⟩, ?_⟩
  refine ⟨.new _, fun JJ hJJ ρ  => .alloc z113 fun b => ⟨b, rfl, rfl⟩, ?_⟩
  refine ⟨rfl, fun J1 hJ1 b5 b6 => ?_⟩
  refine .storeW 1 64 sz132 rfl rfl (by simp [hw]) (ones_map _ _ fun _ => rfl) rfl rfl ⟨Le.refl _, fun JJ hJJ ρ e2 => .ofV (.loadLW (cs := x.cells) 3 Tryd.underlying113 rfl sz113 e2 rfl ⟨rfl, rfl⟩), fun JK hJK  => ?_⟩
  refine .n (.storeW 0 8 sz113 rfl rfl rfl rfl rfl rfl (.nil ?_))
  refine .seq (.seq (.region rfl ?_))
  refine .v (.move rfl ?_)
  refine .nil (.block (.loop (α := Nat) (fun k => [(22, i64 k), (2, ptr b2 0), (4, ptr b4 0), (5, ptr b5 0), (6, ptr b6 0)])
    (fun k => [[(b6, row (rounds ws x k).cells 113)], [(b5, row (ws.map u32) 132)], [(b4, row (List.replicate 8 (u32 0)) 113)], [(b2, row x.cells 113)]]) (fun k _ => k ≤ 64) (fun k => 64 - k) 0 (by omega)
    (.cons rfl (.cons rfl (.cons rfl (.cons rfl (.cons rfl (.nil _)))))) rfl fun k J hJ hk => ?_))
  refine .seq (.region rfl ?_)
  refine .v (.lss rfl rfl ?_)
  refine .nil (.seq (.condP rfl (fun hlt => .skip ?_) (fun hge => .exit ?_)))
  · have hk64 : k < 64 := by omega
    refine .seq (.block (.seq (.region rfl ?_)))
    refine .v (.move rfl (.v (.assign rfl ?_)))
    refine .nil (.seq ?_)
    generalize hX : rounds ws x k = X
    refine .draw (by kernel_rfl) 24 [[], [(25, 0)], [], [(27, 2)], [], [(29, 4)], [], [(31, 6)], [], [(33, 8)], [], [(35, 10)], [], [(37, 12)], [], [(39, 14)], [(26, 1)], [(28, 3)], [(30, 5)], [(32, 7)], [(34, 9)], [(36, 11)], [(38, 13)], [(40, 15)]] rfl (by kernel_rfl) rfl ?_
    refine ⟨.is _, fun JJ hJJ ρ e6 => .ofV (.indexAddrA ar113 e6 rfl (by omega) (by omega) ⟨rfl, rfl⟩), ?_⟩
    refine ⟨.is _, fun JJ hJJ ρ e25 => .ofV (.loadL 0 Tryd.underlying112 rfl e25 rfl (v := u32 X.a) rfl ⟨rfl, rfl⟩), ?_⟩
    refine ⟨.is _, fun JJ hJJ ρ e6 => .ofV (.indexAddrA ar113 e6 rfl (by omega) (by omega) ⟨rfl, rfl⟩), ?_⟩
    refine ⟨.is _, fun JJ hJJ ρ e27 => .ofV (.loadL 0 Tryd.underlying112 rfl e27 rfl (v := u32 X.b) rfl ⟨rfl, rfl⟩), ?_⟩
    refine ⟨.is _, fun JJ hJJ ρ e6 => .ofV (.indexAddrA ar113 e6 rfl (by omega) (by omega) ⟨rfl, rfl⟩), ?_⟩
    refine ⟨.is _, fun JJ hJJ ρ e29 => .ofV (.loadL 0 Tryd.underlying112 rfl e29 rfl (v := u32 X.c) rfl ⟨rfl, rfl⟩), ?_⟩
    refine ⟨.is _, fun JJ hJJ ρ e6 => .ofV (.indexAddrA ar113 e6 rfl (by omega) (by omega) ⟨rfl, rfl⟩), ?_⟩
    refine ⟨.is _, fun JJ hJJ ρ e31 => .ofV (.loadL 0 Tryd.underlying112 rfl e31 rfl (v := u32 X.d) rfl ⟨rfl, rfl⟩), ?_⟩
    refine ⟨.is _, fun JJ hJJ ρ e6 => .ofV (.indexAddrA ar113 e6 rfl (by omega) (by omega) ⟨rfl, rfl⟩), ?_⟩
    refine ⟨.is _, fun JJ hJJ ρ e33 => .ofV (.loadL 0 Tryd.underlying112 rfl e33 rfl (v := u32 X.e) rfl ⟨rfl, rfl⟩), ?_⟩
    refine ⟨.is _, fun JJ hJJ ρ e6 => .ofV (.indexAddrA ar113 e6 rfl (by omega) (by omega) ⟨rfl, rfl⟩), ?_⟩
    refine ⟨.is _, fun JJ hJJ ρ e35 => .ofV (.loadL 0 Tryd.underlying112 rfl e35 rfl (v := u32 X.f) rfl ⟨rfl, rfl⟩), ?_⟩
    refine ⟨.is _, fun JJ hJJ ρ e6 => .ofV (.indexAddrA ar113 e6 rfl (by omega) (by omega) ⟨rfl, rfl⟩), ?_⟩
    refine ⟨.is _, fun JJ hJJ ρ e37 => .ofV (.loadL 0 Tryd.underlying112 rfl e37 rfl (v := u32 X.g) rfl ⟨rfl, rfl⟩), ?_⟩
    refine ⟨.is _, fun JJ hJJ ρ e6 => .ofV (.indexAddrA ar113 e6 rfl (by omega) (by omega) ⟨rfl, rfl⟩), ?_⟩
    refine ⟨.is _, fun JJ hJJ ρ e39 => .ofV (.loadL 0 Tryd.underlying112 rfl e39 rfl (v := u32 X.h) rfl ⟨rfl, rfl⟩), ?_⟩
    refine ⟨.is _, fun JJ hJJ ρ e26 => .ofV (.assign e26 ⟨rfl, rfl⟩), ?_⟩
    refine ⟨.is _, fun JJ hJJ ρ e28 => .ofV (.assign e28 ⟨rfl, rfl⟩), ?_⟩
    refine ⟨.is _, fun JJ hJJ ρ e30 => .ofV (.assign e30 ⟨rfl, rfl⟩), ?_⟩
    refine ⟨.is _, fun JJ hJJ ρ e32 => .ofV (.assign e32 ⟨rfl, rfl⟩), ?_⟩
    refine ⟨.is _, fun JJ hJJ ρ e34 => .ofV (.assign e34 ⟨rfl, rfl⟩), ?_⟩
    refine ⟨.is _, fun JJ hJJ ρ e36 => .ofV (.assign e36 ⟨rfl, rfl⟩), ?_⟩
    refine ⟨.is _, fun JJ hJJ ρ e38 => .ofV (.assign e38 ⟨rfl, rfl⟩), ?_⟩
    refine ⟨.is _, fun JJ hJJ ρ e40 => .ofV (.assign e40 ⟨rfl, rfl⟩), ?_⟩
    intro J2 hJ2 
    refine .nil (.seq ?_)
    refine .draw (by kernel_rfl) 28 [[], [], [(42, 1)], [], [(44, 3)], [(43, 2), (45, 4)], [], [(47, 6)], [(46, 5), (48, 7)], [(41, 0), (49, 8)], [], [], [(51, 10), (52, 11)], [], [(54, 13)], [], [(55, 14), (56, 15)], [(53, 12), (57, 16)], [(50, 9), (58, 17)], [], [(60, 19)], [(61, 20)], [(59, 18), (62, 21)], [], [(64, 23)], [(65, 24)], [(63, 22), (66, 25)], [(67, 26)]] rfl (by kernel_rfl) rfl ?_
    refine ⟨.is _, fun JJ hJJ ρ e15 => .ofV (.move e15 ⟨rfl, rfl⟩), ?_⟩
    refine ⟨.is _, fun JJ hJJ ρ e12 => .ofV (.move e12 ⟨rfl, rfl⟩), ?_⟩
    refine ⟨.is _, fun JJ hJJ ρ e42 => .lendIs rfl (evL2 e42 rfl) (fun J hJ hL => rotate_fun J _ 6 (by decide) (by decide)) ⟨rfl, rfl⟩, ?_⟩
    refine ⟨.is _, fun JJ hJJ ρ e12 => .ofV (.move e12 ⟨rfl, rfl⟩), ?_⟩
    refine ⟨.is _, fun JJ hJJ ρ e44 => .lendIs rfl (evL2 e44 rfl) (fun J hJ hL => rotate_fun J _ 11 (by decide) (by decide)) ⟨rfl, rfl⟩, ?_⟩
    refine ⟨.is _, fun JJ hJJ ρ e43 e45 => .ofV (.xor32 e43 e45 ⟨rfl, rfl⟩), ?_⟩
    refine ⟨.is _, fun JJ hJJ ρ e12 => .ofV (.move e12 ⟨rfl, rfl⟩), ?_⟩
    refine ⟨.is _, fun JJ hJJ ρ e47 => .lendIs rfl (evL2 e47 rfl) (fun J hJ hL => rotate_fun J _ 25 (by decide) (by decide)) ⟨rfl, rfl⟩, ?_⟩
    refine ⟨.is _, fun JJ hJJ ρ e46 e48 => .ofV (.xor32 e46 e48 ⟨rfl, rfl⟩), ?_⟩
    refine ⟨.is _, fun JJ hJJ ρ e41 e49 => .ofV (.add32 e41 e49 ⟨rfl, rfl⟩), ?_⟩
    refine ⟨.is _, fun JJ hJJ ρ e12 => .ofV (.move e12 ⟨rfl, rfl⟩), ?_⟩
    refine ⟨.is _, fun JJ hJJ ρ e13 => .ofV (.move e13 ⟨rfl, rfl⟩), ?_⟩
    refine ⟨.is _, fun JJ hJJ ρ e51 e52 => .ofV (.and32 e51 e52 ⟨rfl, rfl⟩), ?_⟩
    refine ⟨.is _, fun JJ hJJ ρ e12 => .ofV (.move e12 ⟨rfl, rfl⟩), ?_⟩
    refine ⟨.is _, fun JJ hJJ ρ e54 => .ofV (.not32 e54 ⟨rfl, rfl⟩), ?_⟩
    refine ⟨.is _, fun JJ hJJ ρ e14 => .ofV (.move e14 ⟨rfl, rfl⟩), ?_⟩
    refine ⟨.is _, fun JJ hJJ ρ e55 e56 => .ofV (.and32 e55 e56 ⟨rfl, rfl⟩), ?_⟩
    refine ⟨.is _, fun JJ hJJ ρ e53 e57 => .ofV (.xor32 e53 e57 ⟨rfl, rfl⟩), ?_⟩
    refine ⟨.is _, fun JJ hJJ ρ e50 e58 => .ofV (.add32 e50 e58 ⟨rfl, rfl⟩), ?_⟩
    refine ⟨.is _, fun JJ hJJ ρ e7 => .ofV (.move e7 ⟨rfl, rfl⟩), ?_⟩
    refine ⟨.is _, fun JJ hJJ ρ e60 => .ofV (.indexAddrA ar132 rfl e60 (by omega) (by omega) ⟨rfl, rfl⟩), ?_⟩
    refine ⟨.is _, fun JJ hJJ ρ e61 => .ofV (.loadC Tryd.underlying112 rfl e61 (hkk.mono (hJ1.trans (hJK.trans (hJ.trans (hJ2.trans hJJ))))) rfl (get32 kk k _ (by simp) hk64) ⟨rfl, rfl⟩), ?_⟩
    refine ⟨.is _, fun JJ hJJ ρ e59 e62 => .ofV (.add32 e59 e62 ⟨rfl, rfl⟩), ?_⟩
    refine ⟨.is _, fun JJ hJJ ρ e7 => .ofV (.move e7 ⟨rfl, rfl⟩), ?_⟩
    refine ⟨.is _, fun JJ hJJ ρ e5 e64 => .ofV (.indexAddrA ar132 e5 e64 (by omega) (by omega) ⟨rfl, rfl⟩), ?_⟩
    refine ⟨.is _, fun JJ hJJ ρ e65 => .ofV (.loadL 1 Tryd.underlying112 rfl e65 rfl (get32 ws k _ (by simp) (by omega)) ⟨rfl, rfl⟩), ?_⟩
    refine ⟨.is _, fun JJ hJJ ρ e63 e66 => .ofV (.add32 e63 e66 ⟨rfl, rfl⟩), ?_⟩
    refine ⟨.is _, fun JJ hJJ ρ e67 => .ofV (.assign e67 ⟨rfl, rfl⟩), ?_⟩
    intro J3 hJ3 
    refine .nil (.seq (.region rfl ?_))
    refine .v (.move rfl (.x (.lendIs rfl rfl (fun J hJ hL => rotate_fun J _ 2 (by decide) (by decide)) (.v (.move rfl (.x (.lendIs rfl rfl (fun J hJ hL => rotate_fun J _ 13 (by decide) (by decide)) (.v (.xor32 rfl rfl (.v (.move rfl ?_)))))))))))
    refine .x (.lendIs rfl rfl (fun J hJ hL => rotate_fun J _ 22 (by decide) (by decide)) (.v (.xor32 rfl rfl (.v (.move rfl (.v (.move rfl (.v (.and32 rfl rfl (.v (.move rfl ?_)))))))))))
    refine .v (.move rfl (.v (.and32 rfl rfl (.v (.xor32 rfl rfl (.v (.move rfl (.v (.move rfl (.v (.and32 rfl rfl ?_)))))))))))
    refine .v (.xor32 rfl rfl (.v (.add32 rfl rfl (.v (.assign rfl ?_)))))
    refine .nil (.region rfl ?_)
    refine .v (.move rfl (.v (.move rfl (.v (.add32 rfl rfl (.v (.move rfl (.v (.move rfl (.v (.move rfl ?_)))))))))))
    refine .v (.move rfl (.v (.move rfl (.v (.add32 rfl rfl (.v (.move rfl (.v (.move rfl (.v (.move rfl ?_)))))))))))
    refine .v (.buildA ar113 z113 rfl rfl rfl rfl ?_)
    refine .n (.storeW 0 8 sz113 rfl rfl rfl rfl rfl rfl (.nil ?_))
    refine .region rfl ?_
    refine .v (.add rfl rfl (by omega) (by omega) (.v (.move rfl ?_)))
    refine .nil ⟨k + 1, .cons rfl (.cons rfl (.cons rfl (.cons rfl (.cons rfl (.nil _))))), ?_, by omega, by omega, hJ.trans (hJ2.trans hJ3)⟩
    subst hX
    rfl
  · have : k = 64 := by omega
    subst this
    generalize rounds ws x 64 = v
    refine .seq (.seq (.region rfl ?_))
    refine .v (.move rfl ?_)
    refine .nil (.block (.loop (α := Nat) (fun k => [(102, i64 k), (2, ptr b2 0), (4, ptr b4 0), (6, ptr b6 0)])
      (fun k => [[(b6, row (v.mix x k) 113)], [(b5, row (ws.map u32) 132)], [(b4, row (List.replicate 8 (u32 0)) 113)], [(b2, row x.cells 113)]]) (fun k _ => k ≤ 8) (fun k => 8 - k) 0 (by omega)
      (.cons rfl (.cons rfl (.cons rfl (.cons rfl (.nil _))))) rfl fun k J2 hJ2 hk => ?_))
    refine .seq (.region rfl ?_)
    refine .v (.lss rfl rfl ?_)
    refine .nil (.seq (.condP rfl (fun hlt => .skip ?_) (fun hge => .exit ?_)))
    · have hk8 : k < 8 := by omega
      refine .seq (.block (.seq (.region rfl ?_)))
      refine .v (.move rfl (.v (.assign rfl ?_)))
      refine .nil ?_
      refine .draw (by kernel_rfl) 8 [[], [(105, 0)], [(106, 1)], [], [(108, 3)], [(109, 4)], [(107, 2), (110, 5)], [(105, 0)]] rfl (by kernel_rfl) rfl ?_
      refine ⟨.is _, fun JJ hJJ ρ e18 => .ofV (.move e18 ⟨rfl, rfl⟩), ?_⟩
      refine ⟨.is _, fun JJ hJJ ρ e6 e105 => .ofV (.indexAddrA ar113 e6 e105 (by omega) (by omega) ⟨rfl, rfl⟩), ?_⟩
      refine ⟨.is _, fun JJ hJJ ρ e106 => .ofV (.loadL 0 Tryd.underlying112 rfl e106 rfl (mix_get v x k _ (by simp) hk8) ⟨rfl, rfl⟩), ?_⟩
      refine ⟨.is _, fun JJ hJJ ρ e18 => .ofV (.move e18 ⟨rfl, rfl⟩), ?_⟩
      refine ⟨.is _, fun JJ hJJ ρ e2 e108 => .ofV (.indexAddrA ar113 e2 e108 (by omega) (by omega) ⟨rfl, rfl⟩), ?_⟩
      refine ⟨.is _, fun JJ hJJ ρ e109 => .ofV (.loadL 3 Tryd.underlying112 rfl e109 rfl (cells_get x k _ (by simp) hk8) ⟨rfl, rfl⟩), ?_⟩
      refine ⟨.is _, fun JJ hJJ ρ e107 e110 => .ofV (.add32 e107 e110 ⟨rfl, rfl⟩), ?_⟩
      refine ⟨.is _, fun JJ hJJ ρ e6 e105 => .ofV (.indexAddrA ar113 e6 e105 (by omega) (by omega) ⟨rfl, rfl⟩), ?_⟩
      intro J3 hJ3 
      have hset := mix_set v x k (0 + (k : Int).toNat * 1) (by simp) hk8
      refine .n (.storeS 0 sz112 rfl rfl rfl rfl rfl (by rw [mix_length v x k hk]; simp; omega) (.nil ?_))
      refine .region rfl ?_
      refine .v (.add rfl rfl (by omega) (by omega) (.v (.move rfl ?_)))
      refine .nil ⟨k + 1, .cons rfl (.cons rfl (.cons rfl (.cons rfl (.nil _)))), ?_, by omega, by omega, hJ2.trans hJ3⟩
      exact congrArg (fun c => [[(b6, row c 113)], [(b5, row (ws.map u32) 132)], [(b4, row (List.replicate 8 (u32 0)) 113)], [(b2, row x.cells 113)]]) hset
    · have : k = 8 := by omega
      subst this
      refine .seq (.region rfl ?_)
      refine .v (.loadLW (cs := (v.add x).cells) 0 Tryd.underlying113 rfl sz113 rfl rfl ?_)
      refine .n (.storeW 2 8 sz113 rfl rfl rfl rfl rfl rfl (.nil (.ret ⟨_, .r1 rfl (.cellA (cs := (v.add x).cells) 2 Tryd.underlying113 rfl sz113 rfl rfl), rfl⟩)))
end Go.Proofs.YtiekhjbhlekaeaaDoor
