/- The walks of the reference's digest. -/
import Derived.Test.YtiekhjbhlekaeaaDoorRef
set_option maxRecDepth 1000000
set_option linter.unusedVariables false
namespace Go.Proofs.YtiekhjbhlekaeaaDoor
open Go.Fl Go.Sha
theorem Eight_fun (I : Im) (n : UInt64) : Fun Tryd.prog 62 #[u64 n] I (fun v J => Sl J 1 v 8 (bytesV (be64 n 8))) := by
  refine Fun.intro (l := [u64 n]) Tryd.func62 rfl (by kernel_rfl) 18 rfl rfl [(0, u64 n)] rfl fun C hC => ?_
  refine .seq (.region rfl (.v (.assign rfl (.nil ?_))))
  refine .seq (.region rfl (.v (.assign rfl (.nil ?_))))
  refine .seq (.seq (.region rfl (.pad ?_)))
  refine .v (.assign rfl ?_)
  refine .nil (.block (.loop (α := Nat × Value × List (Nat × Obj)) (fun x => [(4, i64 (56 - 8 * (x.1 : Int))), (3, x.2.1), (0, u64 n)])
    (fun k => [k.2.2]) (fun k J => k.1 ≤ 8 ∧ Own 5 1 k.2.1 k.1 (bytesV (be64 n k.1)) k.2.2) (fun k => 8 - k.1) (0, .slice none 0 0, []) ⟨by simp, Own.nil _ _⟩
    (.cons rfl (.cons rfl (.cons rfl (.nil _)))) rfl fun x2 J2 hJ2 hF => ?_))
  obtain ⟨k, v2, X2⟩ := x2
  obtain ⟨hk, hown2⟩ := hF
  dsimp only at hk hown2 ⊢
  refine .seq (.seq (.region rfl ?_))
  refine .v (.move rfl (.v (.geq rfl rfl ?_)))
  refine .nil (.condP rfl (fun hge => .skip ?_) (fun hlt => .exit ?_))
  · have hk8 : k < 8 := by omega
    refine .seq (.block (.region rfl ?_))
    refine .v (.move rfl (.v (.move rfl (.v (.move rfl (.v (.conv64 Tryd.underlying3 Tryd.underlying119 rfl (.v (.shr64 (56 - 8 * k) rfl rfl (be64_sh k hk8) (by omega) (.v (.conv64_8 Tryd.underlying90 Tryd.underlying5 rfl ?_)))))))))))
    generalize hq : (n >>> UInt64.ofNat (56 - 8 * k)).toUInt8 = q
    refine .x (.buildSlice (n := 1) (zs := [u8 0]) (vs := [u8 q]) (pv := [(0, u8 q)]) el23.und el23.size z5 rfl rfl rfl rfl (by decide) fun b34 => ?_)
    refine .s (.append 1 el23 (by decide) (.inl ⟨_, Tryd.underlying23⟩) rfl rfl rfl hown2 (.chunk 0 rfl rfl) rfl (by unfold maxLen; omega) (by omega) fun v' X' hown' => ?_)
    refine .v (.assign rfl ?_)
    refine .forget (X := [_]) (.nil (.region rfl ?_))
    refine .v (.move rfl (.v (.sub rfl rfl (by omega) (by omega) (.v (.assign rfl ?_)))))
    refine .nil ⟨(k + 1, v', X'), .cons ?_ (.cons rfl (.cons rfl (.nil _))), rfl, ⟨by dsimp only; omega, ?_⟩, by dsimp only; omega, hJ2⟩
    · exact congrArg (fun q => some (i64 q)) (by dsimp only; omega)
    · have e1 : bytesV (be64 n k) ++ [u8 q] = bytesV (be64 n (k + 1)) := by rw [be64_succ, hq]; simp [bytesV]
      rw [e1] at hown'
      exact hown'
  · have hk2 : k = 8 := by omega
    subst hk2
    refine .seq (.region rfl ?_)
    refine .v (.move rfl (.v (.assign rfl ?_)))
    exact .nil (.freeze 0 rfl (fun p _ hM => by rw [hC] at hM; cases hM) fun J hJ hp => .ret ⟨_, .r1 rfl (.tmp rfl), hown2.sl hp⟩)
theorem cut64 {J : Im} {v' : Value} {m : List UInt8} {k : Nat} (h : Sl J 1 v' (64 * k + 64 - 64 * k) (((bytesV m).take ((64 * k + 64) * 1)).drop (64 * k * 1))) : Sl J 1 v' 64 (bytesV ((m.drop (64 * k)).take 64)) := by
  have e1 : 64 * k + 64 - 64 * k = 64 := by omega
  have e2 : ((bytesV m).take ((64 * k + 64) * 1)).drop (64 * k * 1) = bytesV ((m.drop (64 * k)).take 64) := by
    simp only [Nat.mul_one, bytesV, ← List.map_take, ← List.map_drop, List.drop_take]
    rw [e1]
  rw [e1, e2] at h
  exact h
theorem Sha_fun (I : Im) (b : Value) (bs : List UInt8) (hb : Sl I 1 b bs.length (bytesV bs)) (hlen : bs.length ≤ 17592186044416) :
    Fun Tryd.prog 84 #[b] I (fun v J => v = .agg (bytesV (refSha bs)).toArray) := by
  obtain ⟨a1, c1, rfl, _, _⟩ := id hb.shape
  generalize hbv : Value.slice a1 bs.length c1 = b at *
  refine Fun.intro (l := [b]) Tryd.func84 rfl (by kernel_rfl) 59 rfl rfl [(0, b)] rfl fun C hC => ?_
  refine .seq (.region rfl (.x (.alloc z28 fun b2 => .nil ?_)))
  refine .seq (.region rfl (.x (.buildSlice (n := 0) (zs := [u8 0]) (vs := []) (pv := []) el23.und el23.size z5 rfl rfl rfl rfl (by decide) fun b8 => ?_)))
  refine .v (.move rfl ?_)
  have hown0 : Own 5 1 (slc b8 0 0 0) 0 [] [(b8, row [] 5)] := Own.made rfl (by decide)
  refine .s (.append 0 el23 (by decide) (.inl ⟨_, Tryd.underlying23⟩) rfl rfl rfl hown0 (.sl hb) (ones_map _ _ fun _ => rfl) (by unfold maxLen; omega) (by omega) fun v0 X0 hown0' => ?_)
  refine .x (.buildSlice (n := 1) (zs := [u8 0]) (vs := [u8 128]) (pv := [(0, u8 128)]) el23.und el23.size z5 rfl rfl rfl rfl (by decide) fun b11 => ?_)
  refine .s (.append 1 el23 (by decide) (.inl ⟨_, Tryd.underlying23⟩) rfl rfl rfl hown0' (.chunk 0 rfl rfl) rfl (by unfold maxLen; omega) (by omega) fun v1 X1 hown1 => ?_)
  refine .v (.assign rfl ?_)
  have hz := padZ_lt bs.length
  have hzd : padZ bs.length = (119 - bs.length % 64) % 64 := rfl
  refine .forget (X := [_]) (.nil (.seq (.block (.loop (α := Nat × Value × List (Nat × Obj)) (fun x => [(3, x.2.1), (0, b), (2, ptr b2 0)])
    (fun k => [k.2.2, [(b2, row (List.replicate 32 (u8 0)) 28)]])
    (fun k J => k.1 ≤ padZ bs.length ∧ Own 5 1 k.2.1 (bs.length + 1 + k.1) (bytesV (bs ++ 128 :: List.replicate k.1 0)) k.2.2) (fun k => padZ bs.length - k.1) (0, v1, X1) ⟨by simp, by simpa [bytesV] using hown1⟩
    (.cons rfl (.cons rfl (.cons rfl (.nil _)))) rfl fun x1 J1 hJ1 hF => ?_))))
  obtain ⟨k, v, X⟩ := x1
  obtain ⟨hk, hown⟩ := hF
  dsimp only at hk hown ⊢
  obtain ⟨a3, c3, rfl⟩ := id hown.shape
  generalize hvv : Value.slice a3 (bs.length + 1 + k) c3 = v at *
  refine .seq (.seq (.region rfl ?_))
  refine .v (.move rfl (.v (.len (a0 := a3) (n := bs.length + 1 + k) (c := c3) Tryd.underlying23 (by rw [hvv]; rfl) (.v (.rem rfl rfl (by omega) (by omega) (.v (.neqI rfl rfl ?_)))))))
  refine .nil (.condP rfl (fun hne => .skip ?_) (fun heq => .exit ?_))
  · have hk2 : k < padZ bs.length := by
      rcases Nat.lt_or_ge k (padZ bs.length) with h | h
      · exact h
      · exact absurd (show ((bs.length + 1 + k : Nat) : Int) % 64 = 56 by omega) hne
    refine .block (.region rfl ?_)
    refine .v (.move rfl ?_)
    refine .x (.buildSlice (n := 1) (zs := [u8 0]) (vs := [u8 0]) (pv := [(0, u8 0)]) el23.und el23.size z5 rfl rfl rfl rfl (by decide) fun b19 => ?_)
    refine .s (.append 1 el23 (by decide) (.inl ⟨_, Tryd.underlying23⟩) rfl rfl rfl hown (.chunk 0 rfl rfl) rfl (by unfold maxLen; omega) (by omega) fun v' X' hown' => ?_)
    refine .v (.assign rfl ?_)
    refine .forget (X := [_]) (.nil ⟨(k + 1, v', X'), .cons rfl (.cons rfl (.cons rfl (.nil _))), rfl, ⟨by dsimp only; omega, ?_⟩, by dsimp only; omega, hJ1⟩)
    have e1 : bytesV (bs ++ 128 :: List.replicate k 0) ++ [u8 0] = bytesV (bs ++ 128 :: List.replicate (k + 1) 0) := by simp [bytesV, List.replicate_succ']
    rw [e1] at hown'
    exact hown'
  · have hk2 : k = padZ bs.length := by
      have : ((bs.length + 1 + k : Nat) : Int) % 64 = 56 := by
        by_cases h : ((bs.length + 1 + k : Nat) : Int) % 64 = 56
        · exact h
        · exact absurd h heq
      omega
    subst hk2
    refine .seq (.region rfl ?_)
    refine .v (.move rfl (.v (.move rfl (.v (.len (a0 := a1) (n := bs.length) (c := c1) Tryd.underlying23 (by rw [hbv]; rfl) (.v (.conv64 Tryd.underlying3 Tryd.underlying90 rfl (.v (.mul64 (n := 8) rfl rfl ?_)))))))))
    generalize hn : UInt64.ofInt (bs.length : Int) * 8 = n
    refine .x (.call rfl rfl (Eight_fun J1 n) fun v5 J2 hJ2 h5 => ?_)
    refine .s (.append 0 el23 (by decide) (.inl ⟨_, Tryd.underlying23⟩) rfl rfl rfl hown (.sl h5) (ones_map _ _ fun _ => rfl) (by unfold maxLen; omega) (by omega) fun v6 X6 hown6 => ?_)
    refine .v (.assign rfl ?_)
    have hm0 : bytesV (bs ++ 128 :: List.replicate (padZ bs.length) 0) ++ bytesV (be64 n 8) = bytesV (refM bs) := by
      rw [refM, hn]; simp [bytesV, pad]
    have hml : (refM bs).length = bs.length + 1 + padZ bs.length + 8 := by simp [refM, pad_length]; omega
    rw [hm0, ← hml] at hown6
    have hsha : refSha bs = (feed iv (refM bs) ((refM bs).length / 64)).l.flatMap be32 := rfl
    generalize refM bs = m at hown6 hml hsha
    refine .nil (.seq (.region rfl (.x (.lendIs rfl rfl (fun J _ _ => Initial_fun J) (.x (.alloc z113 fun b4 => ?_))))))
    refine .n (.storeW 0 8 sz113 rfl rfl rfl rfl rfl rfl (.nil ?_))
    refine .freeze 1 rfl (fun p _ hM => by rw [hC] at hM; cases hM) fun J3 hJ3 hp3 => ?_
    have hm : Sl J3 1 v6 m.length (bytesV m) := hown6.sl hp3
    obtain ⟨a6, c6, rfl, _, _⟩ := id hm.shape
    generalize hvv6 : Value.slice a6 m.length c6 = v6 at *
    refine .seq (.seq (.region rfl ?_))
    refine .v (.assign rfl ?_)
    refine .nil (.block (.loop (α := Nat) (fun k => [(5, i64 (64 * (k : Int))), (3, v6), (4, ptr b4 0), (2, ptr b2 0)])
      (fun k => [[(b4, row (feed iv m k).cells 113)], [], [(b2, row (List.replicate 32 (u8 0)) 28)]])
      (fun k _ => 64 * k ≤ m.length) (fun k => m.length - 64 * k) 0 (by omega)
      (.cons rfl (.cons rfl (.cons rfl (.cons rfl (.nil _))))) rfl fun k J4 hJ4 hk => ?_))
    refine .seq (.seq (.region rfl ?_))
    refine .v (.move rfl (.v (.move rfl (.v (.len (a0 := a6) (n := m.length) (c := c6) Tryd.underlying23 (by rw [hvv6]; rfl) (.v (.lss rfl rfl ?_)))))))
    refine .nil (.condP rfl (fun hlt => .skip ?_) (fun hge => .exit ?_))
    · have hk64 : 64 * k + 64 ≤ m.length := by omega
      generalize hX : feed iv m k = Y
      refine .seq (.block ?_)
      refine .draw (by kernel_rfl) 7 [[], [], [], [], [(37, 3)], [(35, 1), (36, 2), (38, 4)], [(34, 0), (39, 5)]] rfl (by kernel_rfl) rfl ?_
      refine ⟨.is _, fun JJ hJJ ρ e4 => .ofV (.loadLW (cs := Y.cells) 0 Tryd.underlying113 rfl sz113 e4 rfl ⟨rfl, rfl⟩), ?_⟩
      refine ⟨.is _, fun JJ hJJ ρ e3 => .ofV (.move e3 ⟨rfl, rfl⟩), ?_⟩
      refine ⟨.is _, fun JJ hJJ ρ e5 => .ofV (.move e5 ⟨rfl, rfl⟩), ?_⟩
      refine ⟨.is _, fun JJ hJJ ρ e5 => .ofV (.move e5 ⟨rfl, rfl⟩), ?_⟩
      refine ⟨.is _, fun JJ hJJ ρ e37 => .ofV (.add e37 rfl (by omega) (by omega) ⟨rfl, rfl⟩), ?_⟩
      refine ⟨.val (fun v J => Sl J 1 v 64 (bytesV ((m.drop (64 * k)).take 64))) (fun _ _ _ h hle => h.mono hle), fun JJ hJJ ρ e35 e36 e38 => .ofV (.slice (l := 64 * k) (h := 64 * k + 64) el23.und el23.size e35 (hm.mono (hJ4.trans hJJ)) (.inr ⟨_, _, rfl, e36.trans (congrArg (fun q => some (i64 q)) (by omega))⟩) (.inr ⟨_, _, rfl, e38.trans (congrArg (fun q => some (i64 q)) (by omega))⟩) (by omega) (by omega) fun v' hv' => ⟨rfl, cut64 hv'⟩), ?_⟩
      refine ⟨.is _, fun JJ hJJ ρ e34 v39 e39 q39 => .lendIs rfl (evL2 e34 e39) (fun J hJ hL => Block_fun J Y _ (by simp; omega) v39 (q39.mono hJ)) ⟨rfl, rfl⟩, ?_⟩
      intro J5 hJ5 v39 q39
      refine .n (.storeW 0 8 sz113 rfl rfl rfl rfl rfl rfl (.nil ?_))
      refine .region rfl ?_
      refine .v (.move rfl (.v (.add rfl rfl (by omega) (by omega) (.v (.assign rfl ?_)))))
      refine .nil ⟨k + 1, .cons ?_ (.cons rfl (.cons rfl (.cons rfl (.nil _)))), ?_, by omega, by omega, hJ4.trans hJ5⟩
      · exact congrArg (fun q => some (i64 q)) (by omega)
      · subst hX
        rfl
    have hkm : m.length / 64 = k := by omega
    rw [hkm] at hsha
    generalize hY : feed iv m k = Y at hsha ⊢
    have hDl : (Y.l.flatMap be32).length = 32 := by rw [flat_length, H8.length]
    refine .seq (.region rfl (.x (.alloc z28 fun b6 => .nil ?_)))
    refine .seq (.seq (.region rfl ?_))
    refine .v (.assign rfl ?_)
    refine .nil (.block (.loop (α := Nat) (fun k => [(7, i64 k), (6, ptr b6 0), (4, ptr b4 0), (2, ptr b2 0)])
      (fun k => [[(b6, row (outb (Y.l.flatMap be32) k) 28)], [(b4, row Y.cells 113)], [], [(b2, row (List.replicate 32 (u8 0)) 28)]])
      (fun k _ => k ≤ 32) (fun k => 32 - k) 0 (by omega)
      (.cons rfl (.cons rfl (.cons rfl (.cons rfl (.nil _))))) rfl fun i J5 hJ5 hi => ?_))
    refine .seq (.seq (.region rfl ?_))
    refine .v (.move rfl (.v (.lss rfl rfl ?_)))
    refine .nil (.condP rfl (fun hlt => .skip ?_) (fun hge => .exit ?_))
    · have hi32 : i < 32 := by omega
      refine .seq (.block (.region rfl ?_))
      refine .v (.move rfl (.v (.move rfl (.v (.quo rfl rfl (by omega) (by omega) (by omega) (.v (.indexAddrA ar113 rfl rfl (by omega) (by omega) (.v (.loadL 1 Tryd.underlying112 rfl rfl rfl (cells_get Y (i / 4) _ (by omega) (by omega)) (.v (.move rfl ?_)))))))))))
      refine .v (.rem rfl rfl (by omega) (by omega) (.v (.mul rfl rfl (by omega) (by omega) (.v (.sub rfl rfl (by omega) (by omega) (.v (.conv64 Tryd.underlying3 Tryd.underlying119 rfl (.v (.shr32 (24 - 8 * (i % 4)) rfl rfl (sh_24 i) (by omega) (.v (.conv32_8 Tryd.underlying112 Tryd.underlying5 rfl ?_)))))))))))
      refine .v (.indexAddrA ar28 rfl rfl (by omega) (by omega) ?_)
      have hset := outb_set (Y.l.flatMap be32) i (0 + (i : Int).toNat * 1) _ (by simp) hi32 hDl (flat_at Y i hi32)
      refine .n (.storeS 0 sz5 rfl rfl rfl rfl rfl (by rw [outb_length _ i hDl hi]; simp; omega) (.nil ?_))
      refine .region rfl ?_
      refine .v (.move rfl (.v (.add rfl rfl (by omega) (by omega) (.v (.assign rfl ?_)))))
      refine .nil ⟨i + 1, .cons rfl (.cons rfl (.cons rfl (.cons rfl (.nil _)))), ?_, by omega, by omega, hJ5⟩
      exact congrArg (fun c => [[(b6, row c 28)], [(b4, row Y.cells 113)], [], [(b2, row (List.replicate 32 (u8 0)) 28)]]) hset
    have hi32 : i = 32 := by omega
    subst hi32
    have ho : outb (Y.l.flatMap be32) 32 = bytesV (Y.l.flatMap be32) := by
      rw [outb, List.take_of_length_le (by omega)]; simp
    have hol := outb_length (Y.l.flatMap be32) 32 hDl (Nat.le_refl _)
    refine .seq (.region rfl ?_)
    refine .v (.loadLW (cs := outb (Y.l.flatMap be32) 32) 0 Tryd.underlying28 rfl (by rw [hol]; exact sz28) rfl rfl ?_)
    refine .n (.storeW 3 32 sz28 rfl rfl hol (ones_map _ _ fun _ => rfl) rfl rfl (.nil (.ret ⟨_, .r1 rfl (.cellA (cs := outb (Y.l.flatMap be32) 32) 3 Tryd.underlying28 rfl (by rw [hol]; exact sz28) rfl rfl), ?_⟩)))
    rw [ho, hsha]
end Go.Proofs.YtiekhjbhlekaeaaDoor
