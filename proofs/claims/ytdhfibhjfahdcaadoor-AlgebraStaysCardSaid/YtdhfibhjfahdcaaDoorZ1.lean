/- Plain Lean over any program, and walks of this seat's functions: contracts, each proved once (part 1). -/
import Derived.Test.YtdhfibhjfahdcaaDoorZ0
import Derived.Laws.CopyRow
import Derived.Laws.IdiomStrings
set_option linter.unusedSimpArgs false
set_option maxRecDepth 1000000
set_option linter.unusedVariables false
namespace Go.Proofs.YtdhfibhjfahdcaaDoor
open Go.Fl Go.Sha
theorem Sum_fun (I : Im) (x : H8) (sv : Value) (r : List UInt8) (len : Nat) (hr : Sl I 1 sv r.length (bytesV r)) (hlen : r.length ≤ 17592186044416) (hlen2 : len ≤ 2305843009213693952) (hkk : Cells I 0 0 (kk.map u32)) :
    Fun Tryd.prog 43 #[.agg (x.cells ++ [sv, i64 (len : Int)]).toArray] I (fun v J => v = .agg (bytesV (digest x r len)).toArray) := by
  obtain ⟨a1, c1, rfl, _, _⟩ := id hr.shape
  generalize hsv : Value.slice a1 r.length c1 = sv at *
  refine Fun.intro (l := [.agg (x.cells ++ [sv, i64 (len : Int)]).toArray]) Tryd.func43 rfl (by kernel_rfl) 72 rfl rfl [(0, .agg (x.cells ++ [sv, i64 (len : Int)]).toArray)] rfl fun C hC => ?_
  refine .seq (.region rfl (.x (.box (cs := x.cells ++ [sv, i64 (len : Int)]) rfl rfl fun b1 => .x (.alloc z28 fun b2 => .nil ?_))))
  refine .seq (.region rfl (.x (.buildSlice (n := 1) (zs := [u8 0]) (vs := [u8 128]) (pv := [(0, u8 128)]) el23.und el23.size z5 rfl rfl rfl rfl (by decide) fun b9 => ?_)))
  refine .v (.assign rfl ?_)
  have hz := padZ_lt r.length
  have hzd : padZ r.length = (119 - r.length % 64) % 64 := rfl
  refine .nil (.seq (.block (.loop (α := Nat × Value × List (Nat × Obj)) (fun x => [(3, x.2.1), (1, ptr b1 0), (2, ptr b2 0)])
    (fun k => [k.2.2, [(b2, row (List.replicate 32 (u8 0)) 28)], [(b1, row (x.cells ++ [sv, i64 (len : Int)]) 84)]])
    (fun k J => k.1 ≤ padZ r.length ∧ Own 5 1 k.2.1 (1 + k.1) (bytesV (128 :: List.replicate k.1 0)) k.2.2) (fun k => padZ r.length - k.1) (0, slc b9 0 1 1, [(b9, row [u8 128] 5)]) ⟨by simp, Own.made rfl (by decide)⟩
    (.cons rfl (.cons rfl (.cons rfl (.nil _)))) rfl fun x1 J1 hJ1 hF => ?_)))
  obtain ⟨k, v, X⟩ := x1
  obtain ⟨hk, hown⟩ := hF
  dsimp only at hk hown ⊢
  obtain ⟨a3, c3, rfl⟩ := id hown.shape
  generalize hvv : Value.slice a3 (1 + k) c3 = v at *
  refine .seq (.seq (.region rfl ?_))
  refine .v (.fieldAddr fd84_1 rfl (.v (.loadL (v := sv) 2 Tryd.underlying23 rfl rfl rfl rfl (.v (.len (a0 := a1) (n := r.length) (c := c1) Tryd.underlying23 (by rw [hsv]; rfl) (.v (.move rfl (.v (.len (a0 := a3) (n := 1 + k) (c := c3) Tryd.underlying23 (by rw [hvv]; rfl) (.v (.add rfl rfl (by omega) (by omega) ?_)))))))))))
  refine .v (.rem rfl rfl (by omega) (by omega) (.v (.neqI rfl rfl ?_)))
  refine .nil (.condP rfl (fun hne => .skip ?_) (fun heq => .exit ?_))
  · have hk2 : k < padZ r.length := by
      rcases Nat.lt_or_ge k (padZ r.length) with h | h
      · exact h
      · exact absurd (show ((r.length : Int) + ((1 + k : Nat) : Int)) % 64 = 56 by omega) hne
    refine .block (.region rfl ?_)
    refine .v (.move rfl ?_)
    refine .x (.buildSlice (n := 1) (zs := [u8 0]) (vs := [u8 0]) (pv := [(0, u8 0)]) el23.und el23.size z5 rfl rfl rfl rfl (by decide) fun b19 => ?_)
    refine .s (.append 1 el23 (by decide) (.inl ⟨_, Tryd.underlying23⟩) rfl rfl rfl hown (.chunk 0 rfl rfl) rfl (by unfold maxLen; omega) (by omega) fun v' X' hown' => ?_)
    refine .v (.assign rfl ?_)
    refine .forget (X := [_]) (.nil ⟨(k + 1, v', X'), .cons rfl (.cons rfl (.cons rfl (.nil _))), rfl, ⟨by dsimp only; omega, ?_⟩, by dsimp only; omega, hJ1⟩)
    have e1 : bytesV (128 :: List.replicate k 0) ++ [u8 0] = bytesV (128 :: List.replicate (k + 1) 0) := by simp [bytesV, List.replicate_succ']
    rw [e1] at hown'
    exact hown'
  · have hk2 : k = padZ r.length := by
      have : ((r.length : Int) + ((1 + k : Nat) : Int)) % 64 = 56 := by
        by_cases h : ((r.length : Int) + ((1 + k : Nat) : Int)) % 64 = 56
        · exact h
        · exact absurd h heq
      omega
    subst hk2
    generalize hp0 : (128 :: List.replicate (padZ r.length) 0 : List UInt8) = p0 at hown
    have hp0l : p0.length = 1 + padZ r.length := by rw [← hp0]; simp; omega
    refine .seq (.region rfl ?_)
    refine .v (.fieldAddr fd84_2 rfl (.v (.loadL (v := i64 (len : Int)) 2 Tryd.underlying3 rfl rfl rfl rfl (.v (.conv64 Tryd.underlying3 Tryd.underlying69 rfl (.v (.mul64 (n := 8) rfl rfl (.v (.assign rfl ?_)))))))))
    generalize hn : UInt64.ofInt (len : Int) * 8 = n
    refine .nil (.seq (.seq (.region rfl ?_)))
    refine .v (.assign rfl ?_)
    refine .nil (.block (.loop (α := Nat × Value × List (Nat × Obj)) (fun x => [(5, i64 (56 - 8 * (x.1 : Int))), (3, x.2.1), (4, u64 n), (1, ptr b1 0), (2, ptr b2 0)])
      (fun k => [k.2.2, [(b2, row (List.replicate 32 (u8 0)) 28)], [(b1, row (x.cells ++ [sv, i64 (len : Int)]) 84)]])
      (fun k J => k.1 ≤ 8 ∧ Own 5 1 k.2.1 (1 + padZ r.length + k.1) (bytesV (p0 ++ be64 n k.1)) k.2.2) (fun k => 8 - k.1) (0, v, X) ⟨by simp, by simpa [be64] using hown⟩
      (.cons rfl (.cons rfl (.cons rfl (.cons rfl (.cons rfl (.nil _)))))) rfl fun x2 J2 hJ2 hF => ?_))
    obtain ⟨k, v2, X2⟩ := x2
    obtain ⟨hk, hown2⟩ := hF
    dsimp only at hk hown2 ⊢
    refine .seq (.seq (.region rfl ?_))
    refine .v (.move rfl (.v (.geq rfl rfl ?_)))
    refine .nil (.condP rfl (fun hge => .skip ?_) (fun hlt => .exit ?_))
    · have hk8 : k < 8 := by omega
      refine .seq (.block (.region rfl ?_))
      refine .v (.move rfl (.v (.move rfl (.v (.move rfl (.v (.shr64 (56 - 8 * k) rfl rfl (by omega) (by omega) (.v (.conv64_8 Tryd.underlying69 Tryd.underlying5 rfl ?_)))))))))
      generalize hq : (n >>> UInt64.ofNat (56 - 8 * k)).toUInt8 = q
      refine .x (.buildSlice (n := 1) (zs := [u8 0]) (vs := [u8 q]) (pv := [(0, u8 q)]) el23.und el23.size z5 rfl rfl rfl rfl (by decide) fun b34 => ?_)
      refine .s (.append 1 el23 (by decide) (.inl ⟨_, Tryd.underlying23⟩) rfl rfl rfl hown2 (.chunk 0 rfl rfl) rfl (by unfold maxLen; omega) (by omega) fun v' X' hown' => ?_)
      refine .v (.assign rfl ?_)
      refine .forget (X := [_]) (.nil (.region rfl ?_))
      refine .v (.move rfl (.v (.sub rfl rfl (by omega) (by omega) (.v (.assign rfl ?_)))))
      refine .nil ⟨(k + 1, v', X'), .cons ?_ (.cons rfl (.cons rfl (.cons rfl (.cons rfl (.nil _))))), rfl, ⟨by dsimp only; omega, ?_⟩, by dsimp only; omega, hJ2⟩
      · exact congrArg (fun q => some (i64 q)) (by dsimp only; omega)
      · have e1 : bytesV (p0 ++ be64 n k) ++ [u8 q] = bytesV (p0 ++ be64 n (k + 1)) := by rw [be64_succ, hq]; simp [bytesV]
        rw [e1] at hown'
        exact hown'
    · have hk2 : k = 8 := by omega
      subst hk2
      have hpl : (pad r.length n).length = 1 + padZ r.length + 8 := by rw [pad_length]; omega
      have hpad : p0 ++ be64 n 8 = pad r.length n := by rw [← hp0]; rfl
      refine .seq (.region rfl (.x (.alloc z28 fun b6 => .nil ?_)))
      refine .freeze 1 rfl (fun p _ hM => by rw [hC] at hM; cases hM) fun J3 hJ3 hp3 => ?_
      have hps : Sl J3 1 v2 (pad r.length n).length (bytesV (pad r.length n)) := by
        have := hown2.sl hp3
        rw [hpad] at this
        rw [hpl]; exact this
      have hI3 := hJ1.trans (hJ2.trans hJ3)
      refine .seq (.seq (.region rfl ?_))
      refine .v (.loadLW (cs := x.cells ++ [sv, i64 (len : Int)]) 3 Tryd.underlying84 rfl sz84 rfl rfl (.v (.move rfl ?_)))
      refine .x (.call rfl rfl (Write_fun J3 x sv r len v2 (pad r.length n) (hr.mono hI3) hps (by omega) (by omega) (hkk.mono hI3)) fun v4 J4 hJ4 hp4 => ?_)
      obtain ⟨sv', rfl, _⟩ := hp4
      have hy : digest x r len = (absorb x (r ++ pad r.length n)).l.flatMap be32 := by rw [← hn]; rfl
      generalize absorb x (r ++ pad r.length n) = y at hy
      refine .v (.fieldA (vs := y.cells) fd84_0 rfl rfl (.v (.move rfl ?_)))
      refine .nil (.block (.loop (α := Nat) (fun k => [(40, i64 k), (39, .agg y.cells.toArray), (6, ptr b6 0), (1, ptr b1 0), (2, ptr b2 0)])
        (fun k => [[(b6, row (outc y k) 28)], [], [(b2, row (List.replicate 32 (u8 0)) 28)], [(b1, row (x.cells ++ [sv, i64 (len : Int)]) 84)]])
        (fun k _ => k ≤ 8) (fun k => 8 - k) 0 (by omega)
        (.cons rfl (.cons rfl (.cons rfl (.cons rfl (.cons rfl (.nil _)))))) rfl fun k J5 hJ5 hk => ?_))
      refine .seq (.region rfl ?_)
      refine .v (.lss rfl rfl ?_)
      refine .nil (.seq (.condP rfl (fun hlt => .skip ?_) (fun hge => .exit ?_)))
      · have hk8 : k < 8 := by omega
        refine .seq (.block (.seq (.region rfl ?_)))
        refine .v (.move rfl (.v (.indexS ar82 rfl rfl (by omega) (by omega) (cells_get y k _ (by simp) hk8) (.v (.assign rfl (.v (.assign rfl ?_)))))))
        refine .nil (.region rfl ?_)
        refine .v (.move rfl (.v (.mul rfl rfl (by omega) (by omega) (.v (.move rfl (.v (.mul rfl rfl (by omega) (by omega) (.v (.add rfl rfl (by omega) (by omega) (.v (.move rfl ?_)))))))))))
        refine .v (.mul rfl rfl (by omega) (by omega) (.v (.add rfl rfl (by omega) (by omega) (.v (.move rfl (.v (.mul rfl rfl (by omega) (by omega) (.v (.add rfl rfl (by omega) (by omega) (.v (.move rfl ?_)))))))))))
        refine .v (.shr32 24 rfl rfl rfl (by decide) (.v (.conv32_8 Tryd.underlying81 Tryd.underlying5 rfl (.v (.move rfl (.v (.shr32 16 rfl rfl rfl (by decide) (.v (.conv32_8 Tryd.underlying81 Tryd.underlying5 rfl (.v (.move rfl ?_)))))))))))
        refine .v (.shr32 8 rfl rfl rfl (by decide) (.v (.conv32_8 Tryd.underlying81 Tryd.underlying5 rfl (.v (.move rfl (.v (.conv32_8 Tryd.underlying81 Tryd.underlying5 rfl (.v (.indexAddrA ar28 rfl rfl (by omega) (by omega) ?_)))))))))
        have hL := outc_length y k (by omega)
        refine .n (.storeS 0 sz5 rfl rfl rfl rfl rfl (by rw [hL]; omega) ?_)
        refine .v (.indexAddrA ar28 rfl rfl (by omega) (by omega) ?_)
        refine .n (.storeS 0 sz5 rfl rfl rfl rfl rfl (by rw [segSet_length _ _ _ (by rw [hL]; simp; omega), hL]; omega) ?_)
        refine .v (.indexAddrA ar28 rfl rfl (by omega) (by omega) ?_)
        refine .n (.storeS 0 sz5 rfl rfl rfl rfl rfl (by rw [segSet_length _ _ _ (by rw [segSet_length _ _ _ (by rw [hL]; simp; omega), hL]; simp; omega), segSet_length _ _ _ (by rw [hL]; simp; omega), hL]; omega) ?_)
        refine .v (.indexAddrA ar28 rfl rfl (by omega) (by omega) ?_)
        refine .n (.storeS 0 sz5 rfl rfl rfl rfl rfl (by rw [segSet_length _ _ _ (by rw [segSet_length _ _ _ (by rw [segSet_length _ _ _ (by rw [hL]; simp; omega), hL]; simp; omega), segSet_length _ _ _ (by rw [hL]; simp; omega), hL]; simp; omega), segSet_length _ _ _ (by rw [segSet_length _ _ _ (by rw [hL]; simp; omega), hL]; simp; omega), segSet_length _ _ _ (by rw [hL]; simp; omega), hL]; omega) (.nil ?_))
        have hset := outc_set y k _ _ _ _ (show 0 + (4 * (k : Int)).toNat * 1 = 4 * k by omega) (show 0 + (4 * (k : Int) + 1).toNat * 1 = 4 * k + 1 by omega) (show 0 + (4 * (k : Int) + 2).toNat * 1 = 4 * k + 2 by omega) (show 0 + (4 * (k : Int) + 3).toNat * 1 = 4 * k + 3 by omega) hk8
        refine .region rfl ?_
        refine .v (.add rfl rfl (by omega) (by omega) (.v (.move rfl ?_)))
        refine .nil ⟨k + 1, .cons rfl (.cons rfl (.cons rfl (.cons rfl (.cons rfl (.nil _))))), ?_, by omega, by omega, hJ5⟩
        exact congrArg (fun c => [[(b6, row c 28)], [], [(b2, row (List.replicate 32 (u8 0)) 28)], [(b1, row (x.cells ++ [sv, i64 (len : Int)]) 84)]]) hset
      · have hk8 : k = 8 := by omega
        subst hk8
        have hL := outc_length y 8 (by omega)
        have ho8 : outc y 8 = bytesV (y.l.flatMap be32) := by simp [outc, H8.l]
        refine .seq (.region rfl ?_)
        refine .v (.loadLW (cs := outc y 8) 0 Tryd.underlying28 rfl (by rw [hL]; exact sz28) rfl rfl ?_)
        refine .n (.storeW 2 32 sz28 rfl rfl hL (ones_map _ _ fun _ => rfl) rfl rfl (.nil (.ret ⟨_, .r1 rfl (.cellA (cs := outc y 8) 2 Tryd.underlying28 rfl (by rw [hL]; exact sz28) rfl rfl), ?_⟩)))
        rw [ho8, hy]
theorem Of_fun (I : Im) (b : Value) (bs : List UInt8) (hb : Sl I 1 b bs.length (bytesV bs)) (hlen : bs.length ≤ 17592186044416) (hkk : Cells I 0 0 (kk.map u32)) :
    Fun Tryd.prog 42 #[b] I (fun v J => v = .agg (bytesV (sha256 bs)).toArray) := by
  refine Fun.intro (l := [b]) Tryd.func42 rfl (by kernel_rfl) 7 rfl rfl [(0, b)] rfl fun C hC => ?_
  refine .seq (.region rfl (.x (.alloc z28 fun b2 => .nil ?_)))
  refine .seq (.region rfl (.x (.lendIs rfl rfl (fun J _ _ => New_fun J) ?_)))
  refine .v (.move rfl ?_)
  refine .x (.call rfl rfl (Write_fun I iv (.slice none 0 0) [] 0 b bs (Sl.nil _ _) hb (by simp; omega) (by omega) hkk) fun v J hJ hp => ?_)
  simp only [List.nil_append, Nat.zero_add] at hp
  obtain ⟨sv', rfl, hsv⟩ := hp
  have hrl : (rest bs).length ≤ bs.length := by simp [rest]
  refine .x (.lendIs rfl rfl (fun J2 hJ2 _ => Sum_fun J2 (absorb iv bs) sv' (rest bs) bs.length (hsv.mono hJ2) (by omega) (by omega) (hkk.mono (hJ.trans hJ2))) ?_)
  have hdl : (bytesV (sha256 bs)).length = 32 := by
    rw [bytesV_length, sha256, digest, flat_length, H8.length]
  refine .n (.storeW 0 32 sz28 rfl rfl hdl (ones_map _ _ fun _ => rfl) rfl rfl (.nil (.ret ⟨_, .r1 rfl (.cellA (cs := bytesV (sha256 bs)) 0 Tryd.underlying28 rfl (by rw [hdl]; exact sz28) rfl rfl), rfl⟩)))
end Go.Proofs.YtdhfibhjfahdcaaDoor
set_option maxRecDepth 1000000
set_option linter.unusedVariables false
namespace Go.Proofs.YtdhfibhjfahdcaaDoor
open Go.Fl Go.Sha
theorem rot_t2 (n : Nat) (h1 : n < 32) : (32 : UInt64) - UInt64.ofNat n = UInt64.ofNat (32 - n) := by
  have : ∀ n : Fin 32, (32 : UInt64) - UInt64.ofNat n.val = UInt64.ofNat (32 - n.val) := by decide +kernel
  exact this ⟨n, h1⟩
theorem rotated_fun (I : Im) (x : UInt32) (n : Nat) (h0 : 0 < n) (h1 : n < 32) :
    Fun Tryd.prog 58 #[u32 x, u64 (UInt64.ofNat n)] I (fun v J => v = u32 (rotr x n)) := by
  refine Fun.intro (l := [u32 x, u64 (UInt64.ofNat n)]) Tryd.func58 rfl (by kernel_rfl) 13 rfl rfl [(0, u32 x), (1, u64 (UInt64.ofNat n))] rfl fun C hC => ?_
  refine .seq (.region rfl (.v (.assign rfl (.nil ?_))))
  refine .seq (.region rfl ?_)
  refine .v (.move rfl (.v (.move rfl (.v (.shr32 n rfl rfl (by rw [rot_u n (by omega)]) h1 (.v (.move rfl (.v (.move rfl (.v (.sub64 (m := 32) rfl rfl ?_)))))))))))
  rw [rot_t2 n h1]
  refine .v (.shl32 (32 - n) rfl rfl (by rw [rot_u _ (by omega)]) (by omega) (.v (.or32 rfl rfl (.v (.assign rfl ?_)))))
  exact .nil (.ret ⟨_, .r1 rfl (.tmp rfl), rfl⟩)
set_option maxRecDepth 10000 in
theorem constants_fun (I : Im) : Fun Tryd.prog 59 #[] I (fun v J => v = .agg (kk.map u32).toArray) := by
  refine Fun.intro (l := []) Tryd.func59 rfl (by kernel_rfl) 2 rfl rfl [] rfl fun C hC => ?_
  refine .seq (.region rfl (.x (.alloc z95 fun b => .nil ?_)))
  refine .seq (.region rfl (.v (.buildA (vs := kk.map u32) ar95 z95 rfl rfl rfl rfl ?_)))
  exact .n (.storeW 0 64 sz95 rfl rfl rfl (ones_map _ _ fun _ => rfl) rfl rfl (.nil (.ret ⟨_, .r1 rfl (.cellA (cs := kk.map u32) 0 Tryd.underlying95 rfl sz95 rfl rfl), rfl⟩)))
theorem Initial_fun (I : Im) : Fun Tryd.prog 53 #[] I (fun v J => v = iv.v) := by
  refine Fun.intro (l := []) Tryd.func53 rfl (by kernel_rfl) 2 rfl rfl [] rfl fun C hC => ?_
  refine .seq (.region rfl (.x (.alloc z82 fun b => .nil ?_)))
  refine .seq (.region rfl (.v (.buildA (vs := iv.cells) ar82 z82 rfl rfl rfl rfl ?_)))
  exact .n (.storeW 0 8 sz82 rfl rfl rfl rfl rfl rfl (.nil (.ret ⟨_, .r1 rfl (.cellA (cs := iv.cells) 0 Tryd.underlying82 rfl sz82 rfl rfl), rfl⟩)))
theorem H8.add_comm (x y : H8) : x.add y = y.add x := by simp [H8.add, UInt32.add_comm]
theorem Block_fun (I : Im) (x : H8) (l : List UInt8) (hl : l.length = 64) (s : Value) (hs : Sl I 1 s 64 (bytesV l)) :
    Fun Tryd.prog 54 #[x.v, s] I (fun v J => v = (compress x l).v) := by
  obtain ⟨bb, oo, cc, rfl, hc, h1, h2⟩ := hs.open (by intro e; have := congrArg List.length e; simp [bytesV, hl] at this)
  refine Fun.intro (l := [x.v, slc bb oo 64 cc]) Tryd.func54 rfl (by kernel_rfl) 202 rfl rfl [(0, x.v), (1, slc bb oo 64 cc)] rfl fun C hC => ?_
  refine .seq (.region rfl (.x (.box (cs := x.cells) rfl rfl fun b2 => .x (.alloc z82 fun b4 => .nil ?_))))
  refine .seq (.region rfl (.x (.alloc z95 fun b5 => .nil ?_)))
  refine .seq (.seq (.region rfl ?_))
  refine .v (.assign rfl ?_)
  refine .nil (.block (.loop (α := Nat) (fun k => [(6, i64 k), (1, slc bb oo 64 cc), (2, ptr b2 0), (4, ptr b4 0), (5, ptr b5 0)])
    (fun k => [[(b5, row (wcells l k) 95)], [(b4, row (List.replicate 8 (u32 0)) 82)], [(b2, row x.cells 82)]]) (fun k _ => k ≤ 16) (fun k => 16 - k) 0 (by omega)
    (.cons rfl (.cons rfl (.cons rfl (.cons rfl (.cons rfl (.nil _)))))) (by rw [wcells_zero]; rfl) fun k J hJ hk => ?_))
  have hcJ := hc.mono hJ
  refine .seq (.seq (.region rfl ?_))
  refine .v (.move rfl (.v (.lss rfl rfl ?_)))
  refine .nil (.condP rfl (fun hlt => .skip ?_) (fun hge => .exit ?_))
  · have hk16 : k < 16 := by omega
    refine .seq (.block ?_)
    refine .draw (by kernel_rfl) 35 [[], [], [], [(28, 2)], [(27, 1), (29, 3)], [(30, 4)], [(31, 5)], [(32, 6)], [], [], [(35, 9)], [(36, 10)], [(34, 8), (37, 11)], [(38, 12)], [(39, 13)], [(40, 14)], [(33, 7), (41, 15)], [], [], [(44, 18)], [(45, 19)], [(43, 17), (46, 20)], [(47, 21)], [(48, 22)], [(49, 23)], [(42, 16), (50, 24)], [], [], [(53, 27)], [(54, 28)], [(52, 26), (55, 29)], [(56, 30)], [(57, 31)], [(51, 25), (58, 32)], [(26, 0)]] rfl (by kernel_rfl) rfl ?_
    refine ⟨.is _, fun JJ hJJ ρ e6 => .ofV (.move e6 ⟨rfl, rfl⟩), ?_⟩
    refine ⟨.is _, fun JJ hJJ ρ e1 => .ofV (.move e1 ⟨rfl, rfl⟩), ?_⟩
    refine ⟨.is _, fun JJ hJJ ρ e6 => .ofV (.move e6 ⟨rfl, rfl⟩), ?_⟩
    refine ⟨.is _, fun JJ hJJ ρ e28 => .ofV (.mul rfl e28 (by omega) (by omega) ⟨rfl, rfl⟩), ?_⟩
    refine ⟨.is _, fun JJ hJJ ρ e27 e29 => .ofV (.indexAddrS el23.und el23.size e27 e29 (by omega) (by omega) ⟨rfl, rfl⟩), ?_⟩
    refine ⟨.is _, fun JJ hJJ ρ e30 => .ofV (.loadC Tryd.underlying5 rfl e30 (hcJ.mono hJJ) rfl (getB l (4 * k) _ (by omega) (by omega)) ⟨rfl, rfl⟩), ?_⟩
    refine ⟨.is _, fun JJ hJJ ρ e31 => .ofV (.conv8_32 Tryd.underlying5 Tryd.underlying81 e31 ⟨rfl, rfl⟩), ?_⟩
    refine ⟨.is _, fun JJ hJJ ρ e32 => .ofV (.shl32 24 e32 rfl rfl (by decide) ⟨rfl, rfl⟩), ?_⟩
    refine ⟨.is _, fun JJ hJJ ρ e1 => .ofV (.move e1 ⟨rfl, rfl⟩), ?_⟩
    refine ⟨.is _, fun JJ hJJ ρ e6 => .ofV (.move e6 ⟨rfl, rfl⟩), ?_⟩
    refine ⟨.is _, fun JJ hJJ ρ e35 => .ofV (.mul rfl e35 (by omega) (by omega) ⟨rfl, rfl⟩), ?_⟩
    refine ⟨.is _, fun JJ hJJ ρ e36 => .ofV (.add e36 rfl (by omega) (by omega) ⟨rfl, rfl⟩), ?_⟩
    refine ⟨.is _, fun JJ hJJ ρ e34 e37 => .ofV (.indexAddrS el23.und el23.size e34 e37 (by omega) (by omega) ⟨rfl, rfl⟩), ?_⟩
    refine ⟨.is _, fun JJ hJJ ρ e38 => .ofV (.loadC Tryd.underlying5 rfl e38 (hcJ.mono hJJ) rfl (getB l (4 * k + 1) _ (by omega) (by omega)) ⟨rfl, rfl⟩), ?_⟩
    refine ⟨.is _, fun JJ hJJ ρ e39 => .ofV (.conv8_32 Tryd.underlying5 Tryd.underlying81 e39 ⟨rfl, rfl⟩), ?_⟩
    refine ⟨.is _, fun JJ hJJ ρ e40 => .ofV (.shl32 16 e40 rfl rfl (by decide) ⟨rfl, rfl⟩), ?_⟩
    refine ⟨.is _, fun JJ hJJ ρ e33 e41 => .ofV (.or32 e33 e41 ⟨rfl, rfl⟩), ?_⟩
    refine ⟨.is _, fun JJ hJJ ρ e1 => .ofV (.move e1 ⟨rfl, rfl⟩), ?_⟩
    refine ⟨.is _, fun JJ hJJ ρ e6 => .ofV (.move e6 ⟨rfl, rfl⟩), ?_⟩
    refine ⟨.is _, fun JJ hJJ ρ e44 => .ofV (.mul rfl e44 (by omega) (by omega) ⟨rfl, rfl⟩), ?_⟩
    refine ⟨.is _, fun JJ hJJ ρ e45 => .ofV (.add e45 rfl (by omega) (by omega) ⟨rfl, rfl⟩), ?_⟩
    refine ⟨.is _, fun JJ hJJ ρ e43 e46 => .ofV (.indexAddrS el23.und el23.size e43 e46 (by omega) (by omega) ⟨rfl, rfl⟩), ?_⟩
    refine ⟨.is _, fun JJ hJJ ρ e47 => .ofV (.loadC Tryd.underlying5 rfl e47 (hcJ.mono hJJ) rfl (getB l (4 * k + 2) _ (by omega) (by omega)) ⟨rfl, rfl⟩), ?_⟩
    refine ⟨.is _, fun JJ hJJ ρ e48 => .ofV (.conv8_32 Tryd.underlying5 Tryd.underlying81 e48 ⟨rfl, rfl⟩), ?_⟩
    refine ⟨.is _, fun JJ hJJ ρ e49 => .ofV (.shl32 8 e49 rfl rfl (by decide) ⟨rfl, rfl⟩), ?_⟩
    refine ⟨.is _, fun JJ hJJ ρ e42 e50 => .ofV (.or32 e42 e50 ⟨rfl, rfl⟩), ?_⟩
    refine ⟨.is _, fun JJ hJJ ρ e1 => .ofV (.move e1 ⟨rfl, rfl⟩), ?_⟩
    refine ⟨.is _, fun JJ hJJ ρ e6 => .ofV (.move e6 ⟨rfl, rfl⟩), ?_⟩
    refine ⟨.is _, fun JJ hJJ ρ e53 => .ofV (.mul rfl e53 (by omega) (by omega) ⟨rfl, rfl⟩), ?_⟩
    refine ⟨.is _, fun JJ hJJ ρ e54 => .ofV (.add e54 rfl (by omega) (by omega) ⟨rfl, rfl⟩), ?_⟩
    refine ⟨.is _, fun JJ hJJ ρ e52 e55 => .ofV (.indexAddrS el23.und el23.size e52 e55 (by omega) (by omega) ⟨rfl, rfl⟩), ?_⟩
    refine ⟨.is _, fun JJ hJJ ρ e56 => .ofV (.loadC Tryd.underlying5 rfl e56 (hcJ.mono hJJ) rfl (getB l (4 * k + 3) _ (by omega) (by omega)) ⟨rfl, rfl⟩), ?_⟩
    refine ⟨.is _, fun JJ hJJ ρ e57 => .ofV (.conv8_32 Tryd.underlying5 Tryd.underlying81 e57 ⟨rfl, rfl⟩), ?_⟩
    refine ⟨.is _, fun JJ hJJ ρ e51 e58 => .ofV (.or32 e51 e58 ⟨rfl, rfl⟩), ?_⟩
    refine ⟨.is _, fun JJ hJJ ρ e5 e26 => .ofV (.indexAddrA ar95 e5 e26 (by omega) (by omega) ⟨rfl, rfl⟩), ?_⟩
    intro J2 hJ2 
    have hset := wcells_set l k (0 + (k : Int).toNat * 1) (by simp) (by omega)
    refine .n (.storeS 0 sz81 rfl rfl rfl rfl rfl (by rw [wcells_length l k (by omega)]; simp; omega) (.nil ?_))
    refine .region rfl ?_
    refine .v (.move rfl (.v (.add rfl rfl (by omega) (by omega) (.v (.assign rfl ?_)))))
    refine .nil ⟨k + 1, .cons rfl (.cons rfl (.cons rfl (.cons rfl (.cons rfl (.nil _))))), ?_, by omega, by omega, hJ.trans hJ2⟩
    simp only [next, if_pos hk16, beW] at hset
    exact congrArg (fun c => [[(b5, row c 95)], [(b4, row (List.replicate 8 (u32 0)) 82)], [(b2, row x.cells 82)]]) hset
  have hk16 : k = 16 := by omega
  subst hk16
  refine .seq (.seq (.region rfl ?_))
  refine .v (.assign rfl ?_)
  refine .nil (.block (.loop (α := Nat) (fun k => [(7, i64 k), (1, slc bb oo 64 cc), (2, ptr b2 0), (4, ptr b4 0), (5, ptr b5 0)])
    (fun k => [[(b5, row (wcells l k) 95)], [(b4, row (List.replicate 8 (u32 0)) 82)], [(b2, row x.cells 82)]]) (fun k _ => 16 ≤ k ∧ k ≤ 64) (fun k => 64 - k) 16 (by omega)
    (.cons rfl (.cons rfl (.cons rfl (.cons rfl (.cons rfl (.nil _)))))) rfl fun k J1 hJ1 hk => ?_))
  refine .seq (.seq (.region rfl ?_))
  refine .v (.move rfl (.v (.lss rfl rfl ?_)))
  refine .nil (.condP rfl (fun hlt => .skip ?_) (fun hge => .exit ?_))
  · have hk64 : k < 64 := by omega
    refine .seq (.block (.seq ?_))
    refine .draw (by kernel_rfl) 10 [[], [(65, 0)], [(66, 1)], [(67, 2)], [], [(69, 4)], [(70, 5)], [(71, 6)], [(68, 3)], [(72, 7)]] rfl (by kernel_rfl) rfl ?_
    refine ⟨.is _, fun JJ hJJ ρ e7 => .ofV (.move e7 ⟨rfl, rfl⟩), ?_⟩
    refine ⟨.is _, fun JJ hJJ ρ e65 => .ofV (.sub e65 rfl (by omega) (by omega) ⟨rfl, rfl⟩), ?_⟩
    refine ⟨.is _, fun JJ hJJ ρ e5 e66 => .ofV (.indexAddrA ar95 e5 e66 (by omega) (by omega) ⟨rfl, rfl⟩), ?_⟩
    refine ⟨.is _, fun JJ hJJ ρ e67 => .ofV (.loadL 0 Tryd.underlying81 rfl e67 rfl (wcells_get l k (k - 2) _ (by omega) (by omega)) ⟨rfl, rfl⟩), ?_⟩
    refine ⟨.is _, fun JJ hJJ ρ e7 => .ofV (.move e7 ⟨rfl, rfl⟩), ?_⟩
    refine ⟨.is _, fun JJ hJJ ρ e69 => .ofV (.sub e69 rfl (by omega) (by omega) ⟨rfl, rfl⟩), ?_⟩
    refine ⟨.is _, fun JJ hJJ ρ e5 e70 => .ofV (.indexAddrA ar95 e5 e70 (by omega) (by omega) ⟨rfl, rfl⟩), ?_⟩
    refine ⟨.is _, fun JJ hJJ ρ e71 => .ofV (.loadL 0 Tryd.underlying81 rfl e71 rfl (wcells_get l k (k - 15) _ (by omega) (by omega)) ⟨rfl, rfl⟩), ?_⟩
    refine ⟨.is _, fun JJ hJJ ρ e68 => .ofV (.assign e68 ⟨rfl, rfl⟩), ?_⟩
    refine ⟨.is _, fun JJ hJJ ρ e72 => .ofV (.assign e72 ⟨rfl, rfl⟩), ?_⟩
    intro J2 hJ2 
    refine .nil ?_
    refine .draw (by kernel_rfl) 29 [[], [], [(74, 1)], [], [(76, 3)], [(75, 2), (77, 4)], [], [(79, 6)], [(78, 5), (80, 7)], [], [(82, 9)], [(83, 10)], [(84, 11)], [(81, 8), (85, 12)], [], [(87, 14)], [], [(89, 16)], [(88, 15), (90, 17)], [], [(92, 19)], [(91, 18), (93, 20)], [(86, 13), (94, 21)], [], [(96, 23)], [(97, 24)], [(98, 25)], [(95, 22), (99, 26)], [(73, 0)]] rfl (by kernel_rfl) rfl ?_
    refine ⟨.is _, fun JJ hJJ ρ e7 => .ofV (.move e7 ⟨rfl, rfl⟩), ?_⟩
    refine ⟨.is _, fun JJ hJJ ρ e8 => .ofV (.move e8 ⟨rfl, rfl⟩), ?_⟩
    refine ⟨.is _, fun JJ hJJ ρ e74 => .lendIs rfl (evL2 e74 rfl) (fun J hJ hL => rotated_fun J _ 17 (by decide) (by decide)) ⟨rfl, rfl⟩, ?_⟩
    refine ⟨.is _, fun JJ hJJ ρ e8 => .ofV (.move e8 ⟨rfl, rfl⟩), ?_⟩
    refine ⟨.is _, fun JJ hJJ ρ e76 => .lendIs rfl (evL2 e76 rfl) (fun J hJ hL => rotated_fun J _ 19 (by decide) (by decide)) ⟨rfl, rfl⟩, ?_⟩
    refine ⟨.is _, fun JJ hJJ ρ e75 e77 => .ofV (.xor32 e75 e77 ⟨rfl, rfl⟩), ?_⟩
    refine ⟨.is _, fun JJ hJJ ρ e8 => .ofV (.move e8 ⟨rfl, rfl⟩), ?_⟩
    refine ⟨.is _, fun JJ hJJ ρ e79 => .ofV (.shr32 10 e79 rfl rfl (by decide) ⟨rfl, rfl⟩), ?_⟩
    refine ⟨.is _, fun JJ hJJ ρ e78 e80 => .ofV (.xor32 e78 e80 ⟨rfl, rfl⟩), ?_⟩
    refine ⟨.is _, fun JJ hJJ ρ e7 => .ofV (.move e7 ⟨rfl, rfl⟩), ?_⟩
    refine ⟨.is _, fun JJ hJJ ρ e82 => .ofV (.sub e82 rfl (by omega) (by omega) ⟨rfl, rfl⟩), ?_⟩
    refine ⟨.is _, fun JJ hJJ ρ e5 e83 => .ofV (.indexAddrA ar95 e5 e83 (by omega) (by omega) ⟨rfl, rfl⟩), ?_⟩
    refine ⟨.is _, fun JJ hJJ ρ e84 => .ofV (.loadL 0 Tryd.underlying81 rfl e84 rfl (wcells_get l k (k - 7) _ (by omega) (by omega)) ⟨rfl, rfl⟩), ?_⟩
    refine ⟨.is _, fun JJ hJJ ρ e81 e85 => .ofV (.add32 e81 e85 ⟨rfl, rfl⟩), ?_⟩
    refine ⟨.is _, fun JJ hJJ ρ e9 => .ofV (.move e9 ⟨rfl, rfl⟩), ?_⟩
    refine ⟨.is _, fun JJ hJJ ρ e87 => .lendIs rfl (evL2 e87 rfl) (fun J hJ hL => rotated_fun J _ 7 (by decide) (by decide)) ⟨rfl, rfl⟩, ?_⟩
    refine ⟨.is _, fun JJ hJJ ρ e9 => .ofV (.move e9 ⟨rfl, rfl⟩), ?_⟩
    refine ⟨.is _, fun JJ hJJ ρ e89 => .lendIs rfl (evL2 e89 rfl) (fun J hJ hL => rotated_fun J _ 18 (by decide) (by decide)) ⟨rfl, rfl⟩, ?_⟩
    refine ⟨.is _, fun JJ hJJ ρ e88 e90 => .ofV (.xor32 e88 e90 ⟨rfl, rfl⟩), ?_⟩
    refine ⟨.is _, fun JJ hJJ ρ e9 => .ofV (.move e9 ⟨rfl, rfl⟩), ?_⟩
    refine ⟨.is _, fun JJ hJJ ρ e92 => .ofV (.shr32 3 e92 rfl rfl (by decide) ⟨rfl, rfl⟩), ?_⟩
    refine ⟨.is _, fun JJ hJJ ρ e91 e93 => .ofV (.xor32 e91 e93 ⟨rfl, rfl⟩), ?_⟩
    refine ⟨.is _, fun JJ hJJ ρ e86 e94 => .ofV (.add32 e86 e94 ⟨rfl, rfl⟩), ?_⟩
    refine ⟨.is _, fun JJ hJJ ρ e7 => .ofV (.move e7 ⟨rfl, rfl⟩), ?_⟩
    refine ⟨.is _, fun JJ hJJ ρ e96 => .ofV (.sub e96 rfl (by omega) (by omega) ⟨rfl, rfl⟩), ?_⟩
    refine ⟨.is _, fun JJ hJJ ρ e5 e97 => .ofV (.indexAddrA ar95 e5 e97 (by omega) (by omega) ⟨rfl, rfl⟩), ?_⟩
    refine ⟨.is _, fun JJ hJJ ρ e98 => .ofV (.loadL 0 Tryd.underlying81 rfl e98 rfl (wcells_get l k (k - 16) _ (by omega) (by omega)) ⟨rfl, rfl⟩), ?_⟩
    refine ⟨.is _, fun JJ hJJ ρ e95 e99 => .ofV (.add32 e95 e99 ⟨rfl, rfl⟩), ?_⟩
    refine ⟨.is _, fun JJ hJJ ρ e5 e73 => .ofV (.indexAddrA ar95 e5 e73 (by omega) (by omega) ⟨rfl, rfl⟩), ?_⟩
    intro J3 hJ3 
    have hset := wcells_set l k (0 + (k : Int).toNat * 1) (by simp) hk64
    refine .n (.storeS 0 sz81 rfl rfl rfl rfl rfl (by rw [wcells_length l k (by omega)]; simp; omega) (.nil ?_))
    refine .region rfl ?_
    refine .v (.move rfl (.v (.add rfl rfl (by omega) (by omega) (.v (.assign rfl ?_)))))
    refine .nil ⟨k + 1, .cons rfl (.cons rfl (.cons rfl (.cons rfl (.cons rfl (.nil _))))), ?_, by omega, by omega, hJ1.trans (hJ2.trans hJ3)⟩
    simp only [next, if_neg (show ¬ k < 16 by omega)] at hset
    exact congrArg (fun c => [[(b5, row c 95)], [(b4, row (List.replicate 8 (u32 0)) 82)], [(b2, row x.cells 82)]]) hset
  have hk64 : k = 64 := by omega
  subst hk64
  rw [wcells_all]
  unfold compress
  have hw : (wl l 64).length = 64 := wl_length l 64
  generalize wl l 64 = ws at hw ⊢
  refine .seq (.region rfl (.x (.lendIs rfl rfl (fun J _ _ => constants_fun J) (.x (.alloc z95 fun b10 => ?_)))))
  refine .n (.storeW 0 64 sz95 rfl rfl rfl (ones_map _ _ fun _ => rfl) rfl rfl (.nil ?_))
  refine .seq (.region rfl (.v (.loadLW (cs := x.cells) 3 Tryd.underlying82 rfl sz82 rfl rfl (.x (.alloc z82 fun b11 => ?_)))))
  refine .n (.storeW 0 8 sz82 rfl rfl rfl rfl rfl rfl (.nil ?_))
  refine .seq (.seq (.region rfl ?_))
  refine .v (.assign rfl ?_)
  refine .nil (.block (.loop (α := Nat) (fun k => [(12, i64 k), (2, ptr b2 0), (4, ptr b4 0), (5, ptr b5 0), (10, ptr b10 0), (11, ptr b11 0)])
    (fun k => [[(b11, row (rounds ws x k).cells 82)], [(b10, row (kk.map u32) 95)], [(b5, row (ws.map u32) 95)], [(b4, row (List.replicate 8 (u32 0)) 82)], [(b2, row x.cells 82)]])
    (fun k _ => k ≤ 64) (fun k => 64 - k) 0 (by omega)
    (.cons rfl (.cons rfl (.cons rfl (.cons rfl (.cons rfl (.cons rfl (.nil _))))))) rfl fun k J2 hJ2 hk => ?_))
  refine .seq (.seq (.region rfl ?_))
  refine .v (.move rfl (.v (.lss rfl rfl ?_)))
  refine .nil (.condP rfl (fun hlt => .skip ?_) (fun hge => .exit ?_))
  · have hk64 : k < 64 := by omega
    refine .seq (.block (.seq ?_))
    generalize hX : rounds ws x k = X
    refine .draw (by kernel_rfl) 18 [[], [(108, 0)], [], [(110, 2)], [], [(112, 4)], [], [(114, 6)], [], [(116, 8)], [], [(118, 10)], [(109, 1)], [(111, 3)], [(113, 5)], [(115, 7)], [(117, 9)], [(119, 11)]] rfl (by kernel_rfl) rfl ?_
    refine ⟨.is _, fun JJ hJJ ρ e11 => .ofV (.indexAddrA ar82 e11 rfl (by omega) (by omega) ⟨rfl, rfl⟩), ?_⟩
    refine ⟨.is _, fun JJ hJJ ρ e108 => .ofV (.loadL 0 Tryd.underlying81 rfl e108 rfl (v := u32 X.a) rfl ⟨rfl, rfl⟩), ?_⟩
    refine ⟨.is _, fun JJ hJJ ρ e11 => .ofV (.indexAddrA ar82 e11 rfl (by omega) (by omega) ⟨rfl, rfl⟩), ?_⟩
    refine ⟨.is _, fun JJ hJJ ρ e110 => .ofV (.loadL 0 Tryd.underlying81 rfl e110 rfl (v := u32 X.b) rfl ⟨rfl, rfl⟩), ?_⟩
    refine ⟨.is _, fun JJ hJJ ρ e11 => .ofV (.indexAddrA ar82 e11 rfl (by omega) (by omega) ⟨rfl, rfl⟩), ?_⟩
    refine ⟨.is _, fun JJ hJJ ρ e112 => .ofV (.loadL 0 Tryd.underlying81 rfl e112 rfl (v := u32 X.c) rfl ⟨rfl, rfl⟩), ?_⟩
    refine ⟨.is _, fun JJ hJJ ρ e11 => .ofV (.indexAddrA ar82 e11 rfl (by omega) (by omega) ⟨rfl, rfl⟩), ?_⟩
    refine ⟨.is _, fun JJ hJJ ρ e114 => .ofV (.loadL 0 Tryd.underlying81 rfl e114 rfl (v := u32 X.e) rfl ⟨rfl, rfl⟩), ?_⟩
    refine ⟨.is _, fun JJ hJJ ρ e11 => .ofV (.indexAddrA ar82 e11 rfl (by omega) (by omega) ⟨rfl, rfl⟩), ?_⟩
    refine ⟨.is _, fun JJ hJJ ρ e116 => .ofV (.loadL 0 Tryd.underlying81 rfl e116 rfl (v := u32 X.f) rfl ⟨rfl, rfl⟩), ?_⟩
    refine ⟨.is _, fun JJ hJJ ρ e11 => .ofV (.indexAddrA ar82 e11 rfl (by omega) (by omega) ⟨rfl, rfl⟩), ?_⟩
    refine ⟨.is _, fun JJ hJJ ρ e118 => .ofV (.loadL 0 Tryd.underlying81 rfl e118 rfl (v := u32 X.g) rfl ⟨rfl, rfl⟩), ?_⟩
    refine ⟨.is _, fun JJ hJJ ρ e109 => .ofV (.assign e109 ⟨rfl, rfl⟩), ?_⟩
    refine ⟨.is _, fun JJ hJJ ρ e111 => .ofV (.assign e111 ⟨rfl, rfl⟩), ?_⟩
    refine ⟨.is _, fun JJ hJJ ρ e113 => .ofV (.assign e113 ⟨rfl, rfl⟩), ?_⟩
    refine ⟨.is _, fun JJ hJJ ρ e115 => .ofV (.assign e115 ⟨rfl, rfl⟩), ?_⟩
    refine ⟨.is _, fun JJ hJJ ρ e117 => .ofV (.assign e117 ⟨rfl, rfl⟩), ?_⟩
    refine ⟨.is _, fun JJ hJJ ρ e119 => .ofV (.assign e119 ⟨rfl, rfl⟩), ?_⟩
    intro J3 hJ3 
    refine .nil (.seq ?_)
    refine .draw (by kernel_rfl) 29 [[], [(120, 0)], [], [(122, 2)], [], [(124, 4)], [(123, 3), (125, 5)], [], [(127, 7)], [(126, 6), (128, 8)], [(121, 1), (129, 9)], [], [], [(131, 11), (132, 12)], [], [(134, 14)], [], [(135, 15), (136, 16)], [(133, 13), (137, 17)], [(130, 10), (138, 18)], [], [(140, 20)], [(141, 21)], [(139, 19), (142, 22)], [], [(144, 24)], [(145, 25)], [(143, 23), (146, 26)], [(147, 27)]] rfl (by kernel_rfl) rfl ?_
    refine ⟨.is _, fun JJ hJJ ρ e11 => .ofV (.indexAddrA ar82 e11 rfl (by omega) (by omega) ⟨rfl, rfl⟩), ?_⟩
    refine ⟨.is _, fun JJ hJJ ρ e120 => .ofV (.loadL 0 Tryd.underlying81 rfl e120 rfl (v := u32 X.h) rfl ⟨rfl, rfl⟩), ?_⟩
    refine ⟨.is _, fun JJ hJJ ρ e16 => .ofV (.move e16 ⟨rfl, rfl⟩), ?_⟩
    refine ⟨.is _, fun JJ hJJ ρ e122 => .lendIs rfl (evL2 e122 rfl) (fun J hJ hL => rotated_fun J _ 6 (by decide) (by decide)) ⟨rfl, rfl⟩, ?_⟩
    refine ⟨.is _, fun JJ hJJ ρ e16 => .ofV (.move e16 ⟨rfl, rfl⟩), ?_⟩
    refine ⟨.is _, fun JJ hJJ ρ e124 => .lendIs rfl (evL2 e124 rfl) (fun J hJ hL => rotated_fun J _ 11 (by decide) (by decide)) ⟨rfl, rfl⟩, ?_⟩
    refine ⟨.is _, fun JJ hJJ ρ e123 e125 => .ofV (.xor32 e123 e125 ⟨rfl, rfl⟩), ?_⟩
    refine ⟨.is _, fun JJ hJJ ρ e16 => .ofV (.move e16 ⟨rfl, rfl⟩), ?_⟩
    refine ⟨.is _, fun JJ hJJ ρ e127 => .lendIs rfl (evL2 e127 rfl) (fun J hJ hL => rotated_fun J _ 25 (by decide) (by decide)) ⟨rfl, rfl⟩, ?_⟩
    refine ⟨.is _, fun JJ hJJ ρ e126 e128 => .ofV (.xor32 e126 e128 ⟨rfl, rfl⟩), ?_⟩
    refine ⟨.is _, fun JJ hJJ ρ e121 e129 => .ofV (.add32 e121 e129 ⟨rfl, rfl⟩), ?_⟩
    refine ⟨.is _, fun JJ hJJ ρ e16 => .ofV (.move e16 ⟨rfl, rfl⟩), ?_⟩
    refine ⟨.is _, fun JJ hJJ ρ e17 => .ofV (.move e17 ⟨rfl, rfl⟩), ?_⟩
    refine ⟨.is _, fun JJ hJJ ρ e131 e132 => .ofV (.and32 e131 e132 ⟨rfl, rfl⟩), ?_⟩
    refine ⟨.is _, fun JJ hJJ ρ e16 => .ofV (.move e16 ⟨rfl, rfl⟩), ?_⟩
    refine ⟨.is _, fun JJ hJJ ρ e134 => .ofV (.not32 e134 ⟨rfl, rfl⟩), ?_⟩
    refine ⟨.is _, fun JJ hJJ ρ e18 => .ofV (.move e18 ⟨rfl, rfl⟩), ?_⟩
    refine ⟨.is _, fun JJ hJJ ρ e135 e136 => .ofV (.and32 e135 e136 ⟨rfl, rfl⟩), ?_⟩
    refine ⟨.is _, fun JJ hJJ ρ e133 e137 => .ofV (.xor32 e133 e137 ⟨rfl, rfl⟩), ?_⟩
    refine ⟨.is _, fun JJ hJJ ρ e130 e138 => .ofV (.add32 e130 e138 ⟨rfl, rfl⟩), ?_⟩
    refine ⟨.is _, fun JJ hJJ ρ e12 => .ofV (.move e12 ⟨rfl, rfl⟩), ?_⟩
    refine ⟨.is _, fun JJ hJJ ρ e10 e140 => .ofV (.indexAddrA ar95 e10 e140 (by omega) (by omega) ⟨rfl, rfl⟩), ?_⟩
    refine ⟨.is _, fun JJ hJJ ρ e141 => .ofV (.loadL 1 Tryd.underlying81 rfl e141 rfl (get32 kk k _ (by simp) hk64) ⟨rfl, rfl⟩), ?_⟩
    refine ⟨.is _, fun JJ hJJ ρ e139 e142 => .ofV (.add32 e139 e142 ⟨rfl, rfl⟩), ?_⟩
    refine ⟨.is _, fun JJ hJJ ρ e12 => .ofV (.move e12 ⟨rfl, rfl⟩), ?_⟩
    refine ⟨.is _, fun JJ hJJ ρ e5 e144 => .ofV (.indexAddrA ar95 e5 e144 (by omega) (by omega) ⟨rfl, rfl⟩), ?_⟩
    refine ⟨.is _, fun JJ hJJ ρ e145 => .ofV (.loadL 2 Tryd.underlying81 rfl e145 rfl (get32 ws k _ (by simp) (by omega)) ⟨rfl, rfl⟩), ?_⟩
    refine ⟨.is _, fun JJ hJJ ρ e143 e146 => .ofV (.add32 e143 e146 ⟨rfl, rfl⟩), ?_⟩
    refine ⟨.is _, fun JJ hJJ ρ e147 => .ofV (.assign e147 ⟨rfl, rfl⟩), ?_⟩
    intro J4 hJ4 
    refine .nil (.seq (.region rfl ?_))
    refine .v (.move rfl (.x (.lendIs rfl rfl (fun J hJ hL => rotated_fun J _ 2 (by decide) (by decide)) (.v (.move rfl (.x (.lendIs rfl rfl (fun J hJ hL => rotated_fun J _ 13 (by decide) (by decide)) (.v (.xor32 rfl rfl (.v (.move rfl ?_)))))))))))
    refine .x (.lendIs rfl rfl (fun J hJ hL => rotated_fun J _ 22 (by decide) (by decide)) (.v (.xor32 rfl rfl (.v (.move rfl (.v (.move rfl (.v (.and32 rfl rfl (.v (.move rfl ?_)))))))))))
    refine .v (.move rfl (.v (.and32 rfl rfl (.v (.xor32 rfl rfl (.v (.move rfl (.v (.move rfl (.v (.and32 rfl rfl ?_)))))))))))
    refine .v (.xor32 rfl rfl (.v (.add32 rfl rfl (.v (.assign rfl ?_)))))
    refine .nil (.region rfl ?_)
    refine .v (.move rfl (.v (.move rfl (.v (.add32 rfl rfl (.v (.indexAddrA ar82 rfl rfl (by omega) (by omega) (.v (.loadL 0 Tryd.underlying81 rfl rfl rfl (v := u32 X.a) rfl (.v (.indexAddrA ar82 rfl rfl (by omega) (by omega) ?_)))))))))))
    refine .v (.loadL 0 Tryd.underlying81 rfl rfl rfl (v := u32 X.b) rfl (.v (.indexAddrA ar82 rfl rfl (by omega) (by omega) (.v (.loadL 0 Tryd.underlying81 rfl rfl rfl (v := u32 X.c) rfl (.v (.indexAddrA ar82 rfl rfl (by omega) (by omega) (.v (.loadL 0 Tryd.underlying81 rfl rfl rfl (v := u32 X.d) rfl (.v (.move rfl ?_)))))))))))
    refine .v (.add32 rfl rfl (.v (.indexAddrA ar82 rfl rfl (by omega) (by omega) (.v (.loadL 0 Tryd.underlying81 rfl rfl rfl (v := u32 X.e) rfl (.v (.indexAddrA ar82 rfl rfl (by omega) (by omega) (.v (.loadL 0 Tryd.underlying81 rfl rfl rfl (v := u32 X.f) rfl (.v (.indexAddrA ar82 rfl rfl (by omega) (by omega) ?_)))))))))))
    refine .v (.loadL 0 Tryd.underlying81 rfl rfl rfl (v := u32 X.g) rfl (.v (.buildA ar82 z82 rfl rfl rfl rfl ?_)))
    refine .n (.storeW 0 8 sz82 rfl rfl rfl rfl rfl rfl (.nil ?_))
    refine .region rfl ?_
    refine .v (.move rfl (.v (.add rfl rfl (by omega) (by omega) (.v (.assign rfl ?_)))))
    refine .nil ⟨k + 1, .cons rfl (.cons rfl (.cons rfl (.cons rfl (.cons rfl (.cons rfl (.nil _)))))), ?_, by omega, by omega, hJ2.trans (hJ3.trans hJ4)⟩
    subst hX
    rfl
  have hk64 : k = 64 := by omega
  subst hk64
  generalize rounds ws x 64 = v
  refine .seq (.seq (.region rfl ?_))
  refine .v (.assign rfl ?_)
  refine .nil (.block (.loop (α := Nat) (fun k => [(21, i64 k), (2, ptr b2 0), (4, ptr b4 0), (11, ptr b11 0)])
    (fun k => [[(b11, row v.cells 82)], [(b10, row (kk.map u32) 95)], [(b5, row (ws.map u32) 95)], [(b4, row (List.replicate 8 (u32 0)) 82)], [(b2, row (x.mix v k) 82)]])
    (fun k _ => k ≤ 8) (fun k => 8 - k) 0 (by omega)
    (.cons rfl (.cons rfl (.cons rfl (.cons rfl (.nil _))))) rfl fun k J3 hJ3 hk => ?_))
  refine .seq (.seq (.region rfl ?_))
  refine .v (.move rfl (.v (.lss rfl rfl ?_)))
  refine .nil (.condP rfl (fun hlt => .skip ?_) (fun hge => .exit ?_))
  · have hk8 : k < 8 := by omega
    refine .seq (.block ?_)
    refine .draw (by kernel_rfl) 9 [[], [], [(193, 1)], [(194, 2)], [], [(196, 4)], [(197, 5)], [(195, 3), (198, 6)], [(192, 0)]] rfl (by kernel_rfl) rfl ?_
    refine ⟨.is _, fun JJ hJJ ρ e21 => .ofV (.move e21 ⟨rfl, rfl⟩), ?_⟩
    refine ⟨.is _, fun JJ hJJ ρ e21 => .ofV (.move e21 ⟨rfl, rfl⟩), ?_⟩
    refine ⟨.is _, fun JJ hJJ ρ e2 e193 => .ofV (.indexAddrA ar82 e2 e193 (by omega) (by omega) ⟨rfl, rfl⟩), ?_⟩
    refine ⟨.is _, fun JJ hJJ ρ e194 => .ofV (.loadL 4 Tryd.underlying81 rfl e194 rfl (mix_get x v k _ (by simp) hk8) ⟨rfl, rfl⟩), ?_⟩
    refine ⟨.is _, fun JJ hJJ ρ e21 => .ofV (.move e21 ⟨rfl, rfl⟩), ?_⟩
    refine ⟨.is _, fun JJ hJJ ρ e11 e196 => .ofV (.indexAddrA ar82 e11 e196 (by omega) (by omega) ⟨rfl, rfl⟩), ?_⟩
    refine ⟨.is _, fun JJ hJJ ρ e197 => .ofV (.loadL 0 Tryd.underlying81 rfl e197 rfl (cells_get v k _ (by simp) hk8) ⟨rfl, rfl⟩), ?_⟩
    refine ⟨.is _, fun JJ hJJ ρ e195 e198 => .ofV (.add32 e195 e198 ⟨rfl, rfl⟩), ?_⟩
    refine ⟨.is _, fun JJ hJJ ρ e2 e192 => .ofV (.indexAddrA ar82 e2 e192 (by omega) (by omega) ⟨rfl, rfl⟩), ?_⟩
    intro J4 hJ4 
    have hset := mix_set x v k (0 + (k : Int).toNat * 1) (by simp) hk8
    refine .n (.storeS 4 sz81 rfl rfl rfl rfl rfl (by rw [mix_length x v k hk]; simp; omega) (.nil ?_))
    refine .region rfl ?_
    refine .v (.move rfl (.v (.add rfl rfl (by omega) (by omega) (.v (.assign rfl ?_)))))
    refine .nil ⟨k + 1, .cons rfl (.cons rfl (.cons rfl (.cons rfl (.nil _)))), ?_, by omega, by omega, hJ3.trans hJ4⟩
    exact congrArg (fun c => [[(b11, row v.cells 82)], [(b10, row (kk.map u32) 95)], [(b5, row (ws.map u32) 95)], [(b4, row (List.replicate 8 (u32 0)) 82)], [(b2, row c 82)]]) hset
  have hk8 : k = 8 := by omega
  subst hk8
  refine .seq (.region rfl ?_)
  refine .v (.loadLW (cs := (x.add v).cells) 4 Tryd.underlying82 rfl sz82 rfl rfl ?_)
  refine .n (.storeW 3 8 sz82 rfl rfl rfl rfl rfl rfl (.nil (.ret ⟨_, .r1 rfl (.cellA (cs := (x.add v).cells) 3 Tryd.underlying82 rfl sz82 rfl rfl), ?_⟩)))
  rw [H8.add_comm v x]
  rfl
end Go.Proofs.YtdhfibhjfahdcaaDoor
set_option maxRecDepth 1000000
set_option linter.unusedVariables false
namespace Go.Proofs.YtdhfibhjfahdcaaDoor
open Go.Fl Go.Sha
theorem Eight_fun (I : Im) (n : UInt64) : Fun Tryd.prog 32 #[u64 n] I (fun v J => Sl J 1 v 8 (bytesV (be64 n 8))) := by
  refine Fun.intro (l := [u64 n]) Tryd.func32 rfl (by kernel_rfl) 18 rfl rfl [(0, u64 n)] rfl fun C hC => ?_
  refine .seq (.region rfl (.v (.assign rfl (.nil ?_))))
  refine .seq (.region rfl (.v (.assign rfl (.nil ?_))))
  refine .seq (.seq (.region rfl (.pad ?_)))
  refine .v (.assign rfl ?_)
  refine .nil (.block (.loop (α := Nat × Value × List (Nat × Obj)) (fun x => [(4, i64 (56 - 8 * (x.1 : Int))), (3, x.2.1), (0, u64 n)])
    (fun k => [k.2.2]) (fun k J => k.1 ≤ 8 ∧ Own 5 1 k.2.1 k.1 (bytesV (be64 n k.1)) k.2.2) (fun k => 8 - k.1) (0, .slice none 0 0, []) ⟨by simp, Own.nil _ _⟩
    (.cons rfl (.cons rfl (.cons rfl (.nil _)))) rfl fun x2 J2 hJ2 hF => ?_))
  obtain ⟨k, v2, X2⟩ := x2
  obtain ⟨hk, hown2⟩ := hF
  dsimp only at hk hown2 ⊢
  refine .seq (.seq (.region rfl ?_))
  refine .v (.move rfl (.v (.geq rfl rfl ?_)))
  refine .nil (.condP rfl (fun hge => .skip ?_) (fun hlt => .exit ?_))
  · have hk8 : k < 8 := by omega
    refine .seq (.block (.region rfl ?_))
    refine .v (.move rfl (.v (.move rfl (.v (.move rfl (.v (.conv64 Tryd.underlying3 Tryd.underlying89 rfl (.v (.shr64 (56 - 8 * k) rfl rfl (be64_sh k hk8) (by omega) (.v (.conv64_8 Tryd.underlying69 Tryd.underlying5 rfl ?_)))))))))))
    generalize hq : (n >>> UInt64.ofNat (56 - 8 * k)).toUInt8 = q
    refine .x (.buildSlice (n := 1) (zs := [u8 0]) (vs := [u8 q]) (pv := [(0, u8 q)]) el23.und el23.size z5 rfl rfl rfl rfl (by decide) fun b34 => ?_)
    refine .s (.append 1 el23 (by decide) (.inl ⟨_, Tryd.underlying23⟩) rfl rfl rfl hown2 (.chunk 0 rfl rfl) rfl (by unfold maxLen; omega) (by omega) fun v' X' hown' => ?_)
    refine .v (.assign rfl ?_)
    refine .forget (X := [_]) (.nil (.region rfl ?_))
    refine .v (.move rfl (.v (.sub rfl rfl (by omega) (by omega) (.v (.assign rfl ?_)))))
    refine .nil ⟨(k + 1, v', X'), .cons ?_ (.cons rfl (.cons rfl (.nil _))), rfl, ⟨by dsimp only; omega, ?_⟩, by dsimp only; omega, hJ2⟩
    · exact congrArg (fun q => some (i64 q)) (by dsimp only; omega)
    · have e1 : bytesV (be64 n k) ++ [u8 q] = bytesV (be64 n (k + 1)) := by rw [be64_succ, hq]; simp [bytesV]
      rw [e1] at hown'
      exact hown'
  · have hk2 : k = 8 := by omega
    subst hk2
    refine .seq (.region rfl ?_)
    refine .v (.move rfl (.v (.assign rfl ?_)))
    exact .nil (.freeze 0 rfl (fun p _ hM => by rw [hC] at hM; cases hM) fun J hJ hp => .ret ⟨_, .r1 rfl (.tmp rfl), hown2.sl hp⟩)
theorem cut64 {J : Im} {v' : Value} {m : List UInt8} {k : Nat} (h : Sl J 1 v' (64 * k + 64 - 64 * k) (((bytesV m).take ((64 * k + 64) * 1)).drop (64 * k * 1))) : Sl J 1 v' 64 (bytesV ((m.drop (64 * k)).take 64)) := by
  have e1 : 64 * k + 64 - 64 * k = 64 := by omega
  have e2 : ((bytesV m).take ((64 * k + 64) * 1)).drop (64 * k * 1) = bytesV ((m.drop (64 * k)).take 64) := by
    simp only [Nat.mul_one, bytesV, ← List.map_take, ← List.map_drop, List.drop_take]
    rw [e1]
  rw [e1, e2] at h
  exact h
theorem Sha_fun (I : Im) (b : Value) (bs : List UInt8) (hb : Sl I 1 b bs.length (bytesV bs)) (hlen : bs.length ≤ 17592186044416) :
    Fun Tryd.prog 47 #[b] I (fun v J => v = .agg (bytesV (refSha bs)).toArray) := by
  obtain ⟨a1, c1, rfl, _, _⟩ := id hb.shape
  generalize hbv : Value.slice a1 bs.length c1 = b at *
  refine Fun.intro (l := [b]) Tryd.func47 rfl (by kernel_rfl) 59 rfl rfl [(0, b)] rfl fun C hC => ?_
  refine .seq (.region rfl (.x (.alloc z28 fun b2 => .nil ?_)))
  refine .seq (.region rfl (.x (.buildSlice (n := 0) (zs := [u8 0]) (vs := []) (pv := []) el23.und el23.size z5 rfl rfl rfl rfl (by decide) fun b8 => ?_)))
  refine .v (.move rfl ?_)
  have hown0 : Own 5 1 (slc b8 0 0 0) 0 [] [(b8, row [] 5)] := Own.made rfl (by decide)
  refine .s (.append 0 el23 (by decide) (.inl ⟨_, Tryd.underlying23⟩) rfl rfl rfl hown0 (.sl hb) (ones_map _ _ fun _ => rfl) (by unfold maxLen; omega) (by omega) fun v0 X0 hown0' => ?_)
  refine .x (.buildSlice (n := 1) (zs := [u8 0]) (vs := [u8 128]) (pv := [(0, u8 128)]) el23.und el23.size z5 rfl rfl rfl rfl (by decide) fun b11 => ?_)
  refine .s (.append 1 el23 (by decide) (.inl ⟨_, Tryd.underlying23⟩) rfl rfl rfl hown0' (.chunk 0 rfl rfl) rfl (by unfold maxLen; omega) (by omega) fun v1 X1 hown1 => ?_)
  refine .v (.assign rfl ?_)
  have hz := padZ_lt bs.length
  have hzd : padZ bs.length = (119 - bs.length % 64) % 64 := rfl
  refine .forget (X := [_]) (.nil (.seq (.block (.loop (α := Nat × Value × List (Nat × Obj)) (fun x => [(3, x.2.1), (0, b), (2, ptr b2 0)])
    (fun k => [k.2.2, [(b2, row (List.replicate 32 (u8 0)) 28)]])
    (fun k J => k.1 ≤ padZ bs.length ∧ Own 5 1 k.2.1 (bs.length + 1 + k.1) (bytesV (bs ++ 128 :: List.replicate k.1 0)) k.2.2) (fun k => padZ bs.length - k.1) (0, v1, X1) ⟨by simp, by simpa [bytesV] using hown1⟩
    (.cons rfl (.cons rfl (.cons rfl (.nil _)))) rfl fun x1 J1 hJ1 hF => ?_))))
  obtain ⟨k, v, X⟩ := x1
  obtain ⟨hk, hown⟩ := hF
  dsimp only at hk hown ⊢
  obtain ⟨a3, c3, rfl⟩ := id hown.shape
  generalize hvv : Value.slice a3 (bs.length + 1 + k) c3 = v at *
  refine .seq (.seq (.region rfl ?_))
  refine .v (.move rfl (.v (.len (a0 := a3) (n := bs.length + 1 + k) (c := c3) Tryd.underlying23 (by rw [hvv]; rfl) (.v (.rem rfl rfl (by omega) (by omega) (.v (.neqI rfl rfl ?_)))))))
  refine .nil (.condP rfl (fun hne => .skip ?_) (fun heq => .exit ?_))
  · have hk2 : k < padZ bs.length := by
      rcases Nat.lt_or_ge k (padZ bs.length) with h | h
      · exact h
      · exact absurd (show ((bs.length + 1 + k : Nat) : Int) % 64 = 56 by omega) hne
    refine .block (.region rfl ?_)
    refine .v (.move rfl ?_)
    refine .x (.buildSlice (n := 1) (zs := [u8 0]) (vs := [u8 0]) (pv := [(0, u8 0)]) el23.und el23.size z5 rfl rfl rfl rfl (by decide) fun b19 => ?_)
    refine .s (.append 1 el23 (by decide) (.inl ⟨_, Tryd.underlying23⟩) rfl rfl rfl hown (.chunk 0 rfl rfl) rfl (by unfold maxLen; omega) (by omega) fun v' X' hown' => ?_)
    refine .v (.assign rfl ?_)
    refine .forget (X := [_]) (.nil ⟨(k + 1, v', X'), .cons rfl (.cons rfl (.cons rfl (.nil _))), rfl, ⟨by dsimp only; omega, ?_⟩, by dsimp only; omega, hJ1⟩)
    have e1 : bytesV (bs ++ 128 :: List.replicate k 0) ++ [u8 0] = bytesV (bs ++ 128 :: List.replicate (k + 1) 0) := by simp [bytesV, List.replicate_succ']
    rw [e1] at hown'
    exact hown'
  · have hk2 : k = padZ bs.length := by
      have : ((bs.length + 1 + k : Nat) : Int) % 64 = 56 := by
        by_cases h : ((bs.length + 1 + k : Nat) : Int) % 64 = 56
        · exact h
        · exact absurd h heq
      omega
    subst hk2
    refine .seq (.region rfl ?_)
    refine .v (.move rfl (.v (.move rfl (.v (.len (a0 := a1) (n := bs.length) (c := c1) Tryd.underlying23 (by rw [hbv]; rfl) (.v (.conv64 Tryd.underlying3 Tryd.underlying69 rfl (.v (.mul64 (n := 8) rfl rfl ?_)))))))))
    generalize hn : UInt64.ofInt (bs.length : Int) * 8 = n
    refine .x (.call rfl rfl (Eight_fun J1 n) fun v5 J2 hJ2 h5 => ?_)
    refine .s (.append 0 el23 (by decide) (.inl ⟨_, Tryd.underlying23⟩) rfl rfl rfl hown (.sl h5) (ones_map _ _ fun _ => rfl) (by unfold maxLen; omega) (by omega) fun v6 X6 hown6 => ?_)
    refine .v (.assign rfl ?_)
    have hm0 : bytesV (bs ++ 128 :: List.replicate (padZ bs.length) 0) ++ bytesV (be64 n 8) = bytesV (refM bs) := by
      rw [refM, hn]; simp [bytesV, pad]
    have hml : (refM bs).length = bs.length + 1 + padZ bs.length + 8 := by simp [refM, pad_length]; omega
    rw [hm0, ← hml] at hown6
    have hsha : refSha bs = (feed iv (refM bs) ((refM bs).length / 64)).l.flatMap be32 := rfl
    generalize refM bs = m at hown6 hml hsha
    refine .nil (.seq (.region rfl (.x (.lendIs rfl rfl (fun J _ _ => Initial_fun J) (.x (.alloc z82 fun b4 => ?_))))))
    refine .n (.storeW 0 8 sz82 rfl rfl rfl rfl rfl rfl (.nil ?_))
    refine .freeze 1 rfl (fun p _ hM => by rw [hC] at hM; cases hM) fun J3 hJ3 hp3 => ?_
    have hm : Sl J3 1 v6 m.length (bytesV m) := hown6.sl hp3
    obtain ⟨a6, c6, rfl, _, _⟩ := id hm.shape
    generalize hvv6 : Value.slice a6 m.length c6 = v6 at *
    refine .seq (.seq (.region rfl ?_))
    refine .v (.assign rfl ?_)
    refine .nil (.block (.loop (α := Nat) (fun k => [(5, i64 (64 * (k : Int))), (3, v6), (4, ptr b4 0), (2, ptr b2 0)])
      (fun k => [[(b4, row (feed iv m k).cells 82)], [], [(b2, row (List.replicate 32 (u8 0)) 28)]])
      (fun k _ => 64 * k ≤ m.length) (fun k => m.length - 64 * k) 0 (by omega)
      (.cons rfl (.cons rfl (.cons rfl (.cons rfl (.nil _))))) rfl fun k J4 hJ4 hk => ?_))
    refine .seq (.seq (.region rfl ?_))
    refine .v (.move rfl (.v (.move rfl (.v (.len (a0 := a6) (n := m.length) (c := c6) Tryd.underlying23 (by rw [hvv6]; rfl) (.v (.lss rfl rfl ?_)))))))
    refine .nil (.condP rfl (fun hlt => .skip ?_) (fun hge => .exit ?_))
    · have hk64 : 64 * k + 64 ≤ m.length := by omega
      generalize hX : feed iv m k = Y
      refine .seq (.block ?_)
      refine .draw (by kernel_rfl) 7 [[], [], [], [], [(37, 3)], [(35, 1), (36, 2), (38, 4)], [(34, 0), (39, 5)]] rfl (by kernel_rfl) rfl ?_
      refine ⟨.is _, fun JJ hJJ ρ e4 => .ofV (.loadLW (cs := Y.cells) 0 Tryd.underlying82 rfl sz82 e4 rfl ⟨rfl, rfl⟩), ?_⟩
      refine ⟨.is _, fun JJ hJJ ρ e3 => .ofV (.move e3 ⟨rfl, rfl⟩), ?_⟩
      refine ⟨.is _, fun JJ hJJ ρ e5 => .ofV (.move e5 ⟨rfl, rfl⟩), ?_⟩
      refine ⟨.is _, fun JJ hJJ ρ e5 => .ofV (.move e5 ⟨rfl, rfl⟩), ?_⟩
      refine ⟨.is _, fun JJ hJJ ρ e37 => .ofV (.add e37 rfl (by omega) (by omega) ⟨rfl, rfl⟩), ?_⟩
      refine ⟨.val (fun v J => Sl J 1 v 64 (bytesV ((m.drop (64 * k)).take 64))) (fun _ _ _ h hle => h.mono hle), fun JJ hJJ ρ e35 e36 e38 => .ofV (.slice (l := 64 * k) (h := 64 * k + 64) el23.und el23.size e35 (hm.mono (hJ4.trans hJJ)) (.inr ⟨_, _, rfl, e36.trans (congrArg (fun q => some (i64 q)) (by omega))⟩) (.inr ⟨_, _, rfl, e38.trans (congrArg (fun q => some (i64 q)) (by omega))⟩) (by omega) (by omega) fun v' hv' => ⟨rfl, cut64 hv'⟩), ?_⟩
      refine ⟨.is _, fun JJ hJJ ρ e34 v39 e39 q39 => .lendIs rfl (evL2 e34 e39) (fun J hJ hL => Block_fun J Y _ (by simp; omega) v39 (q39.mono hJ)) ⟨rfl, rfl⟩, ?_⟩
      intro J5 hJ5 v39 q39
      refine .n (.storeW 0 8 sz82 rfl rfl rfl rfl rfl rfl (.nil ?_))
      refine .region rfl ?_
      refine .v (.move rfl (.v (.add rfl rfl (by omega) (by omega) (.v (.assign rfl ?_)))))
      refine .nil ⟨k + 1, .cons ?_ (.cons rfl (.cons rfl (.cons rfl (.nil _)))), ?_, by omega, by omega, hJ4.trans hJ5⟩
      · exact congrArg (fun q => some (i64 q)) (by omega)
      · subst hX
        rfl
    have hkm : m.length / 64 = k := by omega
    rw [hkm] at hsha
    generalize hY : feed iv m k = Y at hsha ⊢
    have hDl : (Y.l.flatMap be32).length = 32 := by rw [flat_length, H8.length]
    refine .seq (.region rfl (.x (.alloc z28 fun b6 => .nil ?_)))
    refine .seq (.seq (.region rfl ?_))
    refine .v (.assign rfl ?_)
    refine .nil (.block (.loop (α := Nat) (fun k => [(7, i64 k), (6, ptr b6 0), (4, ptr b4 0), (2, ptr b2 0)])
      (fun k => [[(b6, row (outb (Y.l.flatMap be32) k) 28)], [(b4, row Y.cells 82)], [], [(b2, row (List.replicate 32 (u8 0)) 28)]])
      (fun k _ => k ≤ 32) (fun k => 32 - k) 0 (by omega)
      (.cons rfl (.cons rfl (.cons rfl (.cons rfl (.nil _))))) rfl fun i J5 hJ5 hi => ?_))
    refine .seq (.seq (.region rfl ?_))
    refine .v (.move rfl (.v (.lss rfl rfl ?_)))
    refine .nil (.condP rfl (fun hlt => .skip ?_) (fun hge => .exit ?_))
    · have hi32 : i < 32 := by omega
      refine .seq (.block (.region rfl ?_))
      refine .v (.move rfl (.v (.move rfl (.v (.quo rfl rfl (by omega) (by omega) (by omega) (.v (.indexAddrA ar82 rfl rfl (by omega) (by omega) (.v (.loadL 1 Tryd.underlying81 rfl rfl rfl (cells_get Y (i / 4) _ (by omega) (by omega)) (.v (.move rfl ?_)))))))))))
      refine .v (.rem rfl rfl (by omega) (by omega) (.v (.mul rfl rfl (by omega) (by omega) (.v (.sub rfl rfl (by omega) (by omega) (.v (.conv64 Tryd.underlying3 Tryd.underlying89 rfl (.v (.shr32 (24 - 8 * (i % 4)) rfl rfl (sh_24 i) (by omega) (.v (.conv32_8 Tryd.underlying81 Tryd.underlying5 rfl ?_)))))))))))
      refine .v (.indexAddrA ar28 rfl rfl (by omega) (by omega) ?_)
      have hset := outb_set (Y.l.flatMap be32) i (0 + (i : Int).toNat * 1) _ (by simp) hi32 hDl (flat_at Y i hi32)
      refine .n (.storeS 0 sz5 rfl rfl rfl rfl rfl (by rw [outb_length _ i hDl hi]; simp; omega) (.nil ?_))
      refine .region rfl ?_
      refine .v (.move rfl (.v (.add rfl rfl (by omega) (by omega) (.v (.assign rfl ?_)))))
      refine .nil ⟨i + 1, .cons rfl (.cons rfl (.cons rfl (.cons rfl (.nil _)))), ?_, by omega, by omega, hJ5⟩
      exact congrArg (fun c => [[(b6, row c 28)], [(b4, row Y.cells 82)], [], [(b2, row (List.replicate 32 (u8 0)) 28)]]) hset
    have hi32 : i = 32 := by omega
    subst hi32
    have ho : outb (Y.l.flatMap be32) 32 = bytesV (Y.l.flatMap be32) := by
      rw [outb, List.take_of_length_le (by omega)]; simp
    have hol := outb_length (Y.l.flatMap be32) 32 hDl (Nat.le_refl _)
    refine .seq (.region rfl ?_)
    refine .v (.loadLW (cs := outb (Y.l.flatMap be32) 32) 0 Tryd.underlying28 rfl (by rw [hol]; exact sz28) rfl rfl ?_)
    refine .n (.storeW 3 32 sz28 rfl rfl hol (ones_map _ _ fun _ => rfl) rfl rfl (.nil (.ret ⟨_, .r1 rfl (.cellA (cs := outb (Y.l.flatMap be32) 32) 3 Tryd.underlying28 rfl (by rw [hol]; exact sz28) rfl rfl), ?_⟩)))
    rw [ho, hsha]
end Go.Proofs.YtdhfibhjfahdcaaDoor
set_option maxRecDepth 1000000
namespace Go.Sha
open Go.Fl
theorem feed_left (x : H8) (l m : List UInt8) : ∀ k, 64 * k ≤ l.length → feed x (l ++ m) k = feed x l k
  | 0, _ => rfl
  | k + 1, h => by
    rw [feed, feed, feed_left x l m k (by omega), List.drop_append_of_le_length (by omega), List.take_append_of_le_length (by simp; omega)]
theorem feed_add (x : H8) (l : List UInt8) (a : Nat) : ∀ b, feed x l (a + b) = feed (feed x l a) (l.drop (64 * a)) b
  | 0 => rfl
  | b + 1 => by
    rw [← Nat.add_assoc, feed, feed, feed_add x l a b, List.drop_drop, Nat.mul_add]
theorem rest_length (l : List UInt8) : (rest l).length = l.length % 64 := by
  rw [rest, List.length_drop]; omega
theorem absorb_append (x : H8) (l m : List UInt8) : absorb (absorb x l) (rest l ++ m) = absorb x (l ++ m) := by
  have h1 : (l ++ m).length / 64 = l.length / 64 + (rest l ++ m).length / 64 := by
    rw [List.length_append, List.length_append, rest_length]; omega
  unfold absorb
  rw [h1, feed_add, feed_left x l m _ (by omega)]
  congr 1
  rw [rest, List.drop_append_of_le_length (by omega)]
theorem rest_append (l m : List UInt8) : rest (rest l ++ m) = rest (l ++ m) := by
  have h1 : 64 * ((l ++ m).length / 64) = 64 * (l.length / 64) + 64 * ((rest l ++ m).length / 64) := by
    rw [List.length_append, List.length_append, rest_length]; omega
  have h2 : (l ++ m).drop (64 * (l.length / 64)) = rest l ++ m := by rw [rest, List.drop_append_of_le_length (by omega)]
  conv => rhs; unfold rest
  rw [h1, ← List.drop_drop, h2, rest]
theorem pad_mod (m k : Nat) (n : UInt64) (h : m % 64 = k % 64) : pad m n = pad k n := by
  unfold pad padZ; rw [h]
theorem refSha_eq (l : List UInt8) : refSha l = sha256 l := by
  unfold sha256 digest
  rw [absorb_append, pad_mod (rest l).length l.length _ (by rw [rest_length]; omega)]
  rfl
theorem sha256_length (l : List UInt8) : (sha256 l).length = 32 := by rw [sha256, digest, flat_length, H8.length]
end Go.Sha
set_option linter.unusedVariables false
namespace Go.Ab
open Go.Fl Go.RowKit
class Rep (α : Type) where
  size : Nat
  agg : Bool
  rep : Im → α → List Value → Prop
  len : ∀ {I x cs}, rep I x cs → cs.length = size
  mono : ∀ {I J x cs}, Le I J → rep I x cs → rep J x cs
  one : agg = false → size = 1
  flat : ∀ {I x cs}, rep I x cs → ones cs = true
open Rep (rep)
def asV (ag : Bool) (cs : List Value) : Value := if ag then .agg cs.toArray else cs.headD undef
def repL {α : Type} [Rep α] (I : Im) : List α → List Value → Prop
  | [], cs => cs = []
  | x :: l, cs => ∃ c r, cs = c ++ r ∧ rep I x c ∧ repL I l r
theorem repL.mono {α : Type} [Rep α] {I J : Im} (hle : Le I J) : ∀ {l : List α} {cs : List Value}, repL I l cs → repL J l cs
  | [], _, h => h
  | x :: l, _, h => by obtain ⟨c, r, h1, h2, h3⟩ := h; exact ⟨c, r, h1, Rep.mono hle h2, repL.mono hle h3⟩
theorem repL.len {α : Type} [Rep α] {I : Im} : ∀ {l : List α} {cs : List Value}, repL I l cs → cs.length = l.length * Rep.size α
  | [], _, h => by simp [repL] at h; simp [h]
  | x :: l, _, h => by
    obtain ⟨c, r, rfl, h2, h3⟩ := h
    simp [Rep.len h2, h3.len, Nat.succ_mul, Nat.add_comm]
theorem ones_append {xs ys : List Value} (h : ones xs = true) (k : ones ys = true) : ones (xs ++ ys) = true := by
  simp only [ones, List.all_append, Bool.and_eq_true] at *; exact ⟨h, k⟩
theorem repL.flat {α : Type} [Rep α] {I : Im} : ∀ {l : List α} {cs : List Value}, repL I l cs → ones cs = true
  | [], _, h => by simp [repL] at h; simp [h, ones]
  | x :: l, _, h => by
    obtain ⟨c, r, rfl, h2, h3⟩ := h
    exact ones_append (Rep.flat h2) h3.flat
theorem repL.append {α : Type} [Rep α] {I : Im} : ∀ {l m : List α} {cs ds : List Value}, repL I l cs → repL I m ds → repL I (l ++ m) (cs ++ ds)
  | [], _, _, _, h, k => by simp [repL] at h; simpa [h] using k
  | x :: l, _, _, _, h, k => by
    obtain ⟨c, r, rfl, h2, h3⟩ := h
    exact ⟨c, r ++ _, by simp, h2, h3.append k⟩
theorem repL.one {α : Type} [Rep α] {I : Im} {x : α} {c : List Value} (h : rep I x c) : repL I [x] c := ⟨c, [], by simp, h, rfl⟩
theorem repL.split {α : Type} [Rep α] {I : Im} : ∀ {l m : List α} {cs : List Value}, repL I (l ++ m) cs → repL I l (cs.take (l.length * Rep.size α)) ∧ repL I m (cs.drop (l.length * Rep.size α))
  | [], _, _, h => by simp [repL]; simpa using h
  | x :: l, m, _, h => by
    obtain ⟨c, r, rfl, h2, h3⟩ := h
    have hl := Rep.len h2
    obtain ⟨h4, h5⟩ := h3.split
    have e : (x :: l).length * Rep.size α = c.length + l.length * Rep.size α := by simp [hl, Nat.succ_mul, Nat.add_comm]
    rw [e, List.take_length_add_append, List.drop_length_add_append]
    exact ⟨⟨c, _, rfl, h2, h4⟩, h5⟩
theorem repL.get {α : Type} [Rep α] {I : Im} {l : List α} {cs : List Value} (h : repL I l cs) (k : Nat) (hk : k < l.length) : rep I l[k] (segGet cs (k * Rep.size α) (Rep.size α)) := by
  have e : l = l.take k ++ (l[k] :: l.drop (k + 1)) := by simp
  rw [e] at h
  obtain ⟨_, h2⟩ := h.split
  obtain ⟨c, r, h3, h4, h5⟩ := h2
  have hl : (l.take k).length = k := by simp; omega
  rw [hl] at h3
  have : segGet cs (k * Rep.size α) (Rep.size α) = c := by rw [segGet, h3, ← Rep.len h4]; simp
  rw [this]; exact h4
theorem repL.set {α : Type} [Rep α] {I : Im} {l : List α} {cs vs : List Value} {y : α} (h : repL I l cs) (k : Nat) (hk : k < l.length) (hy : rep I y vs) : repL I (l.set k y) (segSet cs (k * Rep.size α) vs) := by
  have e : l = l.take k ++ (l[k] :: l.drop (k + 1)) := by simp
  have e2 : l.set k y = l.take k ++ (y :: l.drop (k + 1)) := List.set_eq_take_append_cons_drop .. |>.trans (by simp [hk])
  rw [e] at h
  obtain ⟨h1, h2⟩ := h.split
  obtain ⟨c, r, h3, h4, h5⟩ := h2
  have hl : (l.take k).length = k := by simp; omega
  rw [hl] at h1 h3
  rw [e2, segSet]
  have hd : cs.drop (k * Rep.size α + vs.length) = r := by
    rw [← List.drop_drop, h3, Rep.len hy, ← Rep.len h4]; simp
  rw [hd, List.append_assoc]
  exact h1.append ⟨vs, r, rfl, hy, h5⟩
structure Arr (n : Nat) (α : Type) where
  l : List α
  h : l.length = n
instance {n : Nat} {α : Type} [DecidableEq α] : DecidableEq (Arr n α) := fun a b =>
  if h : a.l = b.l then isTrue (by cases a; cases b; cases h; rfl) else isFalse (fun e => h (by rw [e]))
@[simp] theorem Arr.len {n : Nat} {α : Type} (a : Arr n α) : a.l.length = n := a.h
theorem Arr.ext {n : Nat} {α : Type} {a b : Arr n α} (h : a.l = b.l) : a = b := by cases a; cases b; cases h; rfl
instance {n : Nat} {α : Type} [Inhabited α] : Inhabited (Arr n α) := ⟨⟨List.replicate n default, by simp⟩⟩
instance {n : Nat} {α : Type} [Rep α] : Rep (Arr n α) where
  size := n * Rep.size α
  agg := true
  rep I x cs := repL I x.l cs
  len {_ x _} h := by rw [h.len, x.h]
  mono hle h := h.mono hle
  one h := by cases h
  flat h := h.flat
structure Lens (α β : Type) [Rep α] [Rep β] where
  off : Nat
  get : α → β
  set : β → α → α
  fits : off + Rep.size β ≤ Rep.size α
  gets : ∀ {I x cs}, rep I x cs → rep I (get x) (segGet cs off (Rep.size β))
  sets : ∀ {I x cs y vs}, rep I x cs → rep I y vs → rep I (set y x) (segSet cs off vs)
def SlA {α : Type} [Rep α] (I : Im) (v : Value) (l : List α) : Prop := ∃ xs, Sl I (Rep.size α) v l.length xs ∧ repL I l xs
inductive AV : Type 1 where
  | v {α : Type} [r : Rep α] (x : α)
  | p {α : Type} [r : Rep α] (x : α)
  | raw (u : Value)
  | vc {α : Type} [r : Rep α] (l : List α)
  | ln {α β : Type} [r : Rep α] [s : Rep β] (w : Value) (l : Lens α β)
  | el {α β : Type} [r : Rep α] [s : Rep β] (w : Value) (k : Nat) (l : Lens α β)
  | sv {α β : Type} {n : Nat} [r : Rep α] [s : Rep β] (w : Value) (l : Lens α (Arr n β))
  | t2 (a b : AV)
  | t3 (a b c : AV)
  | t4 (a b c d : AV)
  | opt (c : Bool) (a : AV)
  | pr (p : Im → Value → Prop) (m : ∀ {I J : Im} {u : Value}, Le I J → p I u → p J u)
  | any
def baseOf : Value → Option Nat
  | .pointer (some ⟨b, 0, none⟩) => some b
  | .slice (some ⟨b, 0, none⟩) _ _ => some b
  | _ => none
def RepV (I : Im) : AV → Value → Prop
  | @AV.v α r x, u => ∃ cs, @Rep.rep α r I x cs ∧ u = asV (@Rep.agg α r) cs
  | @AV.p α r x, u => ∃ b o cs, u = ptr b o ∧ @Rep.rep α r I x cs ∧ Cells I b o cs
  | .raw w, u => u = w
  | @AV.vc α r l, u => (∃ a, u = .slice a l.length l.length) ∧ @SlA α r I u l
  | @AV.ln α β r s w l, u => ∃ b, baseOf w = some b ∧ u = ptr b (@Lens.off α β r s l)
  | @AV.el α β r s w k l, u => ∃ b, baseOf w = some b ∧ u = ptr b (k * @Rep.size α r + @Lens.off α β r s l)
  | @AV.sv α β n r s w l, u => ∃ b, baseOf w = some b ∧ u = slc b (@Lens.off α (Arr n β) r _ l) n n
  | .t2 a b, u => ∃ x y, u = .tuple #[x, y] ∧ RepV I a x ∧ RepV I b y
  | .t3 a b c, u => ∃ x y z, u = .tuple #[x, y, z] ∧ RepV I a x ∧ RepV I b y ∧ RepV I c z
  | .t4 a b c d, u => ∃ x y z t, u = .tuple #[x, y, z, t] ∧ RepV I a x ∧ RepV I b y ∧ RepV I c z ∧ RepV I d t
  | .opt c a, u => c = true → RepV I a u
  | .pr p _, u => p I u
  | .any, _ => True
theorem RepV.mono {I J : Im} (hle : Le I J) : ∀ {a : AV} {u : Value}, RepV I a u → RepV J a u
  | @AV.v α r x, _, h => by obtain ⟨cs, h1, h2⟩ := h; exact ⟨cs, @Rep.mono α r _ _ _ _ hle h1, h2⟩
  | @AV.p α r x, _, h => by obtain ⟨b, o, cs, h1, h2, h3⟩ := h; exact ⟨b, o, cs, h1, @Rep.mono α r _ _ _ _ hle h2, h3.mono hle⟩
  | .raw w, _, h => h
  | @AV.vc α r l, _, h => ⟨h.1, by obtain ⟨_, xs, h1, h2⟩ := h; exact ⟨xs, h1.mono hle, h2.mono hle⟩⟩
  | @AV.ln α β r s w l, _, h => h
  | @AV.el α β r s w k l, _, h => h
  | @AV.sv α β n r s w l, _, h => h
  | .t2 a b, _, h => by obtain ⟨x, y, h1, h2, h3⟩ := h; exact ⟨x, y, h1, h2.mono hle, h3.mono hle⟩
  | .t3 a b c, _, h => by obtain ⟨x, y, z, h1, h2, h3, h4⟩ := h; exact ⟨x, y, z, h1, h2.mono hle, h3.mono hle, h4.mono hle⟩
  | .t4 a b c d, _, h => by obtain ⟨x, y, z, t, h1, h2, h3, h4, h5⟩ := h; exact ⟨x, y, z, t, h1, h2.mono hle, h3.mono hle, h4.mono hle, h5.mono hle⟩
  | .opt c a, _, h => fun hc => (h hc).mono hle
  | .pr _ m, _, h => m hle h
  | .any, _, h => h
instance : Rep Int where
  size := 1
  agg := false
  rep _ x cs := cs = [i64 x] ∧ -9223372036854775808 ≤ x ∧ x ≤ 9223372036854775807
  len h := by simp [h.1]
  mono _ h := h
  one _ := rfl
  flat h := by simp [h.1, ones, Value.oneCell']
instance : Rep UInt8 where
  size := 1
  agg := false
  rep _ x cs := cs = [u8 x]
  len h := by simp [h]
  mono _ h := h
  one _ := rfl
  flat h := by simp [h, ones, u8, Value.oneCell']
instance : Rep UInt32 where
  size := 1
  agg := false
  rep _ x cs := cs = [u32 x]
  len h := by simp [h]
  mono _ h := h
  one _ := rfl
  flat h := by simp [h, ones, u32, Value.oneCell']
instance : Rep UInt64 where
  size := 1
  agg := false
  rep _ x cs := cs = [u64 x]
  len h := by simp [h]
  mono _ h := h
  one _ := rfl
  flat h := by simp [h, ones, u64, Value.oneCell']
instance : Rep Bool where
  size := 1
  agg := false
  rep _ x cs := cs = [.bool x]
  len h := by simp [h]
  mono _ h := h
  one _ := rfl
  flat h := by simp [h, ones, Value.oneCell']
structure Str where
  l : List UInt8
instance : DecidableEq Str := fun a b => if h : a.l = b.l then isTrue (by cases a; cases b; cases h; rfl) else isFalse (fun e => h (by rw [e]))
instance : Rep Str where
  size := 1
  agg := false
  rep _ x cs := (∃ b : ByteArray, cs = [.string b] ∧ b.data.toList = x.l) ∧ x.l.length ≤ 9223372036854775807
  len h := by obtain ⟨⟨b, h, _⟩, _⟩ := h; simp [h]
  mono _ h := h
  one _ := rfl
  flat h := by obtain ⟨⟨b, h, _⟩, _⟩ := h; simp [h, ones, Value.oneCell']
instance {α : Type} [Rep α] : Rep (List α) where
  size := 1
  agg := false
  rep I x cs := ∃ v, cs = [v] ∧ SlA I v x
  len h := by obtain ⟨v, h, _⟩ := h; simp [h]
  mono hle h := by obtain ⟨v, h, xs, h1, h2⟩ := h; exact ⟨v, h, xs, h1.mono hle, h2.mono hle⟩
  one _ := rfl
  flat h := by
    obtain ⟨v, h, xs, h1, _⟩ := h
    obtain ⟨a, c, rfl, _⟩ := h1
    simp [h, ones, Value.oneCell']
instance : Rep Unit where
  size := 0
  agg := true
  rep _ _ cs := cs = []
  len h := by simp [h]
  mono _ h := h
  one h := by cases h
  flat h := by simp [h, ones]
instance {α β : Type} [Rep α] [Rep β] : Rep (α × β) where
  size := Rep.size α + Rep.size β
  agg := true
  rep I x cs := ∃ c r, cs = c ++ r ∧ rep I x.1 c ∧ rep I x.2 r
  len h := by obtain ⟨c, r, rfl, h1, h2⟩ := h; simp [Rep.len h1, Rep.len h2]
  mono hle h := by obtain ⟨c, r, e, h1, h2⟩ := h; exact ⟨c, r, e, Rep.mono hle h1, Rep.mono hle h2⟩
  one h := by cases h
  flat h := by obtain ⟨c, r, rfl, h1, h2⟩ := h; exact ones_append (Rep.flat h1) (Rep.flat h2)
@[reducible] def Rep.via {S T : Type} [Rep T] (f : S → T) : Rep S where
  size := Rep.size T
  agg := true
  rep I x cs := Rep.rep I (f x) cs
  len h := Rep.len h
  mono hle h := Rep.mono hle h
  one h := by cases h
  flat h := Rep.flat h
theorem segGet_self {cs : List Value} {n : Nat} (h : cs.length = n) : segGet cs 0 n = cs := by subst h; exact segGet_all cs
def Lens.id {α : Type} [Rep α] : Lens α α where
  off := 0
  get x := x
  set y _ := y
  fits := by simp
  gets h := by rw [segGet_self (Rep.len h)]; exact h
  sets h k := by rw [segSet_all _ _ (by rw [Rep.len h, Rep.len k])]; exact k
def Lens.fst {α β : Type} [Rep α] [Rep β] : Lens (α × β) α where
  off := 0
  get x := x.1
  set y x := (y, x.2)
  fits := by simp [Rep.size]
  gets h := by
    obtain ⟨c, r, rfl, h1, h2⟩ := h
    have : segGet (c ++ r) 0 (Rep.size α) = c := by rw [segGet, ← Rep.len h1]; simp
    rw [this]; exact h1
  sets h k := by
    obtain ⟨c, r, rfl, h1, h2⟩ := h
    refine ⟨_, r, ?_, k, h2⟩
    rw [segSet, Nat.zero_add, Rep.len k, ← Rep.len h1]; simp
def Lens.snd {α β : Type} [Rep α] [Rep β] : Lens (α × β) β where
  off := Rep.size α
  get x := x.2
  set y x := (x.1, y)
  fits := by simp [Rep.size]
  gets h := by
    obtain ⟨c, r, rfl, h1, h2⟩ := h
    have : segGet (c ++ r) (Rep.size α) (Rep.size β) = r := by rw [segGet, ← Rep.len h1, ← Rep.len h2]; simp
    rw [this]; exact h2
  sets h k := by
    obtain ⟨c, r, rfl, h1, h2⟩ := h
    refine ⟨c, _, ?_, h1, k⟩
    rw [segSet, Rep.len k, ← Rep.len h1, ← Rep.len h2]
    simp
theorem segGet_segGet {cs : List Value} {o n p m : Nat} (h : p + m ≤ n) : segGet (segGet cs o n) p m = segGet cs (o + p) m := by
  simp only [segGet, List.drop_take, List.take_take, List.drop_drop]
  congr 1; omega
theorem segSet_segSet {cs vs : List Value} {o n p : Nat} (h : p + vs.length ≤ n) (hn : o + n ≤ cs.length) : segSet cs o (segSet (segGet cs o n) p vs) = segSet cs (o + p) vs := by
  have hl : (segGet cs o n).length = n := by simp [segGet]; omega
  have hll : (segSet (segGet cs o n) p vs).length = n := by rw [segSet_length _ _ _ (by omega), hl]
  apply List.ext_getElem?
  intro i
  rw [segSet_get (cs := cs) (o := o) (by omega), segSet_get (cs := cs) (o := o + p) (by omega), hll]
  by_cases h1 : i < o
  · rw [if_pos h1, if_pos (by omega)]
  · rw [if_neg h1]
    by_cases h2 : i < o + n
    · rw [if_pos h2, segSet_get (by omega)]
      have hg : ∀ j, j < n → (segGet cs o n)[j]? = cs[o + j]? := fun j hj => by simp [segGet, hj]
      by_cases h3 : i - o < p
      · rw [if_pos h3, if_pos (by omega), hg _ (by omega)]; congr 1; omega
      · rw [if_neg h3, if_neg (show ¬ i < o + p by omega)]
        by_cases h4 : i - o < p + vs.length
        · rw [if_pos h4, if_pos (by omega)]; congr 1; omega
        · rw [if_neg h4, if_neg (by omega), hg _ (by omega)]; congr 1; omega
    · rw [if_neg h2, if_neg (by omega), if_neg (by omega)]
def Lens.comp {α β γ : Type} [Rep α] [Rep β] [Rep γ] (l : Lens α β) (m : Lens β γ) : Lens α γ where
  off := l.off + m.off
  get x := m.get (l.get x)
  set y x := l.set (m.set y (l.get x)) x
  fits := by have := l.fits; have := m.fits; omega
  gets h := by
    have := m.gets (l.gets h)
    rwa [segGet_segGet m.fits] at this
  sets h k := by
    have h1 := l.gets h
    have h2 := l.sets h (m.sets h1 k)
    have hf := l.fits
    have hm := m.fits
    rw [segSet_segSet (by rw [Rep.len k]; exact m.fits) (by rw [Rep.len h]; exact hf)] at h2
    exact h2
def Lens.idx {n : Nat} {α : Type} [Rep α] (k : Nat) (hk : k < n) : Lens (Arr n α) α where
  off := k * Rep.size α
  get x := x.l[k]'(by rw [x.h]; exact hk)
  set y x := ⟨x.l.set k y, by simp [x.h]⟩
  fits := by
    have := Nat.mul_le_mul_right (Rep.size α) (Nat.succ_le_of_lt hk)
    simp only [Rep.size, Nat.succ_mul] at *; exact this
  gets {_ x _} h := repL.get h k (by rw [x.h]; exact hk)
  sets {_ x _ _ _} h y := repL.set h k (by rw [x.h]; exact hk) y
def Lens.via {S T β : Type} [r : Rep T] [Rep β] (f : S → T) (m : Lens T β) (get : S → β) (set : β → S → S) (hg : ∀ x, get x = m.get (f x)) (hs : ∀ y x, f (set y x) = m.set y (f x)) : @Lens S β (Rep.via f) _ :=
  letI : Rep S := Rep.via f
  { off := m.off, get := get, set := set, fits := m.fits, gets := fun {_ x _} h => by rw [hg]; exact m.gets h, sets := fun {_ x _ y _} h k => by
      have := m.sets h k
      rw [← hs] at this; exact this }
end Go.Ab
set_option linter.unusedVariables false
namespace Go.Ab
open Go.Fl Go.RowKit
open Rep (rep)
def OwnG (e : TypeId) (s : Nat) (v : Value) (n : Nat) (xs : List Value) (X : List (Nat × Obj)) : Prop :=
  ((∃ a, v = .slice a 0 0) ∧ n = 0 ∧ xs = [] ∧ X = []) ∨
  ∃ b c sp q, v = slc b 0 n c ∧ X = [(b, .cells (xs ++ sp).toArray e q)] ∧ xs.length = n * s ∧ (xs ++ sp).length = c * s ∧ n ≤ c ∧ c ≤ maxLen ∧ (q = (0, 0) ∨ q = ((xs ++ sp).length, (xs ++ sp).length + 1))
theorem OwnG.nil (e : TypeId) (s : Nat) : OwnG e s (.slice none 0 0) 0 [] [] := .inl ⟨⟨none, rfl⟩, rfl, rfl, rfl⟩
theorem OwnG.empty (e : TypeId) (s : Nat) (a : Option Addr) : OwnG e s (.slice a 0 0) 0 [] [] := .inl ⟨⟨a, rfl⟩, rfl, rfl, rfl⟩
theorem Sl.empty (I : Im) (s : Nat) (a : Option Addr) : Sl I s (.slice a 0 0) 0 [] := ⟨a, 0, rfl, by simp, Nat.le_refl _, by simp [maxLen], fun _ => rfl, fun h => absurd rfl h⟩
theorem OwnG.of {e : TypeId} {s n : Nat} {v : Value} {xs : List Value} {X : List (Nat × Obj)} (h : Own e s v n xs X) : OwnG e s v n xs X := by
  rcases h with ⟨h1, h2⟩ | ⟨b, c, sp, h1, h2, h3, h4, h5, h6⟩
  · exact .inl ⟨⟨none, h1⟩, h2⟩
  · exact .inr ⟨b, c, sp, (0, 0), h1, h2, h3, h4, h5, h6, .inl rfl⟩
theorem OwnG.shape {e : TypeId} {s n : Nat} {v : Value} {xs : List Value} {X : List (Nat × Obj)} (h : OwnG e s v n xs X) : ∃ a c, v = .slice a n c := by
  rcases h with ⟨⟨a, rfl⟩, rfl, _⟩ | ⟨b, c, sp, q, rfl, _⟩
  · exact ⟨_, _, rfl⟩
  · exact ⟨_, _, rfl⟩
theorem OwnG.len {e : TypeId} {s n : Nat} {v : Value} {xs : List Value} {X : List (Nat × Obj)} (h : OwnG e s v n xs X) : xs.length = n * s := by
  rcases h with ⟨_, rfl, rfl, _⟩ | ⟨b, c, sp, q, _, _, h, _⟩
  · simp
  · exact h
theorem OwnG.le {e : TypeId} {s n : Nat} {v : Value} {xs : List Value} {X : List (Nat × Obj)} (h : OwnG e s v n xs X) : n ≤ 9223372036854775807 := by
  rcases h with ⟨_, rfl, rfl, _⟩ | ⟨b, c, sp, q, _, _, _, _, h1, h2, _⟩
  · simp
  · unfold maxLen at h2; omega
theorem OwnG.sl {e : TypeId} {s n : Nat} {v : Value} {xs : List Value} {X : List (Nat × Obj)} (h : OwnG e s v n xs X) {J : Im} (hJ : ∀ p ∈ X, J p.1 = some p.2) : Sl J s v n xs := by
  rcases h with ⟨⟨a, rfl⟩, rfl, rfl, rfl⟩ | ⟨b, c, sp, q, rfl, rfl, h3, h4, h5, h6, _⟩
  · exact Sl.empty J s a
  · refine Sl.of_cells ⟨_, _, _, hJ _ (List.mem_singleton.2 rfl), fun i v hv => ?_⟩ h3 h5 h6
    have hi := (List.getElem?_eq_some_iff.1 hv).1
    simp only [Nat.zero_add, List.getElem?_toArray]
    rw [List.getElem?_append_left hi]; exact hv
theorem run_storeCells_fr (P : Program) (g o : Nat) (t : TypeId) (q : Nat × Nat) : ∀ (vs : List Value) (i : Nat) (cur : Array Value) (w : World), w.heap[g]? = some (.cells cur t q) → o + i + vs.length ≤ cur.size → (∀ v ∈ vs, v.oneCell' = true) →
    (∀ j, j < cur.size → ¬ (q.1 ≤ j ∧ j < q.2)) → (storeCells ⟨g, o, none⟩ vs i).run P w = .ok () (w.setRow g (cur.toList.take (o + i) ++ vs ++ cur.toList.drop (o + i + vs.length)).toArray)
  | [], i, cur, w, hg, _, _, _ => by
    simp only [storeCells, List.append_nil, List.length_nil, Nat.add_zero, List.take_append_drop, Array.toArray_toList]
    rw [setRow_self w g cur t q hg]
    rfl
  | v :: rest, i, cur, w, hg, hl, h1, hq => by
    have hi : o + i < cur.size := by simp at hl; omega
    have hadd : (⟨g, o, none⟩ : Addr).add i = ⟨g, o + i, none⟩ := by unfold Addr.add; split <;> simp_all
    have hcell : w.cell? ⟨g, o + i, none⟩ = some cur[o + i] := by simp [World.cell?, hg, hi]
    have hfro : w.frozen? ⟨g, o + i, none⟩ = false := by
      have := hq (o + i) hi
      simp only [World.frozen?, hg]
      simp only [Bool.and_eq_false_iff, decide_eq_false_iff_not]
      omega
    have hst : (store ((⟨g, o, none⟩ : Addr).add i) v).run P w = .ok () (w.setRow g (cur.setIfInBounds (o + i) v)) := by
      rw [hadd, run_store P w _ v _ (h1 v (by simp)), hcell]
      simp [hfro, setCell_eq_setRow w g (o + i) cur t q v hg]
    have ih := run_storeCells_fr P g o t q rest (i + 1) (cur.setIfInBounds (o + i) v) (w.setRow g (cur.setIfInBounds (o + i) v)) (setRow_heap w g cur _ t _ hg) (by simp at hl ⊢; omega) (fun x hx => h1 x (by simp [hx])) (by simpa using hq)
    simp only [storeCells, Sem.run_bind, hst, Result.andThen_ok, ih, setRow_setRow]
    congr 3
    have e := list_seg_step cur.toList (o + i) v rest (by simp at hl ⊢; omega)
    simpa [Array.toList_setIfInBounds, Nat.add_assoc] using e
theorem setRowG {C : Ctx} {I : Im} {L : Lh} {w : World} (hs : St C I L w) {i b : Nat} {cs : List Value} {e : TypeId} {q : Nat × Nat} (hL : L[i]? = some [(b, .cells cs.toArray e q)]) (cs' : List Value) : St C I (L.set i [(b, .cells cs'.toArray e q)]) (w.setRow b cs'.toArray) := by
  have hb := hs.mem.loc (b, .cells cs.toArray e q) (mem_chunk hL (by simp))
  exact hs.write hL (setRow_heap w b _ _ e q hb) (fun k hk => setRow_other w b k _ hk) (by simp) rfl rfl rfl
section
variable {P : Program} {C : Ctx} {N : Nat} {ρ : Env} {I : Im} {L : Lh} {K : Value → Im → Lh → Prop} {d : Option Nat} {ty : TypeId} {ps : String} {af : Array Edge} {g : Option (Nat × Bool)}
variable {x y z : Operand} {T T2 E : TypeId}
theorem chunk_cellG {w : World} (hm : Mem I L w) {i b : Nat} {cs : List Value} {e : TypeId} {q : Nat × Nat} (hL : L[i]? = some [(b, .cells cs.toArray e q)]) (o : Nat) : w.cell? ⟨b, o, none⟩ = cs[o]? := by
  have := hm.loc (b, .cells cs.toArray e q) (mem_chunk hL (by simp))
  rw [cell_of this]
  simp
theorem Src.ownG {s m : Nat} {v : Value} {news : List Value} {X : List (Nat × Obj)} {e : TypeId} (i : Nat) (hL : L[i]? = some X) (h : OwnG e s v m news X) : Src P I L s v m news := by
  rcases h with ⟨⟨a, rfl⟩, rfl, rfl, rfl⟩ | ⟨b, c, sp, q, rfl, rfl, h1, h2, h3, h4, h5⟩
  · exact Src.sl (Sl.empty I s a)
  · refine ⟨fun w => by simp [Builtin.lenOf], fun w hm k hk => ?_, h1⟩
    have hle : k * s ≤ m * s := Nat.mul_le_mul_right _ hk
    have htl : (news.take (k * s)).length = k * s := by rw [List.length_take, h1]; exact Nat.min_eq_left hle
    have := run_loadCells_list (P := P) w ⟨b, 0, none⟩ (news.take (k * s)) (fun j u hj => by
      rw [List.getElem?_take] at hj
      split at hj
      · rw [Addr.add_plain, chunk_cellG hm hL, Nat.zero_add, List.getElem?_append_left (List.getElem?_eq_some_iff.1 hj).1]; exact hj
      · cases hj)
    rw [htl] at this
    simp only [Builtin.firstCells, this]
theorem OpS.appendG_core (i : Nat) {n m : Nat} {a0 : Option Addr} {c : Nat} {u : Value} {xs news : List Value} {X : List (Nat × Obj)} {U : TypeId} {inf : TypeInfo} {zv : Value} (hzs : zv.cells.size = inf.size) {a : Act} {w : World}
    (hxe : ev ρ x = some (.slice a0 n c)) (hye : ev ρ y = some u) (ha : Fits N ρ a) (hst : St C I L w) (hL : L[i]? = some X) (hown : OwnG E inf.size (.slice a0 n c) n xs X) (hnl : news.length = m * inf.size) (h1 : ones news = true)
    (hn63 : n + m ≤ maxLen)
    (hboth : (n + m ≤ c → (Builtin.append_ #[T, U] ty #[.slice a0 n c, u]).run P w = ((match a0 with | some ad => storeCells (ad.add (n * inf.size)) news | none => pure ()).run P w).andThen fun _ w' => .ok (.slice a0 (n + m) c) w') ∧
    (c < n + m → ∀ olds, ((Builtin.firstCells inf.size n (.slice a0 n c)).run P w.drew = .ok olds w.drew) →
      (Builtin.append_ #[T, U] ty #[.slice a0 n c, u]).run P w = .ok (.slice (some ⟨w.heap.size, 0, none⟩) (n + m) (grownCap w (n + m) c E))
        (w.drew.alloc (.cells (olds ++ news.toArray ++ Builtin.zeroCells zv.cells (grownCap w (n + m) c E - (n + m))) E))))
    (k : ∀ v' X', OwnG E inf.size v' (n + m) (xs ++ news) X' → (∀ p ∈ X', p.1 ∈ X.map Prod.fst ∨ C.w0.heap.size ≤ p.1) → K v' I (L.set i X')) :
    Yld P ((execOp a.eval ⟨d, .call ⟨.builtin .append, #[x, y], #[T, U]⟩, ty, ps, af, g⟩).run P w) fun v w' => ∃ J L', St C J L' w' ∧ K v J L' := by
  have hmem : ∀ w', w'.heap = w.heap → Mem I L w' := fun w' hw => ⟨by rw [hw]; exact hst.mem.im, by rw [hw]; exact hst.mem.loc, hst.mem.sep, hst.mem.nodup⟩
  have hop : ∀ r, (Builtin.append_ #[T, U] ty #[.slice a0 n c, u]).run P w = r → (execOp a.eval ⟨d, .call ⟨.builtin .append, #[x, y], #[T, U]⟩, ty, ps, af, g⟩).run P w = r.andThen fun v w' => .ok (.value v) w' := fun r hr => by
    simp [execOp, resolve, invoke, builtin, ha.ev hxe, ha.ev hye, hr]
  have hxl := hown.len
  by_cases hroom : n + m ≤ c
  · have hr := hboth.1 hroom
    rcases hown with ⟨⟨a1, hv⟩, rfl, rfl, rfl⟩ | ⟨b, c', sp, q, hv, rfl, h2, h3, h4, h5, h6⟩
    · cases hv
      have hm0 : m = 0 := by omega
      subst hm0
      have hn0 : news = [] := List.eq_nil_of_length_eq_zero (by simpa using hnl)
      subst hn0
      have hr2 : (Builtin.append_ #[T, U] ty #[.slice a0 0 0, u]).run P w = .ok (.slice a0 0 0) w := by
        rw [hr]; cases a0 <;> rfl
      rw [hop _ hr2]
      refine ⟨I, L.set i [], ?_, k _ _ (by simpa using OwnG.empty E inf.size a0) (by simp)⟩
      exact hst.dropAt i
    · cases hv
      rw [hop _ hr]
      have hbh := hst.mem.loc (b, .cells (xs ++ sp).toArray E q) (mem_chunk hL (by simp))
      have hfit : n * inf.size + news.length ≤ (xs ++ sp).length := by rw [hnl, h3, ← Nat.add_mul]; exact Nat.mul_le_mul_right _ hroom
      have hall : ∀ u ∈ news, u.oneCell' = true := fun u hu => List.all_eq_true.1 h1 u hu
      have hst2 := run_storeCells_fr P b (n * inf.size) E q news 0 (xs ++ sp).toArray w hbh (by simpa using hfit) hall (fun j hj => by rcases h6 with rfl | rfl <;> simp at hj ⊢ <;> omega)
      simp only [Nat.add_zero] at hst2
      have hseg : List.take (n * inf.size) (xs ++ sp) ++ news ++ List.drop (n * inf.size + news.length) (xs ++ sp) = (xs ++ news) ++ sp.drop news.length := by
        rw [← h2, List.take_left, List.drop_append]
        simp
      simp only [Addr.add_plain, Nat.zero_add, hst2, Result.andThen_ok]
      refine ⟨I, L.set i [(b, .cells ((xs ++ news) ++ sp.drop news.length).toArray E q)], ?_, k _ _ (.inr ⟨b, c, sp.drop news.length, q, rfl, rfl, ?_, ?_, hroom, h5, ?_⟩) (by simp)⟩
      · rw [hseg]; exact setRowG hst hL _
      · rw [List.length_append, h2, hnl, Nat.add_mul]
      · have : (xs ++ sp).length = n * inf.size + sp.length := by rw [List.length_append, h2]
        simp only [List.length_append, List.length_drop]
        rw [h3] at this hfit
        omega
      · have hle : news.length ≤ sp.length := by rw [List.length_append, h2] at hfit; omega
        have e : ((xs ++ news) ++ sp.drop news.length).length = (xs ++ sp).length := by simp; omega
        rw [e]; exact h6
  · have hlt : c < n + m := by omega
    have hold : (Builtin.firstCells inf.size n (.slice a0 n c)).run P w.drew = .ok xs.toArray w.drew := by
      have := (Src.ownG (P := P) (I := I) i hL hown).cells w.drew (hmem w.drew rfl) n (Nat.le_refl _)
      rwa [← hxl, List.take_length] at this
    have hr := hboth.2 hlt _ hold
    rw [hop _ hr]
    have hge := grownCap_ge w (n + m) c E
    have hcm : grownCap w (n + m) c E ≤ maxLen := grownCap_le_maxLen w (n + m) c E hn63
    refine ⟨I, _, hst.replace hL rfl rfl rfl rfl, k _ _ (.inr ⟨w.heap.size, _, (Builtin.zeroCells zv.cells (grownCap w (n + m) c E - (n + m))).toList, (0, 0), rfl, ?_, ?_, ?_, hge, hcm, .inl rfl⟩) (fun p hp => .inr (by simp only [List.mem_singleton] at hp; subst hp; exact hst.chg.size))⟩
    · have hz2 : xs.toArray ++ news.toArray ++ Builtin.zeroCells zv.cells (grownCap w (n + m) c E - (n + m)) = (xs ++ news ++ (Builtin.zeroCells zv.cells (grownCap w (n + m) c E - (n + m))).toList).toArray := by
        apply Array.ext'
        simp
      rw [hz2]
    · rw [List.length_append, hxl, hnl, Nat.add_mul]
    · simp only [List.length_append, Array.length_toList, size_zeroCells, hzs, hxl, hnl, ← Nat.add_mul]
      congr 1
      omega
theorem OpS.appendG (i : Nat) {s by_ n m : Nat} {v u : Value} {xs news : List Value} {X : List (Nat × Obj)} {U : TypeId} (he : Elt P T E s by_) (hs0 : 0 < s) (hU : (∃ E2, P.underlying U = some (.slice E2)) ∨ P.underlying U = some .string)
    (hx : ev ρ x = some v) (hy : ev ρ y = some u) (hL : L[i]? = some X) (hown : OwnG E s v n xs X) (hsrc : Src P I L s u m news) (h1 : ones news = true)
    (hn63 : n + m ≤ maxLen) (hb : (n + m) * by_ ≤ 140737488355328) (k : ∀ v' X', OwnG E s v' (n + m) (xs ++ news) X' → (∀ p ∈ X', p.1 ∈ X.map Prod.fst ∨ C.w0.heap.size ≤ p.1) → K v' I (L.set i X')) :
    OpS P C N ⟨d, .call ⟨.builtin .append, #[x, y], #[T, U]⟩, ty, ps, af, g⟩ ρ I L K := fun a w ha hst => by
  obtain ⟨inf, zv, hi, hz, rfl, rfl, hzs⟩ := he.info
  have hmem : ∀ w', w'.heap = w.heap → Mem I L w' := fun w' hw => ⟨by rw [hw]; exact hst.mem.im, by rw [hw]; exact hst.mem.loc, hst.mem.sep, hst.mem.nodup⟩
  have hcells : ∀ w', w'.heap = w.heap → (Builtin.firstCells inf.size m u).run P w' = .ok news.toArray w' := fun w' hw => by
    have := hsrc.cells w' (hmem w' hw) m (Nat.le_refl _)
    rwa [← hsrc.size, List.take_length] at this
  have h63 : n + m ≤ 9223372036854775807 := by unfold maxLen at hn63; omega
  obtain ⟨a0, c, rfl⟩ := hown.shape
  have hboth : (n + m ≤ c → (Builtin.append_ #[T, U] ty #[.slice a0 n c, u]).run P w = ((match a0 with | some ad => storeCells (ad.add (n * inf.size)) news | none => pure ()).run P w).andThen fun _ w' => .ok (.slice a0 (n + m) c) w') ∧
    (c < n + m → ∀ olds, ((Builtin.firstCells inf.size n (.slice a0 n c)).run P w.drew = .ok olds w.drew) →
      (Builtin.append_ #[T, U] ty #[.slice a0 n c, u]).run P w = .ok (.slice (some ⟨w.heap.size, 0, none⟩) (n + m) (grownCap w (n + m) c E))
        (w.drew.alloc (.cells (olds ++ news.toArray ++ Builtin.zeroCells zv.cells (grownCap w (n + m) c E - (n + m))) E))) := by
    rcases hU with ⟨E2, hU⟩ | hU
    · exact run_append_sl he.und hi hz hU hsrc.len hcells h63 hb
    · exact run_append_str he.und hi hz hU hsrc.len hcells h63 hb
  exact appendG_core i hzs hx hy ha hst hL hown hsrc.size h1 hn63 hboth k
end
end Go.Ab
set_option linter.unusedVariables false
namespace Go.Ab
open Go.Fl Go.RowKit
open Rep (rep)
abbrev AEnv := List (Nat × AV)
def lookA : AEnv → Nat → Option AV
  | [], _ => none
  | (s, v) :: r, t => bif Nat.beq s t then some v else lookA r t
theorem lookA_cons (s : Nat) (v : AV) (ρ : AEnv) (t : Nat) : lookA ((s, v) :: ρ) t = if s = t then some v else lookA ρ t := by
  by_cases h : s = t
  · subst h; simp [lookA]
  · simp [lookA, h, beq_ne h]
class UB (α : Type) where
  ub : Im → Value → α → List (Nat × Obj) → Prop
  mono : ∀ {I J w x X}, Le I J → ub I w x X → ub J w x X
inductive Blk : Type 1 where
  | ob {α : Type} [r : Rep α] (w : Value) (x : α)
  | own {α : Type} [r : Rep α] (E : TypeId) (w : Value) (l : List α)
  | fz (w : Value) (a : AV)
  | usr {α : Type} [r : UB α] (w : Value) (x : α)
  | none_
def Blk.brep (I : Im) : Blk → List (Nat × Obj) → Prop
  | @Blk.ob α r w x, X => ∃ b T cs, w = ptr b 0 ∧ X = [(b, row cs T)] ∧ @Rep.rep α r I x cs
  | @Blk.own α r E w l, X => ∃ xs, OwnG E (@Rep.size α r) w l.length xs X ∧ @repL α r I l xs
  | .fz w a, X => X = [] ∧ RepV I a w
  | @Blk.usr α r w x, X => r.ub I w x X
  | .none_, _ => True
theorem Blk.mono {I J : Im} (hle : Le I J) : ∀ {B : Blk} {X : List (Nat × Obj)}, B.brep I X → B.brep J X
  | @Blk.ob α r w x, _, h => by obtain ⟨b, T, cs, h1, h2, h3⟩ := h; exact ⟨b, T, cs, h1, h2, @Rep.mono α r _ _ _ _ hle h3⟩
  | @Blk.own α r E w l, _, h => by obtain ⟨xs, h1, h2⟩ := h; exact ⟨xs, h1, h2.mono hle⟩
  | .fz w a, _, h => ⟨h.1, h.2.mono hle⟩
  | @Blk.usr α r w x, _, h => r.mono hle h
  | .none_, _, _ => trivial
abbrev AHeap := List (Bool × Blk)
def repB (n0 : Nat) (I : Im) (B : Bool × Blk) (X : List (Nat × Obj)) : Prop := B.2.brep I X ∧ (B.1 = true → ∀ p ∈ X, n0 ≤ p.1)
def repH (n0 : Nat) (I : Im) : AHeap → Lh → Prop
  | [], L => L = []
  | B :: H, L => ∃ X R, L = X :: R ∧ repB n0 I B X ∧ repH n0 I H R
theorem repB.mono {n0 : Nat} {I J : Im} (hle : Le I J) {B : Bool × Blk} {X : List (Nat × Obj)} (h : repB n0 I B X) : repB n0 J B X := ⟨Blk.mono hle h.1, h.2⟩
theorem repH.mono {n0 : Nat} {I J : Im} (hle : Le I J) : ∀ {H : AHeap} {L : Lh}, repH n0 I H L → repH n0 J H L
  | [], _, h => h
  | B :: H, _, h => by obtain ⟨X, R, h1, h2, h3⟩ := h; exact ⟨X, R, h1, h2.mono hle, h3.mono hle⟩
theorem repH.append {n0 : Nat} {I : Im} : ∀ {H K : AHeap} {L M : Lh}, repH n0 I H L → repH n0 I K M → repH n0 I (H ++ K) (L ++ M)
  | [], _, _, _, h, k => by simp [repH] at h; simpa [h] using k
  | B :: H, _, _, _, h, k => by obtain ⟨X, R, rfl, h2, h3⟩ := h; exact ⟨X, R ++ _, rfl, h2, h3.append k⟩
structure RSt (C : Ctx) (I : Im) (L : Lh) (σ : AEnv) (H : AHeap) (ρ : Env) : Prop where
  env : ∀ t a, lookA σ t = some a → ∃ u, Fl.look ρ t = some u ∧ RepV I a u
  heap : repH C.w0.heap.size I H L
  im0 : Le C.I0 I
theorem RSt.mono {C : Ctx} {I J : Im} {L : Lh} {σ : AEnv} {H : AHeap} {ρ : Env} (hle : Le I J) (h : RSt C I L σ H ρ) : RSt C J L σ H ρ :=
  ⟨fun t a ht => by obtain ⟨u, h1, h2⟩ := h.env t a ht; exact ⟨u, h1, h2.mono hle⟩, h.heap.mono hle, h.im0.trans hle⟩
theorem RSt.put {C : Ctx} {I J : Im} {L L' : Lh} {σ : AEnv} {H H' : AHeap} {ρ : Env} (hle : Le I J) (h : RSt C I L σ H ρ) {d : Nat} {r : AV} {v : Value} (hv : RepV J r v) (hH : repH C.w0.heap.size J H' L') :
    RSt C J L' ((d, r) :: σ) H' ((d, v) :: ρ) := by
  refine ⟨fun t a ht => ?_, hH, h.im0.trans hle⟩
  rw [lookA_cons] at ht
  rw [Fl.look_cons]
  by_cases e : d = t
  · rw [if_pos e] at ht ⊢; cases ht; exact ⟨v, rfl, hv⟩
  · rw [if_neg e] at ht ⊢
    obtain ⟨u, h1, h2⟩ := h.env t a ht
    exact ⟨u, h1, h2.mono hle⟩
def SubA (σ' σ : AEnv) : Prop := ∀ t a, lookA σ' t = some a → lookA σ t = some a
theorem SubA.nil (σ : AEnv) : SubA [] σ := fun _ _ h => by simp [lookA] at h
theorem SubA.cons {σ' σ : AEnv} {t : Nat} {a : AV} (h : lookA σ t = some a) (k : SubA σ' σ) : SubA ((t, a) :: σ') σ := fun s b hb => by
  rw [lookA_cons] at hb
  by_cases e : t = s
  · subst e; simp at hb; subst hb; exact h
  · rw [if_neg e] at hb; exact k s b hb
theorem RSt.sub {C : Ctx} {I : Im} {L : Lh} {σ σ' : AEnv} {H : AHeap} {ρ : Env} (h : RSt C I L σ H ρ) (k : SubA σ' σ) : RSt C I L σ' H ρ := ⟨fun t a ht => h.env t a (k t a ht), h.heap, h.im0⟩
def qA (C : Ctx) (Q : Exit → AEnv → AHeap → Prop) : Exit → Env → Im → Lh → Prop := fun e ρ I L => ∃ σ H, RSt C I L σ H ρ ∧ Q e σ H
def wpA (P : Program) (C : Ctx) (N : Nat) (c : Code) (Q : Exit → AEnv → AHeap → Prop) (σ : AEnv) (H : AHeap) : Prop :=
  ∀ ρ I L, RSt C I L σ H ρ → wpS P C N c (qA C Q) ρ I L
def wpB (P : Program) (C : Ctx) (N : Nat) (ops : Array Oper) (Q : Exit → AEnv → AHeap → Prop) (l : List Oper) (σ : AEnv) (H : AHeap) : Prop :=
  ∀ ρ I L, RSt C I L σ H ρ → wpL P C N ops (qA C Q) l ρ I L
def EvA (C : Ctx) (σ : AEnv) (H : AHeap) (x : Operand) (a : AV) : Prop := ∀ ρ I L, RSt C I L σ H ρ → ∃ u, ev ρ x = some u ∧ RepV I a u
section evA
variable {C : Ctx} {σ : AEnv} {H : AHeap}
theorem EvA.t {t : Nat} {a : AV} (h : lookA σ t = some a) : EvA C σ H (.tmp t) a := fun ρ I L hs => hs.env t a h
theorem EvA.i {n : Int} (h : (decide (-9223372036854775808 ≤ n) && decide (n ≤ 9223372036854775807)) = true) : EvA C σ H (.const (.int .i64 n)) (.v n) := fun ρ I L hs => by
  simp only [Bool.and_eq_true, decide_eq_true_eq] at h
  exact ⟨_, rfl, _, ⟨rfl, h.1, h.2⟩, rfl⟩
theorem EvA.u8 (x : UInt8) {m : Int} (h : m = (x.toNat : Int)) : EvA C σ H (.const (.int .u8 m)) (.v x) := fun ρ I L hs => ⟨_, rfl, _, rfl, by rw [h]; rfl⟩
theorem EvA.b {x : Bool} : EvA C σ H (.const (.bool x)) (.v x) := fun ρ I L hs => ⟨_, rfl, _, rfl, rfl⟩
theorem EvA.s {x : ByteArray} (l : List UInt8) (h : x.data.toList = l) (hl : l.length ≤ 9223372036854775807) : EvA C σ H (.const (.string x)) (.v (Str.mk l)) := fun ρ I L hs => ⟨_, rfl, _, ⟨⟨x, rfl, h⟩, hl⟩, rfl⟩
theorem EvA.nilS {α : Type} [Rep α] : EvA C σ H (.const (.slice none 0 0)) (.v ([] : List α)) := fun ρ I L hs => ⟨_, rfl, _, ⟨_, rfl, [], Sl.nil I _, rfl⟩, rfl⟩
theorem EvA.raw {u : Value} : EvA C σ H (.const u) (.raw u) := fun ρ I L hs => ⟨_, rfl, rfl⟩
theorem EvA.c {α : Type} {r : Rep α} {t : Nat} {l : List α} (h : lookA σ t = some (.vc l)) : EvA C σ H (.tmp t) (.v l) := fun ρ I L hs => by
  obtain ⟨u, h1, h2, h3⟩ := hs.env t _ h
  exact ⟨u, h1, [u], ⟨u, rfl, h3⟩, rfl⟩
theorem EvA.o {t : Nat} {a : AV} {c : Bool} (h : lookA σ t = some (.opt c a)) (hc : c = true) : EvA C σ H (.tmp t) a := fun ρ I L hs => by
  obtain ⟨u, h1, h2⟩ := hs.env t _ h
  exact ⟨u, h1, h2 hc⟩
theorem EvA.int {x : Operand} {n : Int} (h : EvA C σ H x (.v n)) {ρ : Env} {I : Im} {L : Lh} (hs : RSt C I L σ H ρ) : ev ρ x = some (i64 n) ∧ -9223372036854775808 ≤ n ∧ n ≤ 9223372036854775807 := by
  obtain ⟨u, h1, cs, ⟨rfl, h2⟩, rfl⟩ := h ρ I L hs
  exact ⟨h1, h2⟩
theorem EvA.bool {x : Operand} {b : Bool} (h : EvA C σ H x (.v b)) {ρ : Env} {I : Im} {L : Lh} (hs : RSt C I L σ H ρ) : ev ρ x = some (.bool b) := by
  obtain ⟨u, h1, cs, rfl, rfl⟩ := h ρ I L hs
  exact h1
theorem EvA.by8 {x : Operand} {n : UInt8} (h : EvA C σ H x (.v n)) {ρ : Env} {I : Im} {L : Lh} (hs : RSt C I L σ H ρ) : ev ρ x = some (Fl.u8 n) := by
  obtain ⟨u, h1, cs, rfl, rfl⟩ := h ρ I L hs
  exact h1
theorem EvA.by64 {x : Operand} {n : UInt64} (h : EvA C σ H x (.v n)) {ρ : Env} {I : Im} {L : Lh} (hs : RSt C I L σ H ρ) : ev ρ x = some (Fl.u64 n) := by
  obtain ⟨u, h1, cs, rfl, rfl⟩ := h ρ I L hs
  exact h1
theorem EvA.str {x : Operand} {s : Str} (h : EvA C σ H x (.v s)) {ρ : Env} {I : Im} {L : Lh} (hs : RSt C I L σ H ρ) : ∃ b, ev ρ x = some (.string b) ∧ b.data.toList = s.l := by
  obtain ⟨u, h1, cs, ⟨⟨b, rfl, h2⟩, _⟩, rfl⟩ := h ρ I L hs
  exact ⟨b, h1, h2⟩
theorem EvA.strLe {x : Operand} {s : Str} (h : EvA C σ H x (.v s)) {ρ : Env} {I : Im} {L : Lh} (hs : RSt C I L σ H ρ) : s.l.length ≤ 9223372036854775807 := by
  obtain ⟨u, h1, cs, ⟨_, h2⟩, rfl⟩ := h ρ I L hs
  exact h2
theorem EvA.sl {α : Type} {r : Rep α} {x : Operand} {l : List α} (h : EvA C σ H x (.v l)) {ρ : Env} {I : Im} {L : Lh} (hs : RSt C I L σ H ρ) : ∃ u, ev ρ x = some u ∧ SlA I u l := by
  obtain ⟨u, h1, cs, ⟨v, rfl, h2⟩, rfl⟩ := h ρ I L hs
  exact ⟨_, h1, h2⟩
end evA
section control
variable {P : Program} {C : Ctx} {N : Nat} {Q : Exit → AEnv → AHeap → Prop} {σ : AEnv} {H : AHeap}
theorem wpA.skip (h : Q .normal σ H) : wpA P C N .skip Q σ H := fun ρ I L hs => .skip ⟨σ, H, hs, h⟩
theorem wpA.ret (h : Q .ret σ H) : wpA P C N .ret Q σ H := fun ρ I L hs => .ret ⟨σ, H, hs, h⟩
theorem wpA.exit {id : Nat} (h : Q (.exit id) σ H) : wpA P C N (.exit id) Q σ H := fun ρ I L hs => .exit ⟨σ, H, hs, h⟩
@[reducible] def thenA (next : AEnv → AHeap → Prop) (Q : Exit → AEnv → AHeap → Prop) : Exit → AEnv → AHeap → Prop
  | .normal, σ, H => next σ H
  | e, σ, H => Q e σ H
theorem wpA.seq {x y : Code} (h : wpA P C N x (thenA (wpA P C N y Q) Q) σ H) : wpA P C N (.seq x y) Q σ H := fun ρ I L hs => by
  refine .seq ((h ρ I L hs).mono fun e ρ I L ⟨σ, H, h1, h2⟩ => ?_)
  cases e with
  | normal => exact h2 ρ I L h1
  | _ => exact ⟨σ, H, h1, h2⟩
theorem wpA.cond {c : Operand} {x y : Code} {b : Bool} (hc : EvA C σ H c (.v b)) (ht : b = true → wpA P C N x Q σ H) (hf : b = false → wpA P C N y Q σ H) : wpA P C N (.cond c x y) Q σ H :=
  fun ρ I L hs => .cond (hc.bool hs) (fun e => ht e ρ I L hs) (fun e => hf e ρ I L hs)
theorem wpA.condP {c : Operand} {x y : Code} {p : Prop} {_ : Decidable p} (hc : EvA C σ H c (.v (decide p))) (ht : p → wpA P C N x Q σ H) (hf : ¬ p → wpA P C N y Q σ H) : wpA P C N (.cond c x y) Q σ H :=
  .cond hc (fun e => ht (of_decide_eq_true e)) (fun e => hf (of_decide_eq_false e))
@[reducible] def blockA (id : Nat) (Q : Exit → AEnv → AHeap → Prop) : Exit → AEnv → AHeap → Prop
  | .exit i, σ, H => bif Nat.beq i id then Q .normal σ H else Q (.exit i) σ H
  | e, σ, H => Q e σ H
theorem wpA.block {id : Nat} {c : Code} (h : wpA P C N c (blockA id Q) σ H) : wpA P C N (.block id c) Q σ H := fun ρ I L hs => by
  refine .block ((h ρ I L hs).mono fun e ρ I L ⟨σ, H, h1, h2⟩ => ?_)
  cases e with
  | exit i =>
    simp only [blockQ, blockA] at *
    cases hb : Nat.beq i id with
    | true => simp only [hb, cond_true] at *; exact ⟨σ, H, h1, h2⟩
    | false => simp only [hb, cond_false] at *; exact ⟨σ, H, h1, h2⟩
  | _ => exact ⟨σ, H, h1, h2⟩
theorem wpS.loop0 {Q : Exit → Env → Im → Lh → Prop} {ρ : Env} {I : Im} {L : Lh} {α : Type} (E : α → Env) (Lf : α → Lh) (F : α → Im → Prop) (μ : α → Nat) {c : Code}
    (x0 : α) (h0 : F x0 I) (hE : Sub (E x0) ρ) (hL : L = Lf x0)
    (round : ∀ x J, F x J → wpS P C N c (thenQ (fun ρ' J' L' => ∃ x', Sub (E x') ρ' ∧ L' = Lf x' ∧ F x' J' ∧ μ x' < μ x) Q) (E x) J (Lf x)) :
    wpS P C N (.loop c) Q ρ I L := fun a w ha hw => by
  intro b k cs hro hfn hroom
  have key : ∀ n x J a w, μ x = n → F x J → Fits N (E x) a → St C J (Lf x) w →
      ∃ e a' w', liftQ C N Q e a' w' ∧ ArrivesIn (Machine.fenced P C.fen) P (lone (b.atR a (.code c :: .inLoop c :: k)) cs w) b k cs e a' w' := by
    intro n
    induction n using Nat.strongRecOn with
    | _ n ih =>
      intro x J a w hn hF ha hw
      obtain ⟨e, a1, w1, ⟨ρ1, J1, L1, hf1, hs1, hq1⟩, harr⟩ := round x J hF a w ha hw b (.inLoop c :: k) cs hro hfn hroom
      cases e with
      | normal =>
        obtain ⟨x', hsub, rfl, hF', hlt⟩ := hq1
        obtain ⟨e2, a2, w2, hq2, harr2⟩ := ih (μ x') (hn ▸ hlt) x' J1 a1 w1 rfl hF' (hf1.sub hsub) hs1
        exact ⟨e2, a2, w2, hq2, .of_steps (StepsIn.trans harr (.one (fenced_calm hfn hroom rfl) stepR_inLoop)) harr2⟩
      | exit id => exact ⟨_, a1, w1, ⟨ρ1, J1, L1, hf1, hs1, hq1⟩, .pass (x := .inLoop c) rfl (fun _ _ => .inl (by simp)) harr⟩
      | goto l => exact ⟨_, a1, w1, ⟨ρ1, J1, L1, hf1, hs1, hq1⟩, .pass (x := .inLoop c) rfl (fun _ _ => .inl (by simp)) harr⟩
      | ret => exact ⟨_, a1, w1, ⟨ρ1, J1, L1, hf1, hs1, hq1⟩, .pass (x := .inLoop c) rfl (fun _ _ => .inl (by simp)) harr⟩
      | panic ch => exact ⟨_, a1, w1, ⟨ρ1, J1, L1, hf1, hs1, hq1⟩, .pass (x := .inLoop c) rfl (fun _ _ => .inl (by simp)) harr⟩
      | outgrown => exact ⟨_, a1, w1, ⟨ρ1, J1, L1, hf1, hs1, hq1⟩, .pass (x := .inLoop c) rfl (fun _ _ => .inl (by simp)) harr⟩
  subst hL
  obtain ⟨e, a', w', hq, harr⟩ := key _ x0 I a w rfl h0 (ha.sub hE) hw
  exact ⟨e, a', w', hq, .of_steps (.one (fenced_calm hfn hroom rfl) stepR_loop) harr⟩
theorem wpA.loop {α : Type} (E : α → AEnv) (Hf : α → AHeap) (F : α → Prop) (μ : α → Nat) {c : Code}
    (x0 : α) (h0 : F x0) (hE : SubA (E x0) σ) (hH : H = Hf x0)
    (round : ∀ x, F x → wpA P C N c (thenA (fun σ' H' => ∃ x', SubA (E x') σ' ∧ H' = Hf x' ∧ F x' ∧ μ x' < μ x) Q) (E x) (Hf x)) :
    wpA P C N (.loop c) Q σ H := fun ρ I L hs => by
  refine wpS.loop0 (α := α × Env × Lh) (fun y => y.2.1) (fun y => y.2.2) (fun y J => F y.1 ∧ RSt C J y.2.2 (E y.1) (Hf y.1) y.2.1) (fun y => μ y.1) (x0, ρ, L) ⟨h0, hH ▸ hs.sub hE⟩ (Sub.refl _) rfl ?_
  rintro ⟨x, ρ1, L1⟩ J ⟨hF, hR⟩
  refine (round x hF ρ1 J L1 hR).mono fun e ρ2 J2 L2 ⟨σ2, H2, h1, h2⟩ => ?_
  cases e with
  | normal =>
    obtain ⟨x', k1, k2, k3, k4⟩ := h2
    subst k2
    exact ⟨(x', ρ2, L2), Sub.refl _, rfl, ⟨k3, h1.sub k1⟩, k4⟩
  | _ => exact ⟨σ2, H2, h1, h2⟩
theorem wpA.loopR (R : AEnv) {α : Type} (V : α → AEnv → AEnv) (Hf : α → AHeap) (F : α → Prop) (μ : α → Nat) {c : Code}
    (x0 : α) (hR : SubA R σ) (h0 : F x0) (hE : SubA (V x0 R) σ) (hH : H = Hf x0)
    (round : ∀ x, F x → wpA P C N c (thenA (fun σ' H' => ∃ x', SubA (V x' R) σ' ∧ H' = Hf x' ∧ F x' ∧ μ x' < μ x) Q) (V x R) (Hf x)) :
    wpA P C N (.loop c) Q σ H := .loop (fun x => V x R) Hf F μ x0 h0 hE hH round
end control
end Go.Ab
set_option linter.unusedVariables false
namespace Go.Ab
open Go.Fl Go.RowKit
open Rep (rep)
theorem OpX.monoLe {P : Program} {N : Nat} {o : Oper} {ρ : Env} {I : Im} {L : Lh} {K K' : Value → Im → Lh → Prop} (h : OpX P N o ρ I L K) (hk : ∀ v J X, Le I J → K v J X → K' v J X) : OpX P N o ρ I L K' :=
  fun a w ha hm => (h a w ha hm).mono fun v w' ⟨J, X, a1, a2, a3, a4, a5, a6⟩ => ⟨J, X, a1, a2, a3, a4, a5, hk v J X a2 a6⟩
theorem OpS.mono' {P : Program} {C : Ctx} {N : Nat} {o : Oper} {ρ : Env} {I : Im} {L : Lh} {K K' : Value → Im → Lh → Prop} (h : OpS P C N o ρ I L K) (hk : ∀ v J X, K v J X → K' v J X) : OpS P C N o ρ I L K' :=
  fun a w ha hm => (h a w ha hm).mono fun v w' ⟨J, X, a1, a2⟩ => ⟨J, X, a1, hk v J X a2⟩
def OpP (P : Program) (N : Nat) (C : Ctx) (o : Oper) (σ : AEnv) (H : AHeap) (K : AV → Prop) : Prop :=
  ∀ ρ I L, RSt C I L σ H ρ → OpX P N o ρ I L (fun v J X => X = [] ∧ ∃ r, RepV J r v ∧ K r)
def OpH (P : Program) (C : Ctx) (N : Nat) (o : Oper) (σ : AEnv) (H : AHeap) (K : AV → AHeap → Prop) : Prop :=
  ∀ ρ I L, RSt C I L σ H ρ → OpS P C N o ρ I L (fun v J L' => Le I J ∧ ∃ r H', RepV J r v ∧ repH C.w0.heap.size J H' L' ∧ K r H')
theorem OpP.ofV {P : Program} {N : Nat} {C : Ctx} {o : Oper} {σ : AEnv} {H : AHeap} {K : AV → Prop} (r : AV) (h : ∀ ρ I L, RSt C I L σ H ρ → OpV P N o ρ I L (fun v => RepV I r v)) (k : K r) : OpP P N C o σ H K :=
  fun ρ I L hs => .ofV fun a w ha hm => by
    obtain ⟨v, hv, hr⟩ := h ρ I L hs a w ha hm
    exact ⟨v, ⟨rfl, r, hv, k⟩, hr⟩
section opers
variable {P : Program} {C : Ctx} {N : Nat} {ops : Array Oper} {Q : Exit → AEnv → AHeap → Prop} {rest : List Oper} {σ : AEnv} {H : AHeap}
theorem wpB.nil (h : Q .normal σ H) : wpB P C N ops Q [] σ H := fun ρ I L hs => .nil ⟨σ, H, hs, h⟩
theorem wpB.p {d : Nat} {op : Op} {ty : TypeId} {ps : String} {af : Array Edge}
    (h : OpP P N C ⟨some d, op, ty, ps, af, none⟩ σ H (fun r => wpB P C N ops Q rest ((d, r) :: σ) H)) :
    wpB P C N ops Q (⟨some d, op, ty, ps, af, none⟩ :: rest) σ H := fun ρ I L hs =>
  .x (OpX.monoLe (h ρ I L hs) fun v J X hle ⟨hX, r, hr, hk⟩ => by subst hX; exact hk _ _ _ (hs.put hle hr (hs.heap.mono hle)))
theorem wpB.h {d : Nat} {op : Op} {ty : TypeId} {ps : String} {af : Array Edge}
    (h : OpH P C N ⟨some d, op, ty, ps, af, none⟩ σ H (fun r H' => wpB P C N ops Q rest ((d, r) :: σ) H')) :
    wpB P C N ops Q (⟨some d, op, ty, ps, af, none⟩ :: rest) σ H := fun ρ I L hs =>
  .s (OpS.mono' (h ρ I L hs) fun v J L' ⟨hle, r, H', hr, hH, hk⟩ => hk _ _ _ (hs.put hle hr hH))
theorem wpB.n {op : Op} {ty : TypeId} {ps : String} {af : Array Edge}
    (h : OpH P C N ⟨none, op, ty, ps, af, none⟩ σ H (fun _ H' => wpB P C N ops Q rest σ H')) :
    wpB P C N ops Q (⟨none, op, ty, ps, af, none⟩ :: rest) σ H := fun ρ I L hs =>
  .n (OpS.mono' (h ρ I L hs) fun v J L' ⟨hle, r, H', hr, hH, hk⟩ => hk _ _ _ ⟨(hs.mono hle).env, hH, hs.im0.trans hle⟩)
theorem wpB.go {d : Nat} {op : Op} {ty : TypeId} {ps : String} {af : Array Edge} {j : Nat} {want : Bool} (dj : Nat) (hj : (ops[j]?).bind (·.dst) = some dj) {b : Bool} (hb : EvA C σ H (.tmp dj) (.v b)) {r : AV}
    (h : b = want → OpP P N C ⟨some d, op, ty, ps, af, none⟩ σ H (fun r' => r' = r)) (k : wpB P C N ops Q rest ((d, .opt (b == want) r) :: σ) H) :
    wpB P C N ops Q (⟨some d, op, ty, ps, af, some (j, want)⟩ :: rest) σ H := fun ρ I L hs => by
  have hbv := hb.bool hs
  by_cases e : b = want
  · refine .gt dj hj (by rw [← e]; exact hbv) (OpS.ofX (OpX.monoLe (h e ρ I L hs) fun v J X hle ⟨hX, r', hr, hk⟩ => ?_))
    subst hX; subst hk
    exact k _ _ _ (hs.put hle (r := .opt (b == want) r') (fun _ => hr) (hs.heap.mono hle))
  · have e' : b = !want := by cases b <;> cases want <;> simp_all
    exact .gf dj hj (by rw [← e']; exact hbv) (k _ _ _ (hs.put (Le.refl I) (r := .opt (b == want) r) (fun hc => absurd (by simpa using hc) e) hs.heap))
theorem wpA.region {id : Nat} {l : List Oper} (hd : dstOk N l = true) (h : wpB P C N l.toArray Q l σ H) : wpA P C N (.region id l.toArray false) Q σ H := fun ρ I L hs => .region hd (h ρ I L hs)
inductive Hole : AHeap → Bool × Blk → (Bool × Blk → AHeap) → Prop
  | z {B : Bool × Blk} {H : AHeap} : Hole (B :: H) B (fun X => X :: H)
  | s {A B : Bool × Blk} {H : AHeap} {F : Bool × Blk → AHeap} (h : Hole H B F) : Hole (A :: H) B (fun X => A :: F X)
theorem Hole.get {n0 : Nat} {I : Im} {H : AHeap} {B : Bool × Blk} {F : Bool × Blk → AHeap} (h : Hole H B F) : ∀ {L : Lh}, repH n0 I H L →
    ∃ i X, L[i]? = some X ∧ repB n0 I B X ∧ ∀ J B' X', Le I J → repB n0 J B' X' → repH n0 J (F B') (L.set i X') := by
  induction h with
  | z =>
    rintro _ ⟨X, R, rfl, h1, h2⟩
    exact ⟨0, X, rfl, h1, fun J B' X' hle hb => ⟨X', R, rfl, hb, h2.mono hle⟩⟩
  | s h ih =>
    rintro _ ⟨X, R, rfl, h1, h2⟩
    obtain ⟨i, Y, h3, h4, h5⟩ := ih h2
    exact ⟨i + 1, Y, by simpa using h3, h4, fun J B' X' hle hb => ⟨X, R.set i X', by simp, h1.mono hle, h5 J B' X' hle hb⟩⟩
theorem freeze_own {I J : Im} {E : TypeId} {α : Type} {r : Rep α} {w : Value} {l : List α} {X : List (Nat × Obj)} (h : (Blk.own E w l).brep I X) (hle : Le I J) (hp : ∀ p ∈ X, J p.1 = some p.2) : RepV J (.v l) w := by
  obtain ⟨xs, h1, h2⟩ := h
  obtain ⟨a, c, rfl⟩ := h1.shape
  exact ⟨_, ⟨_, rfl, xs, h1.sl hp, h2.mono hle⟩, rfl⟩
theorem freeze_ob {I J : Im} {α : Type} {r : Rep α} {w : Value} {x : α} {X : List (Nat × Obj)} (h : (Blk.ob w x).brep I X) (hle : Le I J) (hp : ∀ p ∈ X, J p.1 = some p.2) : RepV J (.p x) w := by
  obtain ⟨b, T, cs, rfl, rfl, h3⟩ := h
  exact ⟨b, 0, cs, rfl, Rep.mono hle h3, Cells.of_row (hp (b, row cs T) (List.mem_singleton.2 rfl))⟩
def Ctx.Ok (C : Ctx) : Prop := ∀ k ∈ C.M, k < C.w0.heap.size
theorem frz_ok (hC : Ctx.Ok C) {B : Blk} {I : Im} {X : List (Nat × Obj)} (h : repB C.w0.heap.size I (true, B) X) : ∀ p ∈ X, p.1 ∈ C.M → False := fun p hp hm => by
  have := h.2 rfl p hp
  have := hC _ hm
  omega
theorem wpB.frzOwn (hC : Ctx.Ok C) {E : TypeId} {α : Type} {r : Rep α} {w : Value} {l : List α} {os : List Oper} {F : Bool × Blk → AHeap} (h : Hole H (true, .own E w l) F) (k : wpB P C N ops Q os σ (F (true, .fz w (.v l)))) : wpB P C N ops Q os σ H := fun ρ I L hs => by
  obtain ⟨i, X, h1, h2, h3⟩ := h.get hs.heap
  refine .freeze i h1 (frz_ok hC h2) fun J hle hp => k ρ J _ ⟨(hs.mono hle).env, h3 J _ [] hle ⟨⟨rfl, freeze_own h2.1 hle hp⟩, by simp⟩, hs.im0.trans hle⟩
theorem freeze_ownC {I J : Im} {E : TypeId} {α : Type} {r : Rep α} {b n : Nat} {l : List α} {X : List (Nat × Obj)} (h : (Blk.own E (slc b 0 n n) l).brep I X) (hn : l.length = n) (hle : Le I J) (hp : ∀ p ∈ X, J p.1 = some p.2) : RepV J (.vc l) (slc b 0 n n) := by
  obtain ⟨xs, h1, h2⟩ := h
  subst hn
  exact ⟨⟨_, rfl⟩, xs, h1.sl hp, h2.mono hle⟩
theorem wpA.frzC (hC : Ctx.Ok C) {E : TypeId} {α : Type} {r : Rep α} {b n : Nat} {l : List α} {c : Code} {F : Bool × Blk → AHeap} (h : Hole H (true, .own E (slc b 0 n n) l) F) (hn : l.length = n) (k : wpA P C N c Q σ (F (true, .fz (slc b 0 n n) (.vc l)))) : wpA P C N c Q σ H := fun ρ I L hs => by
  obtain ⟨i, X, h1, h2, h3⟩ := h.get hs.heap
  refine .freeze i h1 (frz_ok hC h2) fun J hle hp => k ρ J _ ⟨(hs.mono hle).env, h3 J _ [] hle ⟨⟨rfl, freeze_ownC h2.1 hn hle hp⟩, by simp⟩, hs.im0.trans hle⟩
theorem wpB.frzOb (hC : Ctx.Ok C) {α : Type} {r : Rep α} {w : Value} {x : α} {os : List Oper} {F : Bool × Blk → AHeap} (h : Hole H (true, .ob w x) F) (k : wpB P C N ops Q os σ (F (true, .fz w (.p x)))) : wpB P C N ops Q os σ H := fun ρ I L hs => by
  obtain ⟨i, X, h1, h2, h3⟩ := h.get hs.heap
  refine .freeze i h1 (frz_ok hC h2) fun J hle hp => k ρ J _ ⟨(hs.mono hle).env, h3 J _ [] hle ⟨⟨rfl, freeze_ob h2.1 hle hp⟩, by simp⟩, hs.im0.trans hle⟩
theorem wpA.frzOwn (hC : Ctx.Ok C) {E : TypeId} {α : Type} {r : Rep α} {w : Value} {l : List α} {c : Code} {F : Bool × Blk → AHeap} (h : Hole H (true, .own E w l) F) (k : wpA P C N c Q σ (F (true, .fz w (.v l)))) : wpA P C N c Q σ H := fun ρ I L hs => by
  obtain ⟨i, X, h1, h2, h3⟩ := h.get hs.heap
  refine .freeze i h1 (frz_ok hC h2) fun J hle hp => k ρ J _ ⟨(hs.mono hle).env, h3 J _ [] hle ⟨⟨rfl, freeze_own h2.1 hle hp⟩, by simp⟩, hs.im0.trans hle⟩
theorem wpA.frzOb (hC : Ctx.Ok C) {α : Type} {r : Rep α} {w : Value} {x : α} {c : Code} {F : Bool × Blk → AHeap} (h : Hole H (true, .ob w x) F) (k : wpA P C N c Q σ (F (true, .fz w (.p x)))) : wpA P C N c Q σ H := fun ρ I L hs => by
  obtain ⟨i, X, h1, h2, h3⟩ := h.get hs.heap
  refine .freeze i h1 (frz_ok hC h2) fun J hle hp => k ρ J _ ⟨(hs.mono hle).env, h3 J _ [] hle ⟨⟨rfl, freeze_ob h2.1 hle hp⟩, by simp⟩, hs.im0.trans hle⟩
theorem RSt.as {C : Ctx} {I : Im} {L : Lh} {ρ : Env} (t : Nat) {w : Value} {a : AV} {g : Bool} {F : Bool × Blk → AHeap} (ht : lookA σ t = some (.raw w)) (h : Hole H (g, .fz w a) F) (hs : RSt C I L σ H ρ) : RSt C I L ((t, a) :: σ) H ρ :=
  ⟨fun s b hb => by
    rw [lookA_cons] at hb
    by_cases e : t = s
    · subst e; simp at hb; subst hb
      obtain ⟨u, h1, rfl⟩ := hs.env t _ ht
      obtain ⟨i, X, h2, h3, _⟩ := h.get hs.heap
      exact ⟨_, h1, h3.1.2⟩
    · rw [if_neg e] at hb; exact hs.env s b hb, hs.heap, hs.im0⟩
theorem wpB.as (t : Nat) {w : Value} {a : AV} {g : Bool} {F : Bool × Blk → AHeap} {os : List Oper} (ht : lookA σ t = some (.raw w)) (h : Hole H (g, .fz w a) F) (k : wpB P C N ops Q os ((t, a) :: σ) H) : wpB P C N ops Q os σ H :=
  fun ρ I L hs => k ρ I L (hs.as t ht h)
theorem wpA.as (t : Nat) {w : Value} {a : AV} {g : Bool} {F : Bool × Blk → AHeap} {c : Code} (ht : lookA σ t = some (.raw w)) (h : Hole H (g, .fz w a) F) (k : wpA P C N c Q ((t, a) :: σ) H) : wpA P C N c Q σ H :=
  fun ρ I L hs => k ρ I L (hs.as t ht h)
theorem RSt.asP {C : Ctx} {I : Im} {L : Lh} {ρ : Env} (t : Nat) {α : Type} {r : Rep α} {b : Nat} {a : AV} {g : Bool} {F : Bool × Blk → AHeap} (ht : lookA σ t = some (.ln (ptr b 0) (Lens.id (α := α)))) (h : Hole H (g, .fz (ptr b 0) a) F) (hs : RSt C I L σ H ρ) : RSt C I L ((t, a) :: σ) H ρ :=
  ⟨fun s c hb => by
    rw [lookA_cons] at hb
    by_cases e : t = s
    · subst e; simp at hb; subst hb
      obtain ⟨u, h1, b', hb', rfl⟩ := hs.env t _ ht
      cases hb'
      obtain ⟨i, X, h2, h3, _⟩ := h.get hs.heap
      exact ⟨_, h1, h3.1.2⟩
    · rw [if_neg e] at hb; exact hs.env s c hb, hs.heap, hs.im0⟩
theorem wpB.asP (t : Nat) {α : Type} {r : Rep α} {b : Nat} {a : AV} {g : Bool} {F : Bool × Blk → AHeap} {os : List Oper} (ht : lookA σ t = some (.ln (ptr b 0) (Lens.id (α := α)))) (h : Hole H (g, .fz (ptr b 0) a) F) (k : wpB P C N ops Q os ((t, a) :: σ) H) : wpB P C N ops Q os σ H :=
  fun ρ I L hs => k ρ I L (hs.asP t ht h)
theorem wpA.asP (t : Nat) {α : Type} {r : Rep α} {b : Nat} {a : AV} {g : Bool} {F : Bool × Blk → AHeap} {c : Code} (ht : lookA σ t = some (.ln (ptr b 0) (Lens.id (α := α)))) (h : Hole H (g, .fz (ptr b 0) a) F) (k : wpA P C N c Q ((t, a) :: σ) H) : wpA P C N c Q σ H :=
  fun ρ I L hs => k ρ I L (hs.asP t ht h)
theorem wpA.lenLe (t : Nat) {α : Type} {r : Rep α} {l : List α} {c : Code} (ht : lookA σ t = some (.v l)) (k : l.length ≤ 9223372036854775807 → wpA P C N c Q σ H) : wpA P C N c Q σ H :=
  fun ρ I L hs => by
    obtain ⟨u, _, xs, ⟨a, c, _, _, h1, h2, _⟩, _⟩ := EvA.sl (.t ht) hs
    exact k (by unfold maxLen at h2; omega) ρ I L hs
theorem wpA.strLe (t : Nat) {s : Str} {c : Code} (ht : lookA σ t = some (.v s)) (k : s.l.length ≤ 9223372036854775807 → wpA P C N c Q σ H) : wpA P C N c Q σ H :=
  fun ρ I L hs => k (EvA.strLe (.t ht) hs) ρ I L hs
end opers
structure Gl where
  p : Im → Prop
  mono : ∀ {I J}, Le I J → p I → p J
def Gl.no : Gl := ⟨fun _ => True, fun _ h => h⟩
def RepVs (I : Im) : List AV → List Value → Prop
  | [], vs => vs = []
  | a :: ags, vs => ∃ v r, vs = v :: r ∧ RepV I a v ∧ RepVs I ags r
theorem RepVs.mono {I J : Im} (hle : Le I J) : ∀ {ags : List AV} {vs : List Value}, RepVs I ags vs → RepVs J ags vs
  | [], _, h => h
  | a :: ags, _, h => by obtain ⟨v, r, h1, h2, h3⟩ := h; exact ⟨v, r, h1, h2.mono hle, h3.mono hle⟩
theorem RepVs.len {I : Im} : ∀ {ags : List AV} {vs : List Value}, RepVs I ags vs → vs.length = ags.length
  | [], _, h => by simp [RepVs] at h; simp [h]
  | a :: ags, _, h => by obtain ⟨v, r, rfl, _, h3⟩ := h; simp [h3.len]
@[reducible] def argA : List AV → Nat → AEnv
  | [], _ => []
  | a :: r, k => (k, a) :: argA r (k + 1)
theorem RepVs.env {I : Im} : ∀ {ags : List AV} {vs : List Value} (k : Nat), RepVs I ags vs → ∀ t a, lookA (argA ags k) t = some a → ∃ u, Fl.look (argEnv vs k) t = some u ∧ RepV I a u
  | [], _, k, h, t, a, ht => by simp [argA, lookA] at ht
  | a :: ags, _, k, h, t, b, ht => by
    obtain ⟨v, r, rfl, h2, h3⟩ := h
    rw [argA, lookA_cons] at ht
    rw [argEnv, Fl.look_cons]
    by_cases e : k = t
    · rw [if_pos e] at ht ⊢; cases ht; exact ⟨v, rfl, h2⟩
    · rw [if_neg e] at ht ⊢; exact h3.env (k + 1) t b ht
def FunA (G : Gl) (P : Program) (f : FuncId) (ags : List AV) (post : AV → Prop) : Prop := ∀ I vs, G.p I → RepVs I ags vs → Fun P f vs.toArray I (fun v J => ∃ r, RepV J r v ∧ post r)
def repK (I : Im) : List Blk → Lh → Prop
  | [], L => L = []
  | B :: H, L => ∃ X R, L = X :: R ∧ B.brep I X ∧ repK I H R
def FunH (G : Gl) (P : Program) (f : FuncId) (ags : List AV) (Hs : List Blk) (post : AV → List Blk → Prop) : Prop :=
  ∀ I L vs, G.p I → RepVs I ags vs → repK I Hs L → FunM P f vs.toArray I L (fun v J L' => ∃ r Hs', RepV J r v ∧ repK J Hs' L' ∧ post r Hs')
@[reducible] def lentB : List Blk → AHeap
  | [] => []
  | B :: r => (false, B) :: lentB r
theorem lentB_eq : ∀ Hs : List Blk, lentB Hs = Hs.map (fun B => (false, B))
  | [] => rfl
  | B :: r => by rw [lentB, lentB_eq r]; rfl
theorem repK.toH {n0 : Nat} {I : Im} : ∀ {Hs : List Blk} {L : Lh}, repK I Hs L → repH n0 I (Hs.map (fun B => (false, B))) L
  | [], _, h => h
  | B :: Hs, _, h => by obtain ⟨X, R, h1, h2, h3⟩ := h; exact ⟨X, R, h1, ⟨h2, fun e => by cases e⟩, h3.toH⟩
theorem repK.toT {n0 : Nat} {I : Im} : ∀ {Hs : List Blk} {L : Lh}, repK I Hs L → (∀ p ∈ L.flatten, n0 ≤ p.1) → repH n0 I (Hs.map (fun B => (true, B))) L
  | [], _, h, _ => h
  | B :: Hs, _, h, hp => by
    obtain ⟨X, R, rfl, h2, h3⟩ := h
    exact ⟨X, R, rfl, ⟨h2, fun _ p h => hp p (by simp [h])⟩, h3.toT (fun p h => hp p (by simp only [List.flatten_cons, List.mem_append]; exact .inr h))⟩
theorem repH.toK {n0 : Nat} {I : Im} : ∀ {H : AHeap} {L : Lh}, repH n0 I H L → repK I (H.map Prod.snd) L
  | [], _, h => h
  | B :: Hs, _, h => by obtain ⟨X, R, h1, h2, h3⟩ := h; exact ⟨X, R, h1, h2.1, h3.toK⟩
def FinA (P : Program) (fn : Func) (C : Ctx) (σ : AEnv) (H : AHeap) (r : AV) : Prop := ∀ ρ I L, RSt C I L σ H ρ → ∃ v, Fin P fn ρ I L v ∧ RepV I r v
def endA (P : Program) (fn : Func) (C : Ctx) (post : AV → AHeap → Prop) : Exit → AEnv → AHeap → Prop
  | .normal, σ, H | .ret, σ, H => ∃ r, FinA P fn C σ H r ∧ post r H
  | _, _, _ => False
theorem endA.q {P : Program} {fn : Func} {C : Ctx} {post : AV → AHeap → Prop} {e : Exit} {ρ : Env} {I : Im} {L : Lh} (h : qA C (endA P fn C post) e ρ I L) :
    endQ P fn (fun v J L' => ∃ r H, RepV J r v ∧ repH C.w0.heap.size J H L' ∧ post r H) e ρ I L := by
  obtain ⟨σ, H, h1, h2⟩ := h
  cases e with
  | normal | ret =>
    obtain ⟨r, h3, h4⟩ := h2
    obtain ⟨v, h5, h6⟩ := h3 ρ I L h1
    exact ⟨v, h5, r, H, h6, h1.heap, h4⟩
  | _ => exact h2.elim
theorem FunA.intro {G : Gl} {P : Program} {f : FuncId} {fn : Func} {c : Code} {ags : List AV} {post : AV → Prop} (hf : P.funcs[f]? = some fn) (hb : fn.body = some c) (hn : (fn.name == "runtime.NumGoroutine") = false)
    (N : Nat) (hN : fn.ntmps = N) (hl : Nat.ble ags.length N = true) (σ : AEnv) (hσ : argA ags 0 = σ)
    (h : ∀ C : Ctx, Ctx.Ok C → G.p C.I0 → wpA P C N c (endA P fn C (fun r _ => post r)) σ []) : FunA G P f ags post := fun I vs hG hvs =>
  ⟨⟨fn, hf, hn, by simp [hb]⟩, fun w hm => calls_body hf hb N hN (by rw [hvs.len]; exact hl) hm (M := []) (by simp)
    ((h ⟨w, [], I, none⟩ (fun k hk => by cases hk) hG (argEnv vs 0) I [] ⟨by rw [← hσ]; exact hvs.env 0, rfl, Le.refl I⟩).mono fun e ρ J L hq => endA.q hq)
    fun v J L' w' hs hp => by
      obtain ⟨r, H, h1, h2, h3⟩ := hp
      exact ⟨v, J, rfl, hs.chg, hs.im0, fun b h0 h1 => hs.new b h0 h1, hs.mem.drop, r, h1, h3⟩⟩
theorem FunH.intro {G : Gl} {P : Program} {f : FuncId} {fn : Func} {c : Code} {ags : List AV} {Hs : List Blk} {post : AV → List Blk → Prop} (hf : P.funcs[f]? = some fn) (hb : fn.body = some c) (hn : (fn.name == "runtime.NumGoroutine") = false)
    (N : Nat) (hN : fn.ntmps = N) (hl : Nat.ble ags.length N = true) (σ : AEnv) (hσ : argA ags 0 = σ) (H0 : AHeap) (hH : lentB Hs = H0)
    (h : ∀ C : Ctx, Ctx.Ok C → G.p C.I0 → wpA P C N c (endA P fn C (fun r H => post r (H.map Prod.snd))) σ H0) : FunH G P f ags Hs post := fun I L vs hG hvs hL =>
  ⟨⟨fn, hf, hn, by simp [hb]⟩, fun w hm => calls_body hf hb N hN (by rw [hvs.len]; exact hl) hm (M := L.flatten.map Prod.fst) (fun p hp => List.mem_map_of_mem hp)
    ((h ⟨w, L.flatten.map Prod.fst, I, none⟩ (fun k hk => by
        obtain ⟨p, hp, rfl⟩ := List.mem_map.1 hk
        exact lt_of_get (hm.loc p hp)) hG (argEnv vs 0) I L ⟨by rw [← hσ]; exact hvs.env 0, by rw [← hH, lentB_eq]; exact hL.toH, Le.refl I⟩).mono fun e ρ J L hq => endA.q hq)
    fun v J L' w' hs hp => by
      obtain ⟨r, H, h1, h2, h3⟩ := hp
      exact ⟨v, J, L', rfl, hs.chg, hs.im0, fun b h0 h1 => hs.new b h0 h1, hs.mem, hs.own, r, _, h1, h2.toK, h3⟩⟩
theorem FunA.mono {G : Gl} {P : Program} {f : FuncId} {ags : List AV} {post post' : AV → Prop} (h : FunA G P f ags post) (hp : ∀ r, post r → post' r) : FunA G P f ags post' := fun I vs hG hvs =>
  (h I vs hG hvs).mono fun v J hle ⟨r, h1, h2⟩ => ⟨r, h1, hp r h2⟩
def EvAs (C : Ctx) (σ : AEnv) (H : AHeap) : List Operand → List AV → Prop
  | [], ags => ags = []
  | x :: xs, ags => ∃ a r, ags = a :: r ∧ EvA C σ H x a ∧ EvAs C σ H xs r
theorem EvAs.nil {C : Ctx} {σ : AEnv} {H : AHeap} : EvAs C σ H [] [] := rfl
theorem EvAs.cons {C : Ctx} {σ : AEnv} {H : AHeap} {x : Operand} {a : AV} {xs : List Operand} {ags : List AV} (h : EvA C σ H x a) (k : EvAs C σ H xs ags) : EvAs C σ H (x :: xs) (a :: ags) := ⟨a, ags, rfl, h, k⟩
theorem EvAs.get {C : Ctx} {σ : AEnv} {H : AHeap} {ρ : Env} {I : Im} {L : Lh} (hs : RSt C I L σ H ρ) : ∀ {xs : List Operand} {ags : List AV}, EvAs C σ H xs ags → ∃ vs, evL ρ xs = some vs ∧ RepVs I ags vs
  | [], _, h => by simp [EvAs] at h; subst h; exact ⟨[], rfl, rfl⟩
  | x :: xs, _, h => by
    obtain ⟨a, r, rfl, h1, h2⟩ := h
    obtain ⟨u, h3, h4⟩ := h1 ρ I L hs
    obtain ⟨vs, h5, h6⟩ := EvAs.get hs h2
    exact ⟨u :: vs, by simp [evL, h3, h5], u, vs, rfl, h4, h6⟩
def EvL (C : Ctx) (σ : AEnv) (H : AHeap) (x : Operand) (a : AV) : Prop := ∀ ρ I L, RSt C I L σ H ρ → ∃ u, ev ρ x = some u ∧ ∀ J, Le I J → (∀ p ∈ L.flatten, J p.1 = some p.2) → RepV J a u
theorem EvL.e {C : Ctx} {σ : AEnv} {H : AHeap} {x : Operand} {a : AV} (h : EvA C σ H x a) : EvL C σ H x a := fun ρ I L hs => by
  obtain ⟨u, h1, h2⟩ := h ρ I L hs
  exact ⟨u, h1, fun J hle _ => h2.mono hle⟩
theorem EvL.own {C : Ctx} {σ : AEnv} {H : AHeap} {t : Nat} {E : TypeId} {α : Type} {r : Rep α} {w : Value} {l : List α} {g : Bool} {F : Bool × Blk → AHeap} (ht : lookA σ t = some (.raw w)) (h : Hole H (g, .own E w l) F) : EvL C σ H (.tmp t) (.v l) := fun ρ I L hs => by
  obtain ⟨u, h1, rfl⟩ := hs.env t _ ht
  obtain ⟨i, X, h2, h3, _⟩ := h.get hs.heap
  exact ⟨_, h1, fun J hle hp => freeze_own h3.1 hle (fun p hpx => hp p (mem_chunk h2 hpx))⟩
def EvLs (C : Ctx) (σ : AEnv) (H : AHeap) : List Operand → List AV → Prop
  | [], ags => ags = []
  | x :: xs, ags => ∃ a r, ags = a :: r ∧ EvL C σ H x a ∧ EvLs C σ H xs r
theorem EvLs.nil {C : Ctx} {σ : AEnv} {H : AHeap} : EvLs C σ H [] [] := rfl
theorem EvLs.cons {C : Ctx} {σ : AEnv} {H : AHeap} {x : Operand} {a : AV} {xs : List Operand} {ags : List AV} (h : EvL C σ H x a) (k : EvLs C σ H xs ags) : EvLs C σ H (x :: xs) (a :: ags) := ⟨a, ags, rfl, h, k⟩
theorem EvLs.get {C : Ctx} {σ : AEnv} {H : AHeap} {ρ : Env} {I : Im} {L : Lh} (hs : RSt C I L σ H ρ) : ∀ {xs : List Operand} {ags : List AV}, EvLs C σ H xs ags → ∃ vs, evL ρ xs = some vs ∧ ∀ J, Le I J → (∀ p ∈ L.flatten, J p.1 = some p.2) → RepVs J ags vs
  | [], _, h => by simp [EvLs] at h; subst h; exact ⟨[], rfl, fun _ _ _ => rfl⟩
  | x :: xs, _, h => by
    obtain ⟨a, r, rfl, h1, h2⟩ := h
    obtain ⟨u, h3, h4⟩ := h1 ρ I L hs
    obtain ⟨vs, h5, h6⟩ := EvLs.get hs h2
    exact ⟨u :: vs, by simp [evL, h3, h5], fun J hle hp => ⟨u, vs, rfl, h4 J hle hp, h6 J hle hp⟩⟩
def FlatV (r : AV) : Prop := ∀ I J u, RepV I r u → RepV J r u
class RepF (α : Type) [Rep α] : Prop where
  any : ∀ {I J : Im} {x : α} {cs}, rep I x cs → rep J x cs
instance : RepF Int := ⟨fun h => h⟩
instance : RepF UInt8 := ⟨fun h => h⟩
theorem repL.any {α : Type} [Rep α] [RepF α] {I J : Im} : ∀ {l : List α} {cs : List Value}, repL I l cs → repL J l cs
  | [], _, h => h
  | x :: l, _, h => by obtain ⟨c, r, h1, h2, h3⟩ := h; exact ⟨c, r, h1, RepF.any h2, repL.any h3⟩
instance {n : Nat} {α : Type} [Rep α] [RepF α] : RepF (Arr n α) := ⟨fun h => repL.any h⟩
theorem FlatV.v {α : Type} [Rep α] [RepF α] {x : α} : FlatV (.v x) := fun I J u h => by obtain ⟨cs, h1, h2⟩ := h; exact ⟨cs, RepF.any h1, h2⟩
section calls
variable {P : Program} {C : Ctx} {N : Nat} {σ : AEnv} {H : AHeap} {G : Gl} (hG : G.p C.I0) {f : FuncId} {d : Option Nat} {args : Array Operand} {tys : Array TypeId} {ty : TypeId} {ps : String} {af : Array Edge} {g : Option (Nat × Bool)} {ags : List AV}
include hG
theorem OpP.call {post : AV → Prop} {K : AV → Prop} (h : FunA G P f ags post) (hv : EvAs C σ H args.toList ags) (k : ∀ r, post r → K r) : OpP P N C ⟨d, .call ⟨.value (.func f), args, tys⟩, ty, ps, af, g⟩ σ H K := fun ρ I L hs => by
  obtain ⟨vs, h1, h2⟩ := hv.get hs
  exact .call rfl h1 (h I vs (G.mono hs.im0 hG) h2) fun v J hle ⟨r, h3, h4⟩ => ⟨rfl, r, h3, k r h4⟩
theorem OpP.call1 {r : AV} {K : AV → Prop} (h : FunA G P f ags (fun x => x = r)) (hv : EvAs C σ H args.toList ags) (k : K r) : OpP P N C ⟨d, .call ⟨.value (.func f), args, tys⟩, ty, ps, af, g⟩ σ H K :=
  .call hG h hv fun x e => e ▸ k
theorem OpP.lend {post : AV → Prop} {K : AV → Prop} (h : FunA G P f ags post) (hv : EvLs C σ H args.toList ags) (hf : ∀ r, post r → FlatV r) (k : ∀ r, post r → K r) : OpP P N C ⟨d, .call ⟨.value (.func f), args, tys⟩, ty, ps, af, g⟩ σ H K := fun ρ I L hs => by
  obtain ⟨vs, h1, h2⟩ := hv.get hs
  exact .lend (φ := fun v => ∃ r, RepV I r v ∧ post r) rfl h1 (fun J hle hp => (h J vs (G.mono (hs.im0.trans hle) hG) (h2 J hle hp)).mono fun v J' _ ⟨r, h3, h4⟩ => ⟨r, hf r h4 _ _ _ h3, h4⟩) fun v ⟨r, h3, h4⟩ => ⟨rfl, r, h3, k r h4⟩
theorem OpP.lend1 {r : AV} {K : AV → Prop} (h : FunA G P f ags (fun x => x = r)) (hv : EvLs C σ H args.toList ags) (hf : FlatV r) (k : K r) : OpP P N C ⟨d, .call ⟨.value (.func f), args, tys⟩, ty, ps, af, g⟩ σ H K :=
  .lend hG h hv (fun x e => e ▸ hf) fun x e => e ▸ k
omit hG in
theorem OpS.callM' {ρ : Env} {I : Im} {L : Lh} {F : Operand} {vs : List Value} {post : Value → Im → Lh → Prop} {K : Value → Im → Lh → Prop} (i : Nat) {c : List (Nat × Obj)} (hc : L[i]? = some c) (hF : ev ρ F = some (.func (.func f) #[] #[])) (hv : evL ρ args.toList = some vs)
    (h : FunM P f vs.toArray I [c] post) (k : ∀ v J c' (w : World), Le I J → post v J [c'] → (∀ p ∈ c', w.heap.size ≤ p.1 ∨ p.1 ∈ c.map Prod.fst) → C.w0.heap.size ≤ w.heap.size → K v J (L.set i c')) (hshape : ∀ v J L', post v J L' → ∃ c', L' = [c']) :
    OpS P C N ⟨d, .call ⟨.value F, args, tys⟩, ty, ps, af, g⟩ ρ I L K := fun a w ha hs => by
  have hm := hs.mem
  have hsplit := fun c' => split_at L i c hc c'
  have hmc : Mem I [c] w := ⟨hm.im, fun p hp => hm.loc p (mem_chunk hc (by simpa using hp)), fun p hp => hm.sep p (mem_chunk hc (by simpa using hp)), by simpa using nodup_chunk hm.nodup hc⟩
  rw [run_callOp h.ok rfl (ha.ev hF) (ha.evL hv)]
  refine (h.run w hmc).mono ?_
  rintro e w' ⟨v, J, L', rfl, hch, hle, hn, hm', hown, hp⟩
  obtain ⟨c', rfl⟩ := hshape v J L' hp
  have hlt : ∀ p ∈ L.flatten, p.1 < w.heap.size := fun p hp => lt_of_get (hm.loc p hp)
  have hnd := hm.nodup
  rw [(hsplit c').1] at hnd
  -- the blocks of the other chunks
  have hoth : ∀ p, p ∈ (L.take i).flatten ∨ p ∈ (L.drop (i + 1)).flatten → p ∈ L.flatten ∧ p.1 ∉ c.map Prod.fst := by
    intro p hp
    rw [(hsplit c').1]
    simp only [List.map_append, List.nodup_append] at hnd
    rcases hp with hp | hp
    · exact ⟨by simp [hp], fun hx => hnd.2.2 p.1 (List.mem_map_of_mem hp) p.1 (by simp only [List.mem_append]; exact .inl hx) rfl⟩
    · exact ⟨by simp [hp], fun hx => hnd.2.1.2.2 p.1 hx p.1 (List.mem_map_of_mem hp) rfl⟩
  have hcas : ∀ p ∈ (L.set i c').flatten, p ∈ c' ∨ (p ∈ (L.take i).flatten ∨ p ∈ (L.drop (i + 1)).flatten) := by
    intro p hp
    rw [(hsplit c').2] at hp
    simp only [List.mem_append] at hp
    rcases hp with hp | hp | hp
    · exact .inr (.inl hp)
    · exact .inl hp
    · exact .inr (.inr hp)
  have hcM : ∀ k ∈ ([c] : Lh).flatten.map Prod.fst, k < C.w0.heap.size → k ∈ C.M := by
    intro k hk hlt0
    simp only [List.flatten_cons, List.flatten_nil, List.append_nil, List.mem_map] at hk
    obtain ⟨p, hp, rfl⟩ := hk
    rcases hs.own p (mem_chunk hc hp) with h1 | h1
    · omega
    · exact h1
  have hchg : Chg C.M C.w0 w' := by
    refine ⟨hch.os.trans hs.chg.os, hch.tape.trans hs.chg.tape, hch.output.trans hs.chg.output, Nat.le_trans hs.chg.size hch.size, fun k hk hkm => ?_⟩
    rw [hch.block k (Nat.lt_of_lt_of_le hk hs.chg.size) (fun hx => hkm (hcM k hx hk))]
    exact hs.chg.block k hk hkm
  refine ⟨v, rfl, J, L.set i c', ⟨⟨hm'.im, fun p hp => ?_, fun p hp => ?_, ?_⟩, hchg, fun p hp => ?_, hs.im0.trans hle, fun b h0 h1 => ?_⟩, k v J c' w hle hp (fun p hp => by simpa using hown p (by simpa using hp)) hs.chg.size⟩
  · rcases hcas p hp with h1 | h1
    · exact hm'.loc p (by simpa using h1)
    · obtain ⟨h2, h3⟩ := hoth p h1
      exact (hch.block p.1 (hlt p h2) (by simpa using h3)).trans (hm.loc p h2)
  · rcases hcas p hp with h1 | h1
    · exact hm'.sep p (by simpa using h1)
    · obtain ⟨h2, h3⟩ := hoth p h1
      cases hj : J p.1 with
      | none => rfl
      | some o => exact absurd (hn p.1 (hm.sep p h2) (by simp [hj])) (by have := hlt p h2; omega)
  · rw [(hsplit c').2]
    have hc'nd := hm'.nodup
    have hblk : ∀ p ∈ c', w.heap.size ≤ p.1 ∨ p.1 ∈ c.map Prod.fst := fun p hp => by
      have := hown p (by simpa using hp)
      simpa using this
    simp only [List.map_append, List.nodup_append] at hnd ⊢
    refine ⟨hnd.1, ⟨by simpa using hc'nd, hnd.2.1.2.1, ?_⟩, ?_⟩
    · rintro x hx y hy rfl
      obtain ⟨p, hp, rfl⟩ := List.mem_map.1 hx
      obtain ⟨q, hq, hqe⟩ := List.mem_map.1 hy
      obtain ⟨h2, h3⟩ := hoth q (.inr hq)
      rcases hblk p hp with h4 | h4
      · have := hlt q h2; omega
      · exact h3 (hqe ▸ h4)
    · rintro x hx y hy rfl
      obtain ⟨q, hq, rfl⟩ := List.mem_map.1 hx
      obtain ⟨h2, h3⟩ := hoth q (.inl hq)
      simp only [List.mem_append] at hy
      rcases hy with hy | hy
      · obtain ⟨p, hp, hpe⟩ := List.mem_map.1 hy
        rcases hblk p hp with h4 | h4
        · have := hlt q h2; omega
        · exact h3 (hpe ▸ h4)
      · exact hnd.2.2 q.1 hx q.1 (by simp only [List.mem_append]; exact .inr hy) rfl
  · rcases hcas p hp with h1 | h1
    · rcases hown p (by simpa using h1) with h2 | h2
      · exact .inl (Nat.le_trans hs.chg.size h2)
      · obtain ⟨q, hq, hqe⟩ := List.mem_map.1 h2
        rw [← hqe]
        exact hs.own q (mem_chunk hc (by simpa using hq))
    · exact hs.own p (hoth p h1).1
  · cases hi : I b with
    | none => exact Nat.le_trans hs.chg.size (hn b hi h1)
    | some o => exact hs.new b h0 (by simp [hi])
theorem OpH.callM {post : AV → List Blk → Prop} {K : AV → AHeap → Prop} {b : Bool} {B : Blk} {F : Bool × Blk → AHeap} (h : FunH G P f ags [B] post) (hH : Hole H (b, B) F) (hv : EvAs C σ H args.toList ags)
    (hshape : ∀ r Hs, post r Hs → ∃ B', Hs = [B']) (k : ∀ r B', post r [B'] → K r (F (b, B'))) : OpH P C N ⟨d, .call ⟨.value (.func f), args, tys⟩, ty, ps, af, g⟩ σ H K := fun ρ I L hs => by
  obtain ⟨vs, h1, h2⟩ := hv.get hs
  obtain ⟨i, X, h3, h4, h5⟩ := hH.get hs.heap
  refine OpS.callM' (post := fun v J L' => ∃ r Hs', RepV J r v ∧ repK J Hs' L' ∧ post r Hs') i h3 rfl h1 (h I [X] vs (G.mono hs.im0 hG) h2 ⟨X, [], rfl, h4.1, rfl⟩) ?_ ?_
  · intro v J c' w hle ⟨r, Hs', q1, q2, q3⟩ q4 hsz
    obtain ⟨B', rfl⟩ := hshape r Hs' q3
    obtain ⟨X', R, e, q5, q6⟩ := q2
    simp [repK] at q6
    subst q6
    cases e
    refine ⟨hle, r, _, q1, h5 J (b, B') c' hle ⟨q5, fun hb p hp => ?_⟩, k r B' q3⟩
    rcases q4 p hp with h6 | h6
    · exact Nat.le_trans hsz h6
    · obtain ⟨q, hq, hqe⟩ := List.mem_map.1 h6
      rw [← hqe]; exact h4.2 hb q hq
  · intro v J L' ⟨r, Hs', q1, q2, q3⟩
    obtain ⟨B', rfl⟩ := hshape r Hs' q3
    obtain ⟨X', R, e, q5, q6⟩ := q2
    exact ⟨X', by rw [e, q6]⟩
theorem OpH.call0 {post : AV → List Blk → Prop} {K : AV → AHeap → Prop} (h : FunH G P f ags [] post) (hv : EvAs C σ H args.toList ags) (k : ∀ r Hs, post r Hs → K r (Hs.map (fun B => (true, B)) ++ H)) :
    OpH P C N ⟨d, .call ⟨.value (.func f), args, tys⟩, ty, ps, af, g⟩ σ H K := fun ρ I L hs => by
  obtain ⟨vs, h1, h2⟩ := hv.get hs
  have hM := h I [] vs (G.mono hs.im0 hG) h2 rfl
  intro a w ha hst
  have hm := hst.mem
  rw [run_callOp hM.ok rfl (ha.ev (x := .func f) rfl) (ha.evL h1)]
  refine (hM.run w hm.drop).mono ?_
  rintro e w' ⟨v, J, L', rfl, hc, hle, hn, hm', hown, r, Hs', q1, q2, q3⟩
  have hlt : ∀ p ∈ L.flatten, p.1 < w.heap.size := fun p hp => lt_of_get (hm.loc p hp)
  have hnew : ∀ p ∈ L'.flatten, w.heap.size ≤ p.1 := fun p hp => by simpa using hown p hp
  have hmem : Mem J (L' ++ L) w' := by
    refine ⟨hm'.im, fun p hp => ?_, fun p hp => ?_, ?_⟩
    · simp only [List.flatten_append, List.mem_append] at hp
      rcases hp with hp | hp
      · exact hm'.loc p hp
      · exact (hc.block p.1 (hlt p hp) (by simp)).trans (hm.loc p hp)
    · simp only [List.flatten_append, List.mem_append] at hp
      rcases hp with hp | hp
      · exact hm'.sep p hp
      · cases hj : J p.1 with
        | none => rfl
        | some o => exact absurd (hn p.1 (hm.sep p hp) (by simp [hj])) (by have := hlt p hp; omega)
    · simp only [List.flatten_append, List.map_append]
      refine List.nodup_append.2 ⟨hm'.nodup, hm.nodup, ?_⟩
      rintro x hx y hy rfl
      obtain ⟨p, hp, rfl⟩ := List.mem_map.1 hx
      obtain ⟨q, hq, hqe⟩ := List.mem_map.1 hy
      have := hnew p hp
      have := hlt q hq
      omega
  refine ⟨v, rfl, J, L' ++ L, hst.step (by simpa using hc) hle hn hmem hnew, hle, r, _, q1, ?_, k r Hs' q3⟩
  exact (q2.toT (fun p hp => Nat.le_trans hst.chg.size (hnew p hp))).append (hs.heap.mono hle)
end calls
end Go.Ab
set_option linter.unusedVariables false
namespace Go.Ab
open Go.Fl Go.RowKit
open Rep (rep)
def lookR (acc : List (Nat × AV)) (j : Nat) : Option AV :=
  match acc with
  | [] => none
  | (i, S) :: r => bif Nat.beq i j then some S else lookR r j
def envOf (σ0 : AEnv) (acc : List (Nat × AV)) (s : List (Nat × Nat)) : List Nat → AEnv
  | [] => []
  | t :: ts =>
    match (match srcOf s t with | none => lookA σ0 t | some j => lookR acc j) with
    | some a => (t, a) :: envOf σ0 acc s ts
    | none => envOf σ0 acc s ts
def dutyA (P : Program) (N : Nat) (C : Ctx) (σ0 : AEnv) (H : AHeap) (acc : List (Nat × AV)) (o : Oper) (s : List (Nat × Nat)) (r : AV) : Prop :=
  match o.guard with
  | none => OpP P N C o (envOf σ0 acc s (opTmps o)) H (fun r' => r' = r)
  | some (g, want) => ∃ b c, lookR acc g = some (.v b) ∧ r = .opt (b == want) c ∧ (b = want → OpP P N C o (envOf σ0 acc s (opTmps o)) H (fun r' => r' = c))
def chainA (P : Program) (N : Nat) (C : Ctx) (σ0 : AEnv) (H : AHeap) (F : List (Nat × AV) → Prop) : List Oper → List (List (Nat × Nat)) → Nat → List (Nat × AV) → Prop
  | [], _, _, acc => F acc
  | o :: os, s :: ss, k, acc => ∃ r, dutyA P N C σ0 H acc o s r ∧ chainA P N C σ0 H F os ss (k + 1) ((k, r) :: acc)
  | _, [], _, _ => False
def finA (acc : List (Nat × AV)) : List Oper → Nat → AEnv → AEnv
  | o :: os, k, σ =>
    match o.dst, lookR acc k with
    | some d, some r => finA acc os (k + 1) ((d, r) :: σ)
    | _, _ => finA acc os (k + 1) σ
  | [], _, σ => σ
def specOf (r : AV) : Fl.Spec := .val (fun v J => RepV J r v) (fun v I J h hle => h.mono hle)
def accOf (acc : List (Nat × AV)) : List (Nat × Fl.Spec) := acc.map fun p => (p.1, specOf p.2)
theorem lookS_accOf : ∀ (acc : List (Nat × AV)) (j : Nat), lookS (accOf acc) j = (lookR acc j).map specOf
  | [], j => rfl
  | (i, r) :: acc, j => by
    simp only [accOf, List.map_cons, lookS, lookR]
    cases Nat.beq i j with
    | true => rfl
    | false => simpa [accOf] using lookS_accOf acc j
theorem bind_of {C : Ctx} {σ0 : AEnv} {H : AHeap} {acc : List (Nat × AV)} {s : List (Nat × Nat)} {ρ0 ρ : Env} {I J : Im} {L : Lh} (hs : RSt C I L σ0 H ρ0) (hle : Le I J) (G : Prop) : ∀ (ts : List Nat),
    ((∀ t a, lookA (envOf σ0 acc s ts) t = some a → ∃ u, Fl.look ρ t = some u ∧ RepV J a u) → G) → bindAll (lookS (accOf acc)) s ρ0 ρ J ts G
  | [], h => h (fun t a ht => by simp [envOf, lookA] at ht)
  | t :: ts, h => by
    simp only [bindAll]
    cases hsrc : srcOf s t with
    | none =>
      intro hlk
      refine bind_of hs hle G ts fun h2 => h fun t' a ht => ?_
      simp only [envOf, hsrc] at ht
      cases h0 : lookA σ0 t with
      | none => simp only [h0] at ht; exact h2 t' a ht
      | some b =>
        simp only [h0] at ht
        rw [lookA_cons] at ht
        by_cases e : t = t'
        · subst e; simp at ht; subst ht
          obtain ⟨u, h3, h4⟩ := hs.env t _ h0
          exact ⟨u, hlk.trans h3, h4.mono hle⟩
        · rw [if_neg e] at ht; exact h2 t' a ht
    | some j =>
      simp only [lookS_accOf]
      cases hj : lookR acc j with
      | none => simp
      | some r =>
        simp only [Option.map_some, specOf]
        intro v hv hr
        refine bind_of hs hle G ts fun h2 => h fun t' a ht => ?_
        simp only [envOf, hsrc, hj] at ht
        rw [lookA_cons] at ht
        by_cases e : t = t'
        · subst e; simp at ht; subst ht; exact ⟨v, hv, hr⟩
        · rw [if_neg e] at ht; exact h2 t' a ht
theorem duty_of {P : Program} {N : Nat} {C : Ctx} {ops : Array Oper} {σ0 : AEnv} {H : AHeap} {acc : List (Nat × AV)} {ρ0 : Env} {I : Im} {L : Lh} {o : Oper} {s : List (Nat × Nat)} {r : AV} (hs : RSt C I L σ0 H ρ0)
    (h : dutyA P N C σ0 H acc o s r) : duty P N ops (lookS (accOf acc)) ρ0 I L o s (specOf r) := by
  intro J hle ρ
  refine bind_of hs hle _ _ fun henv => ?_
  have hR : RSt C J L (envOf σ0 acc s (opTmps o)) H ρ := ⟨henv, hs.heap.mono hle, hs.im0.trans hle⟩
  unfold dutyA at h
  cases hg : o.guard with
  | none =>
    simp only [hg] at h
    exact OpX.monoLe (h ρ J L hR) fun v J' X _ ⟨h1, r', h2, h3⟩ => ⟨h1, h3 ▸ h2⟩
  | some p =>
    obtain ⟨g, want⟩ := p
    simp only [hg] at h
    obtain ⟨b, c, h1, rfl, h2⟩ := h
    intro v hv
    rw [lookS_accOf, h1] at hv
    simp only [Option.map_some, specOf, Fl.Spec.holds] at hv
    obtain ⟨cs, rfl, rfl⟩ := hv
    refine ⟨fun e => ?_, fun hne => ⟨?_, fun o e => by cases e⟩⟩
    · have e' : b = want := by simpa [asV, Rep.agg] using e
      exact OpX.monoLe (h2 e' ρ J L hR) fun v J' X _ ⟨h3, r', h4, h5⟩ => ⟨h3, fun _ => h5 ▸ h4⟩
    · have hb : b ≠ want := hne b rfl
      exact fun hc => absurd (by simpa using hc) hb
theorem finE_of {C : Ctx} {H : AHeap} {acc : List (Nat × AV)} {J : Im} {G : Env → Lh → Prop} : ∀ (os : List Oper) (k : Nat) (σ : AEnv) (ρ : Env) (L : Lh), RSt C J L σ H ρ →
    (∀ i o, os[i]? = some o → ∃ d r, o.dst = some d ∧ lookR acc (k + i) = some r) → (∀ ρ', RSt C J L (finA acc os k σ) H ρ' → G ρ' L) → finE J (lookS (accOf acc)) G os k ρ L
  | [], k, σ, ρ, L, hs, _, h => h ρ hs
  | o :: os, k, σ, ρ, L, hs, hd, h => by
    obtain ⟨d, r, h1, h2⟩ := hd 0 o rfl
    simp only [finE, h1, lookS_accOf]
    simp only [Nat.add_zero] at h2
    rw [h2]
    simp only [Option.map_some, specOf]
    intro v hv
    refine finE_of os (k + 1) ((d, r) :: σ) _ L (hs.put (Le.refl J) hv hs.heap) (fun i o' ho => ?_) (fun ρ' h' => h ρ' ?_)
    · obtain ⟨d', r', h3, h4⟩ := hd (i + 1) o' (by simpa using ho)
      exact ⟨d', r', h3, by rw [show k + 1 + i = k + (i + 1) by omega]; exact h4⟩
    · simpa only [finA, h1, h2] using h'
theorem chain_of {P : Program} {N : Nat} {C : Ctx} {ops : Array Oper} {σ0 : AEnv} {H : AHeap} {ρ0 : Env} {I : Im} {L : Lh} {F : List (Nat × AV) → Prop} {F' : List (Nat × Fl.Spec) → Prop} (hs : RSt C I L σ0 H ρ0) :
    ∀ (os : List Oper) (ss : List (List (Nat × Nat))) (k : Nat) (acc : List (Nat × AV)), (∀ i, i < k → (lookR acc i).isSome) → chainA P N C σ0 H F os ss k acc →
      (∀ acc', (∀ i, i < k + os.length → (lookR acc' i).isSome) → F acc' → F' (accOf acc')) → chain P N ops ρ0 I L F' os ss k (accOf acc)
  | [], ss, k, acc, hk, h, hF => by
    have hc : F acc := by cases ss <;> exact h
    cases ss <;> exact hF acc (by simpa using hk) hc
  | o :: os, [], k, acc, _, h, _ => h.elim
  | o :: os, s :: ss, k, acc, hk, h, hF => by
    obtain ⟨r, h1, h2⟩ := h
    refine ⟨specOf r, duty_of hs h1, chain_of hs os ss (k + 1) ((k, r) :: acc) (fun i hi => ?_) h2 (fun acc' h3 => hF acc' (fun i hi => h3 i (by simp only [List.length_cons] at hi; omega)))⟩
    simp only [lookR]
    by_cases e : k = i
    · subst e; simp
    · rw [beq_ne e]; exact hk i (by omega)
theorem dst_of_ok {ops : Array Oper} {n : Nat} {ss : List (List (Nat × Nat))} (h : phiOk ops n ss = true) {i : Nat} (hi : i < n) : ∃ o d, ops[i]? = some o ∧ o.dst = some d := by
  simp only [phiOk, Bool.and_eq_true] at h
  have h1 := h.1.1.1.2
  have h2 := List.all_eq_true.1 h1 i (List.mem_range.2 hi)
  unfold opOk at h2
  split at h2
  · rename_i o s ho hss
    simp only [Bool.and_eq_true] at h2
    obtain ⟨d, hd⟩ := Option.isSome_iff_exists.1 h2.1.1
    exact ⟨o, d, ho, hd⟩
  · cases h2
section
variable {P : Program} {C : Ctx} {N : Nat} {Q : Exit → AEnv → AHeap → Prop} {σ : AEnv} {H : AHeap}
theorem wpA.draw {id : Nat} {l : List Oper} (hm : P.follows .mixedOrders = true) (n : Nat) (ss : List (List (Nat × Nat)))
    (hN : dstOk N l = true) (hB : phiOk l.toArray n ss = true) (hss : Nat.ble n ss.length = true)
    (hch : chainA P N C σ H (fun acc => wpB P C N l.toArray Q (l.drop n) (finA acc (l.take n) 0 σ) H) (l.take n) ss 0 []) :
    wpA P C N (.region id l.toArray true) Q σ H := fun ρ I L hs => by
  refine .draw hm n ss hN hB hss ?_
  refine chain_of (acc := []) (F := _) hs _ _ 0 (fun i hi => by omega) hch fun acc hacc hF J hle => ?_
  refine finE_of (l.take n) 0 σ ρ L (hs.mono hle) (fun i o ho => ?_) (fun ρ' h' => hF ρ' J L h')
  have hi : i < n := by
    have := (List.getElem?_eq_some_iff.1 ho).1
    simp at this; omega
  obtain ⟨o', d, h1, h2⟩ := dst_of_ok hB hi
  have : o' = o := by
    rw [List.getElem?_take, if_pos hi] at ho
    have h1' : l[i]? = some o' := by simpa using h1
    rw [h1'] at ho; exact Option.some.inj ho
  subst this
  have hlen : i < (l.take n).length := (List.getElem?_eq_some_iff.1 ho).1
  obtain ⟨r, hr⟩ := Option.isSome_iff_exists.1 (hacc i (by omega))
  exact ⟨d, r, h2, by simpa using hr⟩
end
class RepZ (α : Type) [Rep α] [Inhabited α] where
  zs : List Value
  zero : ∀ I, rep I (default : α) zs
instance : RepZ Int := ⟨[i64 0], fun _ => ⟨rfl, by decide, by decide⟩⟩
instance : RepZ UInt8 := ⟨[Fl.u8 0], fun _ => rfl⟩
instance : RepZ Bool := ⟨[.bool false], fun _ => rfl⟩
instance : RepZ Unit := ⟨[], fun _ => rfl⟩
instance {α : Type} [Rep α] : RepZ (List α) := ⟨[.slice none 0 0], fun I => ⟨_, rfl, [], Sl.nil I _, rfl⟩⟩
theorem repL_replicate {α : Type} [Rep α] {I : Im} {x : α} {c : List Value} (h : rep I x c) : ∀ n, repL I (List.replicate n x) (List.replicate n c).flatten
  | 0 => rfl
  | n + 1 => by simp only [List.replicate_succ, List.flatten_cons]; exact ⟨c, _, rfl, h, repL_replicate h n⟩
instance {n : Nat} {α : Type} [Rep α] [Inhabited α] [RepZ α] : RepZ (Arr n α) := ⟨(List.replicate n (RepZ.zs α)).flatten, fun I => repL_replicate (RepZ.zero I) n⟩
instance {α β : Type} [Rep α] [Rep β] [Inhabited α] [Inhabited β] [RepZ α] [RepZ β] : RepZ (α × β) := ⟨RepZ.zs α ++ RepZ.zs β, fun I => ⟨_, _, rfl, RepZ.zero I, RepZ.zero I⟩⟩
@[reducible] def RepZ.via {S T : Type} [Rep T] [Inhabited S] [Inhabited T] [RepZ T] (f : S → T) (h : f default = default) : @RepZ S (Rep.via f) _ :=
  letI : Rep S := Rep.via f
  ⟨RepZ.zs T, fun I => by show rep I (f default) _; rw [h]; exact RepZ.zero I⟩
structure TyIs (P : Program) (T : TypeId) (α : Type) [Rep α] [Inhabited α] : Prop where
  size : SizeIs P T (Rep.size α)
  kind : ∃ dd, P.underlying T = some dd ∧ isRow dd = Rep.agg α
  zero : ∃ zs, zerosOf P T = some zs ∧ ∀ I, rep I (default : α) zs
  pos : Rep.size α ≠ 0
theorem TyIs.of {P : Program} {T : TypeId} {α : Type} [Rep α] [Inhabited α] [RepZ α] (h1 : (P.info? T).map (·.size) = some (Rep.size α)) (h2 : (P.underlying T).map isRow = some (Rep.agg α)) (h3 : zerosOf P T = some (RepZ.zs α)) (h4 : Rep.size α ≠ 0) : TyIs P T α :=
  ⟨.of h1, by
    cases h : P.underlying T with
    | none => simp [h] at h2
    | some dd => exact ⟨dd, rfl, by simpa [h] using h2⟩, ⟨_, h3, RepZ.zero⟩, h4⟩
def FinRA (P : Program) (rv : ResultVar) (C : Ctx) (σ : AEnv) (H : AHeap) (a : AV) : Prop := ∀ ρ I L, RSt C I L σ H ρ → ∃ v, FinR P rv ρ I L v ∧ RepV I a v
section
variable {P : Program} {C : Ctx} {σ : AEnv} {H : AHeap}
theorem FinRA.tmp {t : Nat} {a : AV} (h : lookA σ t = some a) : FinRA P (.tmp t) C σ H a := fun ρ I L hs => by
  obtain ⟨u, h1, h2⟩ := hs.env t a h
  exact ⟨u, .tmp h1, h2⟩
theorem asV_one {α : Type} [Rep α] {I : Im} {x : α} {cs : List Value} (h : rep I x cs) (hg : Rep.agg α = false) : ∃ v, cs = [v] ∧ asV (Rep.agg α) cs = v := by
  have h1 := Rep.len h
  rw [Rep.one hg] at h1
  obtain ⟨v, rfl⟩ := List.length_eq_one_iff.1 h1
  exact ⟨v, rfl, by rw [hg]; rfl⟩
theorem FinRA.cell {t b : Nat} {T : TypeId} {α : Type} {r : Rep α} {i : Inhabited α} {x : α} {g : Bool} {F : Bool × Blk → AHeap} (ty : TyIs P T α) (h : lookA σ t = some (.ln (ptr b 0) (Lens.id (α := α)))) (hH : Hole H (g, .ob (ptr b 0) x) F) :
    FinRA P (.cell t T) C σ H (.v x) := fun ρ I L hs => by
  obtain ⟨u, h1, b', hb, rfl⟩ := hs.env t _ h
  cases hb
  obtain ⟨i, X, h2, h3, _⟩ := hH.get hs.heap
  obtain ⟨b2, T2, cs, hb2, rfl, h5⟩ := h3.1
  cases hb2
  obtain ⟨dd, hd1, hd2⟩ := ty.kind
  refine ⟨asV (Rep.agg α) cs, ?_, cs, h5, rfl⟩
  cases hag : Rep.agg α with
  | true => exact .cellA i hd1 (hd2.trans hag) (by rw [Rep.len h5]; exact ty.size) (by simpa [Lens.id] using h1) h2
  | false =>
    obtain ⟨v, rfl, hv⟩ := asV_one h5 hag
    exact .cellS i hd1 (hd2.trans hag) (by simpa [Lens.id] using h1) h2
variable {fn : Func} {q q2 q3 : ResultVar} {a b c : AV}
theorem FinA.r0 (h : fn.results = #[]) : FinA P fn C σ H (.raw (.tuple #[])) := fun ρ I L hs => ⟨_, .r0 h, rfl⟩
theorem FinA.r1 (h : fn.results = #[q]) (h1 : FinRA P q C σ H a) : FinA P fn C σ H a := fun ρ I L hs => by
  obtain ⟨v, k1, k2⟩ := h1 ρ I L hs
  exact ⟨v, .r1 h k1, k2⟩
theorem FinA.r2 (h : fn.results = #[q, q2]) (h1 : FinRA P q C σ H a) (h2 : FinRA P q2 C σ H b) : FinA P fn C σ H (.t2 a b) := fun ρ I L hs => by
  obtain ⟨v, k1, k2⟩ := h1 ρ I L hs
  obtain ⟨v2, l1, l2⟩ := h2 ρ I L hs
  exact ⟨_, .r2 h k1 l1, v, v2, rfl, k2, l2⟩
theorem FinA.r3 (h : fn.results = #[q, q2, q3]) (h1 : FinRA P q C σ H a) (h2 : FinRA P q2 C σ H b) (h3 : FinRA P q3 C σ H c) : FinA P fn C σ H (.t3 a b c) := fun ρ I L hs => by
  obtain ⟨v, k1, k2⟩ := h1 ρ I L hs
  obtain ⟨v2, l1, l2⟩ := h2 ρ I L hs
  obtain ⟨v3, m1, m2⟩ := h3 ρ I L hs
  exact ⟨_, .r3 h k1 l1 m1, v, v2, v3, rfl, k2, l2, m2⟩
end
end Go.Ab
set_option linter.unusedVariables false
namespace Go.Ab
open Go.Fl Go.RowKit
open Rep (rep)
variable {P : Program} {C : Ctx} {N : Nat} {σ : AEnv} {H : AHeap} {K : AV → Prop} {d : Option Nat} {ty : TypeId} {ps : String} {af : Array Edge} {g : Option (Nat × Bool)}
variable {x y z : Operand} {T T2 E S D : TypeId}
theorem OpP.vk {o : Oper} {r : AV} (k : K r) (h : ∀ ρ I L, RSt C I L σ H ρ → OpV P N o ρ I L (fun v => RepV I r v)) : OpP P N C o σ H K := .ofV r h k
theorem OpP.move {a : AV} (hx : EvA C σ H x a) (k : K a) : OpP P N C ⟨d, .move x, ty, ps, af, g⟩ σ H K :=
  .ofV a (fun ρ I L hs => by obtain ⟨u, h1, h2⟩ := hx ρ I L hs; exact .move h1 h2) k
theorem OpP.assign {a : AV} (hx : EvA C σ H x a) (k : K a) : OpP P N C ⟨d, .assign x, ty, ps, af, g⟩ σ H K :=
  .ofV a (fun ρ I L hs => by obtain ⟨u, h1, h2⟩ := hx ρ I L hs; exact .assign h1 h2) k
theorem OpP.pickAnd {b v : Bool} (hc : EvA C σ H x (.v b)) (hy : b = true → EvA C σ H y (.v v)) (k : K (.v (b && v))) : OpP P N C ⟨d, .pick x y (.const (.bool false)), ty, ps, af, g⟩ σ H K :=
  .ofV (.v (b && v)) (fun ρ I L hs => by
    cases b with
    | true => obtain ⟨w, h1, h2⟩ := hy rfl ρ I L hs; exact .pickT (hc.bool hs) h1 (by simpa using h2)
    | false => exact .pickF (v := .bool false) (hc.bool hs) rfl ⟨_, rfl, rfl⟩) k
theorem OpP.pickOr {b v : Bool} (hc : EvA C σ H x (.v b)) (hz : b = false → EvA C σ H z (.v v)) (k : K (.v (b || v))) : OpP P N C ⟨d, .pick x (.const (.bool true)) z, ty, ps, af, g⟩ σ H K :=
  .ofV (.v (b || v)) (fun ρ I L hs => by
    cases b with
    | true => exact .pickT (v := .bool true) (hc.bool hs) rfl ⟨_, rfl, rfl⟩
    | false => obtain ⟨w, h1, h2⟩ := hz rfl ρ I L hs; exact .pickF (hc.bool hs) h1 (by simpa using h2)) k
theorem OpP.ext2_0 {a b : AV} (hx : EvA C σ H x (.t2 a b)) (k : K a) : OpP P N C ⟨d, .extract x 0, ty, ps, af, g⟩ σ H K :=
  .ofV a (fun ρ I L hs => by obtain ⟨u, h1, v, w, rfl, h3, h4⟩ := hx ρ I L hs; exact .extract h1 rfl h3) k
theorem OpP.ext2_1 {a b : AV} (hx : EvA C σ H x (.t2 a b)) (k : K b) : OpP P N C ⟨d, .extract x 1, ty, ps, af, g⟩ σ H K :=
  .ofV b (fun ρ I L hs => by obtain ⟨u, h1, v, w, rfl, h3, h4⟩ := hx ρ I L hs; exact .extract h1 rfl h4) k
theorem OpP.ext3_0 {a b c : AV} (hx : EvA C σ H x (.t3 a b c)) (k : K a) : OpP P N C ⟨d, .extract x 0, ty, ps, af, g⟩ σ H K :=
  .ofV a (fun ρ I L hs => by obtain ⟨u, h1, v, w, t, rfl, h3, h4, h5⟩ := hx ρ I L hs; exact .extract h1 rfl h3) k
theorem OpP.ext3_1 {a b c : AV} (hx : EvA C σ H x (.t3 a b c)) (k : K b) : OpP P N C ⟨d, .extract x 1, ty, ps, af, g⟩ σ H K :=
  .ofV b (fun ρ I L hs => by obtain ⟨u, h1, v, w, t, rfl, h3, h4, h5⟩ := hx ρ I L hs; exact .extract h1 rfl h4) k
theorem OpP.ext3_2 {a b c : AV} (hx : EvA C σ H x (.t3 a b c)) (k : K c) : OpP P N C ⟨d, .extract x 2, ty, ps, af, g⟩ σ H K :=
  .ofV c (fun ρ I L hs => by obtain ⟨u, h1, v, w, t, rfl, h3, h4, h5⟩ := hx ρ I L hs; exact .extract h1 rfl h5) k
section int
variable {m n : Int} (hx : EvA C σ H x (.v m)) (hy : EvA C σ H y (.v n))
include hx hy
theorem OpP.add (h1 : -9223372036854775808 ≤ m + n) (h2 : m + n ≤ 9223372036854775807) (k : K (.v (m + n))) : OpP P N C ⟨d, .binOp .add T x y T2, ty, ps, af, g⟩ σ H K :=
  .vk k (fun ρ I L hs => .add (hx.int hs).1 (hy.int hs).1 h1 h2 ⟨_, ⟨rfl, h1, h2⟩, rfl⟩)
theorem OpP.sub (h1 : -9223372036854775808 ≤ m - n) (h2 : m - n ≤ 9223372036854775807) (k : K (.v (m - n))) : OpP P N C ⟨d, .binOp .sub T x y T2, ty, ps, af, g⟩ σ H K :=
  .vk k (fun ρ I L hs => .sub (hx.int hs).1 (hy.int hs).1 h1 h2 ⟨_, ⟨rfl, h1, h2⟩, rfl⟩)
theorem OpP.mul (h1 : -9223372036854775808 ≤ m * n) (h2 : m * n ≤ 9223372036854775807) (k : K (.v (m * n))) : OpP P N C ⟨d, .binOp .mul T x y T2, ty, ps, af, g⟩ σ H K :=
  .vk k (fun ρ I L hs => .mul (hx.int hs).1 (hy.int hs).1 h1 h2 ⟨_, ⟨rfl, h1, h2⟩, rfl⟩)
theorem OpP.quo (h0 : 0 ≤ m) (h2 : 0 < n) (k : K (.v (m / n))) : OpP P N C ⟨d, .binOp .quo T x y T2, ty, ps, af, g⟩ σ H K :=
  .vk k (fun ρ I L hs => .quo (hx.int hs).1 (hy.int hs).1 h0 (hx.int hs).2.2 h2 ⟨_, ⟨rfl, by have := Int.ediv_nonneg h0 (Int.le_of_lt h2); omega, by have := Int.ediv_le_self n h0; have := (hx.int hs).2.2; omega⟩, rfl⟩)
theorem OpP.rem (h0 : 0 ≤ m) (h2 : 0 < n) (k : K (.v (m % n))) : OpP P N C ⟨d, .binOp .rem T x y T2, ty, ps, af, g⟩ σ H K :=
  .vk k (fun ρ I L hs => .rem (hx.int hs).1 (hy.int hs).1 h0 h2 ⟨_, ⟨rfl, by have := Int.emod_nonneg m (show n ≠ 0 by omega); omega, by have := Int.emod_lt_of_pos m h2; have := (hy.int hs).2.2; omega⟩, rfl⟩)
theorem OpP.tmod (hn : n ≠ 0) (k : K (.v (m.tmod n))) : OpP P N C ⟨d, .binOp .rem T x y T2, ty, ps, af, g⟩ σ H K :=
  .vk k (fun ρ I L hs => .tmod (hx.int hs).1 (hy.int hs).1 hn ⟨_, ⟨rfl, by
      have h1 := (hx.int hs).2
      have h3 : (m.tmod n).natAbs ≤ m.natAbs := by rw [Int.natAbs_tmod]; exact Nat.mod_le _ _
      by_cases hm : 0 ≤ m
      · have := Int.tmod_nonneg n hm; omega
      · omega, by
      have h1 := (hx.int hs).2
      have h3 : (m.tmod n).natAbs ≤ m.natAbs := by rw [Int.natAbs_tmod]; exact Nat.mod_le _ _
      by_cases hm : 0 ≤ m
      · omega
      · have e : m.tmod n = -((-m).tmod n) := by rw [Int.neg_tmod]; omega
        have := Int.tmod_nonneg n (show 0 ≤ -m by omega)
        omega⟩, rfl⟩)
theorem OpP.lss (k : K (.v (decide (m < n)))) : OpP P N C ⟨d, .binOp .lss T x y T2, ty, ps, af, g⟩ σ H K :=
  .vk k (fun ρ I L hs => .lss (hx.int hs).1 (hy.int hs).1 ⟨_, rfl, rfl⟩)
theorem OpP.gtr (k : K (.v (decide (n < m)))) : OpP P N C ⟨d, .binOp .gtr T x y T2, ty, ps, af, g⟩ σ H K :=
  .vk k (fun ρ I L hs => .gtr (hx.int hs).1 (hy.int hs).1 ⟨_, rfl, rfl⟩)
theorem OpP.geq (k : K (.v (decide (n ≤ m)))) : OpP P N C ⟨d, .binOp .geq T x y T2, ty, ps, af, g⟩ σ H K :=
  .vk k (fun ρ I L hs => .geq (hx.int hs).1 (hy.int hs).1 ⟨_, rfl, rfl⟩)
theorem OpP.eqlI (k : K (.v (decide (m = n)))) : OpP P N C ⟨d, .binOp .eql T x y T2, ty, ps, af, g⟩ σ H K :=
  .vk k (fun ρ I L hs => .eqlI (hx.int hs).1 (hy.int hs).1 ⟨_, rfl, rfl⟩)
theorem OpP.neqI (k : K (.v (decide (m ≠ n)))) : OpP P N C ⟨d, .binOp .neq T x y T2, ty, ps, af, g⟩ σ H K :=
  .vk k (fun ρ I L hs => .neqI (hx.int hs).1 (hy.int hs).1 ⟨_, rfl, rfl⟩)
theorem OpP.minI {ts : Array TypeId} (k : K (.v (min m n))) : OpP P N C ⟨d, .call ⟨.builtin .min, #[x, y], ts⟩, ty, ps, af, g⟩ σ H K :=
  .vk k (fun ρ I L hs => .minI (hx.int hs).1 (hy.int hs).1 ⟨_, ⟨rfl, by have := (hx.int hs).2; have := (hy.int hs).2; omega, by have := (hx.int hs).2; omega⟩, rfl⟩)
end int
theorem OpP.not {b : Bool} (hx : EvA C σ H x (.v b)) (k : K (.v (!b))) : OpP P N C ⟨d, .unOp .not T x, ty, ps, af, g⟩ σ H K :=
  .vk k (fun ρ I L hs => .not (hx.bool hs) ⟨_, rfl, rfl⟩)
theorem dec_lt8 (m n : UInt8) : decide ((m.toNat : Int) < n.toNat) = decide (m < n) := by simp [UInt8.lt_iff_toNat_lt]
theorem dec_eq8 (m n : UInt8) : decide ((m.toNat : Int) = n.toNat) = decide (m = n) := by rw [decide_eq_decide, Int.ofNat_inj, UInt8.toNat_inj]
section by8
variable {m n : UInt8} (hx : EvA C σ H x (.v m)) (hy : EvA C σ H y (.v n))
include hx hy
theorem OpP.lss8 (k : K (.v (decide (m < n)))) : OpP P N C ⟨d, .binOp .lss T x y T2, ty, ps, af, g⟩ σ H K :=
  .vk k (fun ρ I L hs => .lss (hx.by8 hs) (hy.by8 hs) ⟨_, rfl, by rw [dec_lt8]; rfl⟩)
theorem OpP.gtr8 (k : K (.v (decide (n < m)))) : OpP P N C ⟨d, .binOp .gtr T x y T2, ty, ps, af, g⟩ σ H K :=
  .vk k (fun ρ I L hs => .gtr (hx.by8 hs) (hy.by8 hs) ⟨_, rfl, by rw [dec_lt8]; rfl⟩)
theorem OpP.eql8 (k : K (.v (decide (m = n)))) : OpP P N C ⟨d, .binOp .eql T x y T2, ty, ps, af, g⟩ σ H K :=
  .vk k (fun ρ I L hs => .eqlI (hx.by8 hs) (hy.by8 hs) ⟨_, rfl, by rw [dec_eq8]; rfl⟩)
theorem OpP.neq8 (k : K (.v (decide (m ≠ n)))) : OpP P N C ⟨d, .binOp .neq T x y T2, ty, ps, af, g⟩ σ H K :=
  .vk k (fun ρ I L hs => .neqI (hx.by8 hs) (hy.by8 hs) ⟨_, rfl, by simp only [ne_eq, decide_not, dec_eq8]; rfl⟩)
theorem OpP.xor8 (k : K (.v (m ^^^ n))) : OpP P N C ⟨d, .binOp .xor T x y T2, ty, ps, af, g⟩ σ H K :=
  .vk k (fun ρ I L hs => .xor8 (hx.by8 hs) (hy.by8 hs) ⟨_, rfl, rfl⟩)
theorem OpP.or8 (k : K (.v (m ||| n))) : OpP P N C ⟨d, .binOp .or T x y T2, ty, ps, af, g⟩ σ H K :=
  .vk k (fun ρ I L hs => .or8 (hx.by8 hs) (hy.by8 hs) ⟨_, rfl, rfl⟩)
end by8
section by64
variable {m n : UInt64} (hx : EvA C σ H x (.v m)) (hy : EvA C σ H y (.v n))
include hx hy
end by64
section conv
variable {ds : TypeDesc}
theorem OpP.conv8 {n : Int} (hS : P.underlying S = some ds) (hD : P.underlying D = some (.int .u8)) (hx : EvA C σ H x (.v n)) (k : K (.v (UInt8.ofInt n))) : OpP P N C ⟨d, .convert S D x, ty, ps, af, g⟩ σ H K :=
  .vk k (fun ρ I L hs => .conv8 hS hD (hx.int hs).1 ⟨_, rfl, rfl⟩)
theorem OpP.conv64 {n : Int} (hS : P.underlying S = some ds) (hD : P.underlying D = some (.int .u64)) (hx : EvA C σ H x (.v n)) (k : K (.v (UInt64.ofInt n))) : OpP P N C ⟨d, .convert S D x, ty, ps, af, g⟩ σ H K :=
  .vk k (fun ρ I L hs => .conv64 hS hD (hx.int hs).1 ⟨_, rfl, rfl⟩)
end conv
theorem OpP.len {α : Type} {r : Rep α} {l : List α} (hT : P.underlying T = some (.slice E)) (hx : EvA C σ H x (.v l)) (k : K (.v (l.length : Int))) : OpP P N C ⟨d, .call ⟨.builtin .len, #[x], #[T]⟩, ty, ps, af, g⟩ σ H K :=
  .vk k (fun ρ I L hs => by
    obtain ⟨u, h1, xs, ⟨a, c, rfl, _, h3, h4, _⟩, _⟩ := hx.sl hs
    exact .len hT h1 ⟨_, ⟨rfl, by omega, by unfold maxLen at h4; omega⟩, rfl⟩)
theorem OpP.lenOwn {α : Type} {r : Rep α} {t : Nat} {w : Value} {l : List α} {b : Bool} {F : Bool × Blk → AHeap} (hT : P.underlying T = some (.slice E)) (hx : lookA σ t = some (.raw w)) {E' : TypeId} (hH : Hole H (b, .own E' w l) F) (k : K (.v (l.length : Int))) :
    OpP P N C ⟨d, .call ⟨.builtin .len, #[.tmp t], #[T]⟩, ty, ps, af, g⟩ σ H K :=
  .vk k (fun ρ I L hs => by
    obtain ⟨u, h1, rfl⟩ := hs.env t _ hx
    obtain ⟨i, X, h2, h3, _⟩ := hH.get hs.heap
    obtain ⟨xs, ho, _⟩ := h3.1
    have hle := ho.le
    obtain ⟨a, c, rfl⟩ := ho.shape
    exact .len hT h1 ⟨_, ⟨rfl, by omega, by omega⟩, rfl⟩)
theorem OpP.lenS {s : Str} (hT : P.underlying T = some .string) (hx : EvA C σ H x (.v s)) (k : K (.v (s.l.length : Int))) : OpP P N C ⟨d, .call ⟨.builtin .len, #[x], #[T]⟩, ty, ps, af, g⟩ σ H K :=
  .vk k (fun ρ I L hs => by
    obtain ⟨b, h1, h2⟩ := hx.str hs
    have hb := hx.strLe hs
    have e : (b.size : Int) = (s.l.length : Int) := by rw [← h2]; rfl
    exact .lenS hT h1 ⟨_, ⟨congrArg (fun q => [i64 q]) e, by omega, by omega⟩, rfl⟩)
theorem segGet_get {xs : List Value} {k s i : Nat} {v : Value} (h : (segGet xs k s)[i]? = some v) : xs[k + i]? = some v := by
  simp only [segGet, List.getElem?_take, List.getElem?_drop] at h
  split at h
  · exact h
  · cases h
theorem OpP.idx {α : Type} {r : Rep α} {i : Inhabited α} {l : List α} {n : Int} (tE : TyIs P E α) (hT : P.underlying T = some (.slice E)) (hx : EvA C σ H x (.v l)) (hy : EvA C σ H y (.v n)) (h0 : 0 ≤ n) (h1 : n < l.length)
    (k : K (.p (l[n.toNat]'(by omega)))) : OpP P N C ⟨d, .indexAddr T x y, ty, ps, af, g⟩ σ H K :=
  .vk k (fun ρ I L hs => by
    obtain ⟨u, hu, xs, hsl, hl⟩ := hx.sl hs
    have hk : n.toNat < l.length := by omega
    have hg := hl.get n.toNat hk
    obtain ⟨a, c, rfl, hlen, h3, h4, h5, h6⟩ := hsl
    have hz : xs ≠ [] := by
      intro hz
      have := hl.len
      rw [hz] at this
      simp only [List.length_nil] at this
      rcases Nat.mul_eq_zero.1 this.symm with h | h
      · omega
      · exact tE.pos h
    obtain ⟨b, o, rfl, hc⟩ := h6 hz
    exact .indexAddrS hT tE.size hu (hy.int hs).1 h0 h1 ⟨b, _, _, rfl, hg, hc.sub (n.toNat * Rep.size α) (fun i v hv => segGet_get hv)⟩)
theorem shrI_run (T : TypeId) (m : Int) (kd : IntKind) (n : Nat) (h : n < 64) : binOp .shr T (i64 m) (.int kd (n : Int)) = pure (i64 (m >>> n)) := by
  show Op.shift .shr .i64 m kd n = _
  unfold Op.shift
  rw [if_neg (by omega)]
  have e : min ((n : Int).toNat) (IntKind.bits .i64) = n := by simp [IntKind.bits]; omega
  show (pure (Value.int .i64 (Int.fdiv m (2 ^ (min ((n : Int).toNat) (IntKind.bits .i64))))) : Sem Value) = _
  rw [e, Int.shiftRight_eq_div_pow, Int.fdiv_eq_ediv_of_nonneg _ (Int.pow_nonneg (by omega))]
  rfl
theorem OpP.shrI {m n : Int} (hx : EvA C σ H x (.v m)) (hy : EvA C σ H y (.v n)) (h0 : 0 ≤ n) (h1 : n < 64) (k : K (.v (m >>> n.toNat))) : OpP P N C ⟨d, .binOp .shr T x y T2, ty, ps, af, g⟩ σ H K :=
  .vk k (fun ρ I L hs => by
    obtain ⟨j, rfl⟩ := Int.eq_ofNat_of_zero_le h0
    have hm := (hx.int hs).2
    refine .mk ⟨_, ⟨rfl, ?_, ?_⟩, rfl⟩ fun a w ha hm => by
      simp [execOp, ha.ev (hx.int hs).1, ha.ev (hy.int hs).1, eqGuard, shrI_run T m _ j (by omega), asV, Rep.agg]
    · rw [Int.toNat_natCast, Int.shiftRight_eq_div_pow]
      rcases Int.le_total 0 m with h | h
      · have := Int.ediv_nonneg h (Int.natCast_nonneg (2 ^ j)); omega
      · have h2 : (1 : Int) ≤ ((2 ^ j : Nat) : Int) := Int.natCast_pos.2 (Nat.two_pow_pos j)
        have := Int.le_ediv_of_mul_le (a := m) (b := m) (c := ((2 ^ j : Nat) : Int)) (by omega) (by have := Int.mul_le_mul_of_nonpos_left h h2; omega)
        omega
    · rw [Int.toNat_natCast, Int.shiftRight_eq_div_pow]
      rcases Int.le_total 0 m with h | h
      · have := Int.ediv_le_self ((2 ^ j : Nat) : Int) h; omega
      · have h2 : (0 : Int) < ((2 ^ j : Nat) : Int) := Int.natCast_pos.2 (Nat.two_pow_pos j)
        have := Int.ediv_lt_of_lt_mul (a := m) (b := 1) h2 (by omega); omega)
end Go.Ab
set_option linter.unusedVariables false
namespace Go.Ab
open Go.Fl Go.RowKit
open Rep (rep)
variable {P : Program} {C : Ctx} {N : Nat} {σ : AEnv} {H : AHeap} {K : AV → Prop} {KH : AV → AHeap → Prop} {d : Option Nat} {ty : TypeId} {ps : String} {af : Array Edge} {g : Option (Nat × Bool)}
variable {x y z : Operand} {T T2 E S D : TypeId}
theorem OpP.idxOwn {β : Type} {s : Rep β} {ib : Inhabited β} {t : Nat} {w : Value} {l : List β} {i : Int} {bb : Bool} {E' : TypeId} {F : Bool × Blk → AHeap} (tE : TyIs P E β) (hT : P.underlying T = some (.slice E)) (hx : lookA σ t = some (.raw w)) (hH : Hole H (bb, .own E' w l) F)
    (hy : EvA C σ H y (.v i)) (h0 : 0 ≤ i) (h1 : i < l.length) (k : K (.el w i.toNat (Lens.id (α := β)))) : OpP P N C ⟨d, .indexAddr T (.tmp t) y, ty, ps, af, g⟩ σ H K :=
  .vk k (fun ρ I L hs => by
    obtain ⟨u, h2, rfl⟩ := hs.env t _ hx
    obtain ⟨j, X, h3, h4, _⟩ := hH.get hs.heap
    obtain ⟨xs, ho, hl⟩ := h4.1
    rcases ho with ⟨_, h, _⟩ | ⟨b, c, sp, q, rfl, _⟩
    · omega
    · refine .indexAddrS hT tE.size h2 (hy.int hs).1 h0 h1 ⟨b, rfl, ?_⟩
      simp [Lens.id])
theorem OpP.fldL {α β γ : Type} {r : Rep α} {s : Rep β} {q : Rep γ} {i off sz : Nat} {ag : Bool} {w : Value} {l : Lens α β} (m : Lens β γ) (hf : fieldOff P T i = some (off, sz + 1, ag)) (ho : off = m.off) (hx : EvA C σ H x (.ln w l)) (k : K (.ln w (l.comp m))) :
    OpP P N C ⟨d, .fieldAddr T x i, ty, ps, af, g⟩ σ H K :=
  .vk k (fun ρ I L hs => by
    obtain ⟨u, h2, b, h3, rfl⟩ := hx ρ I L hs
    subst ho
    exact .fieldAddr hf h2 ⟨b, h3, rfl⟩)
theorem OpP.fldE {α β γ : Type} {r : Rep α} {s : Rep β} {q : Rep γ} {i off sz kk : Nat} {ag : Bool} {w : Value} {l : Lens α β} (m : Lens β γ) (hf : fieldOff P T i = some (off, sz + 1, ag)) (ho : off = m.off) (hx : EvA C σ H x (.el w kk l)) (k : K (.el w kk (l.comp m))) :
    OpP P N C ⟨d, .fieldAddr T x i, ty, ps, af, g⟩ σ H K :=
  .vk k (fun ρ I L hs => by
    obtain ⟨u, h2, b, h3, rfl⟩ := hx ρ I L hs
    subst ho
    exact .fieldAddr hf h2 ⟨b, h3, by simp [Lens.comp, Nat.add_assoc]⟩)
theorem OpP.fldP {β γ : Type} {s : Rep β} {q : Rep γ} {i off sz : Nat} {ag : Bool} {a : β} (m : Lens β γ) (hf : fieldOff P T i = some (off, sz + 1, ag)) (ho : off = m.off) (hx : EvA C σ H x (.p a)) (k : K (.p (m.get a))) :
    OpP P N C ⟨d, .fieldAddr T x i, ty, ps, af, g⟩ σ H K :=
  .vk k (fun ρ I L hs => by
    obtain ⟨u, h2, b, o, cs, rfl, h3, h4⟩ := hx ρ I L hs
    subst ho
    exact .fieldAddr hf h2 ⟨b, _, _, rfl, m.gets h3, h4.sub m.off (fun j v hv => segGet_get hv)⟩)
theorem OpV.loadAny {ρ : Env} {I : Im} {L : Lh} {φ : Value → Prop} {α : Type} [Rep α] [Inhabited α] {I' : Im} {a : α} {vs : List Value} {b off : Nat} (tT : TyIs P T α) (hx : ev ρ x = some (ptr b off)) (hr : rep I' a vs)
    (hc : ∀ w, Mem I L w → ∀ j v, vs[j]? = some v → w.cell? ⟨b, off + j, none⟩ = some v) (k : φ (asV (Rep.agg α) vs)) : OpV P N ⟨d, .load T x, ty, ps, af, g⟩ ρ I L φ := .mk k fun ac w ha hm => by
  obtain ⟨dd, hd1, hd2⟩ := tT.kind
  cases hag : Rep.agg α with
  | true =>
    have hs : SizeIs P T vs.length := by rw [Rep.len hr]; exact tT.size
    simp [execOp, ha.ev hx, Fl.run_loadA hd1 (hd2.trans hag) hs (hc w hm), asV]
  | false =>
    obtain ⟨v, rfl, hv⟩ := asV_one hr hag
    simp [execOp, ha.ev hx, Fl.run_load hd1 (hd2.trans hag) (show w.cell? ⟨b, off, none⟩ = some v by simpa using hc w hm 0 v rfl), asV]
theorem OpP.ldP {α : Type} {r : Rep α} {i : Inhabited α} {a : α} (tT : TyIs P T α) (hx : EvA C σ H x (.p a)) (k : K (.v a)) : OpP P N C ⟨d, .load T x, ty, ps, af, g⟩ σ H K :=
  .vk k (fun ρ I L hs => by
    obtain ⟨u, h2, b, o, cs, rfl, h3, h4⟩ := hx ρ I L hs
    exact OpV.loadAny tT h2 h3 (fun w hm j v hv => h4.cell hm hv) ⟨cs, h3, rfl⟩)
theorem OpP.ldL {α β : Type} {r : Rep α} {s : Rep β} {i : Inhabited β} {w : Value} {l : Lens α β} {a : α} {bb : Bool} {F : Bool × Blk → AHeap} (tT : TyIs P T β) (hx : EvA C σ H x (.ln w l)) (hH : Hole H (bb, .ob w a) F) (k : K (.v (l.get a))) :
    OpP P N C ⟨d, .load T x, ty, ps, af, g⟩ σ H K :=
  .vk k (fun ρ I L hs => by
    obtain ⟨u, h2, b, h3, rfl⟩ := hx ρ I L hs
    obtain ⟨j, X, h4, h5, _⟩ := hH.get hs.heap
    obtain ⟨b2, T', cs, rfl, rfl, h6⟩ := h5.1
    cases h3
    exact OpV.loadAny tT h2 (l.gets h6) (fun w hm j v hv => by rw [chunk_cell hm h4]; exact segGet_get hv) ⟨_, l.gets h6, rfl⟩)
theorem OpP.ldE {α β : Type} {r : Rep α} {s : Rep β} {i : Inhabited β} {w : Value} {l : Lens α β} {ags : List α} {kk : Nat} {bb : Bool} {E' : TypeId} {F : Bool × Blk → AHeap} (tT : TyIs P T β) (hx : EvA C σ H x (.el w kk l)) (hH : Hole H (bb, .own E' w ags) F) (hk : kk < ags.length)
    (k : K (.v (l.get ags[kk]))) : OpP P N C ⟨d, .load T x, ty, ps, af, g⟩ σ H K :=
  .vk k (fun ρ I L hs => by
    obtain ⟨u, h2, b, h3, rfl⟩ := hx ρ I L hs
    obtain ⟨j, X, h4, h5, _⟩ := hH.get hs.heap
    obtain ⟨xs, ho, h6⟩ := h5.1
    rcases ho with ⟨_, h, _⟩ | ⟨b2, c, sp, q, rfl, rfl, _⟩
    · omega
    · cases h3
      have hg := l.gets (h6.get kk hk)
      rw [segGet_segGet l.fits] at hg
      exact OpV.loadAny tT h2 hg (fun w hm j v hv => by
        rw [chunk_cellG hm h4]
        have := segGet_get hv
        rw [List.getElem?_append_left (List.getElem?_eq_some_iff.1 this).1]; exact this) ⟨_, hg, rfl⟩)
theorem cells_asV {α : Type} [Rep α] {I : Im} {a : α} {vs : List Value} (h : rep I a vs) : (asV (Rep.agg α) vs).cells.toList = vs := by
  cases hag : Rep.agg α with
  | true => simp [asV, Value.cells]
  | false =>
    obtain ⟨v, rfl, hv⟩ := asV_one h hag
    have h1 := Rep.flat h
    simp only [ones, List.all_cons, List.all_nil, Bool.and_true] at h1
    simp only [asV, List.headD_cons]
    cases v <;> first | rfl | (simp [Value.oneCell'] at h1)
theorem OpH.stL {α β : Type} {r : Rep α} {s : Rep β} {i : Inhabited β} {w : Value} {l : Lens α β} {a : α} {c : β} {bb : Bool} {F : Bool × Blk → AHeap} (tT : TyIs P T β) (hx : EvA C σ H x (.ln w l)) (hy : EvA C σ H y (.v c)) (hH : Hole H (bb, .ob w a) F)
    (k : KH .any (F (bb, .ob w (l.set c a)))) : OpH P C N ⟨d, .store T x y, ty, ps, af, g⟩ σ H KH := fun ρ I L hs => by
  obtain ⟨u, h2, b, h3, rfl⟩ := hx ρ I L hs
  obtain ⟨u, h7, vs, h8, rfl⟩ := hy ρ I L hs
  obtain ⟨j, X, h4, h5, h6⟩ := hH.get hs.heap
  obtain ⟨b2, T', cs, rfl, rfl, h9⟩ := h5.1
  cases h3
  refine .store j (by rw [Rep.len h8]; exact tT.size) h2 h7 (cells_asV h8) (Rep.flat h8) h4 (by rw [Rep.len h8, Rep.len h9]; exact l.fits) ⟨Le.refl I, .any, _, trivial, h6 I (bb, .ob (ptr b 0) (l.set c a)) [(b, row (segSet cs l.off vs) T')] (Le.refl I) ⟨⟨b, T', _, rfl, rfl, l.sets h9 h8⟩, fun hb p hp => ?_⟩, k⟩
  have := h5.2 hb (b, row cs T') (by simp)
  simp only [List.mem_singleton] at hp
  subst hp; exact this
theorem OpH.stW {α : Type} {r : Rep α} {i : Inhabited α} {w : Value} {a c : α} {bb : Bool} {F : Bool × Blk → AHeap} (tT : TyIs P T α) (hx : EvA C σ H x (.ln w (Lens.id (α := α)))) (hy : EvA C σ H y (.v c)) (hH : Hole H (bb, .ob w a) F)
    (k : KH .any (F (bb, .ob w c))) : OpH P C N ⟨d, .store T x y, ty, ps, af, g⟩ σ H KH := .stL tT hx hy hH k
theorem OpP.ldW {α : Type} {r : Rep α} {i : Inhabited α} {w : Value} {a : α} {bb : Bool} {F : Bool × Blk → AHeap} (tT : TyIs P T α) (hx : EvA C σ H x (.ln w (Lens.id (α := α)))) (hH : Hole H (bb, .ob w a) F) (k : K (.v a)) :
    OpP P N C ⟨d, .load T x, ty, ps, af, g⟩ σ H K := .ldL tT hx hH k
theorem OpS.storeG {ρ : Env} {I : Im} {L : Lh} {K : Value → Im → Lh → Prop} (i : Nat) {b off : Nat} {v : Value} {cs vs : List Value} {e : TypeId} {q : Nat × Nat} (hs : SizeIs P T vs.length) (hx : ev ρ x = some (ptr b off)) (hy : ev ρ y = some v) (hv : v.cells.toList = vs) (h1 : ones vs = true)
    (hL : L[i]? = some [(b, .cells cs.toArray e q)]) (hq : ∀ j, j < cs.length → ¬ (q.1 ≤ j ∧ j < q.2)) (hle : off + vs.length ≤ cs.length) (k : K undef I (L.set i [(b, .cells (segSet cs off vs).toArray e q)])) :
    OpS P C N ⟨d, .store T x y, ty, ps, af, g⟩ ρ I L K := fun a w ha hst => by
  have hb := hst.mem.loc (b, .cells cs.toArray e q) (mem_chunk hL (by simp))
  have hvs : v.cells.size = vs.length := by rw [← hv]; simp
  have hall : ∀ u ∈ vs, u.oneCell' = true := fun u hu => List.all_eq_true.1 h1 u hu
  have hrun := run_storeCells_fr P b off e q vs 0 cs.toArray w hb (by simpa using hle) hall (by simpa using hq)
  have hr : (execOp a.eval ⟨d, .store T x y, ty, ps, af, g⟩).run P w = .ok .skip (w.setRow b (segSet cs off vs).toArray) := by
    simp only [Nat.add_zero] at hrun
    simp [execOp, ha.ev hx, ha.ev hy, Instr.storeAt, Instr.sureAddr, storeVar, hs.run, hvs, hv, hrun, segSet]
  rw [hr]
  exact ⟨I, _, setRowG hst hL _, k⟩
theorem OpH.stE {α β : Type} {r : Rep α} {s : Rep β} {i : Inhabited β} {w : Value} {l : Lens α β} {ags : List α} {c : β} {kk : Nat} {bb : Bool} {E' : TypeId} {F : Bool × Blk → AHeap} (tT : TyIs P T β) (hx : EvA C σ H x (.el w kk l)) (hy : EvA C σ H y (.v c))
    (hH : Hole H (bb, .own E' w ags) F) (hk : kk < ags.length) (k : KH .any (F (bb, .own E' w (ags.set kk (l.set c ags[kk]))))) : OpH P C N ⟨d, .store T x y, ty, ps, af, g⟩ σ H KH := fun ρ I L hs => by
  obtain ⟨u, h2, b, h3, rfl⟩ := hx ρ I L hs
  obtain ⟨u, h7, vs, h8, rfl⟩ := hy ρ I L hs
  obtain ⟨j, X, h4, h5, h6⟩ := hH.get hs.heap
  obtain ⟨xs, ho, h9⟩ := h5.1
  rcases ho with ⟨_, h, _⟩ | ⟨b2, cc, sp, q, rfl, rfl, e1, e2, e3, e4, e5⟩
  · omega
  · cases h3
    have hfit : kk * Rep.size α + l.off + vs.length ≤ xs.length := by
      rw [Rep.len h8, h9.len]
      have := l.fits
      have h10 := Nat.mul_le_mul_right (Rep.size α) (Nat.succ_le_of_lt hk)
      rw [Nat.succ_mul] at h10
      omega
    have hset : repL I (ags.set kk (l.set c ags[kk])) (segSet xs (kk * Rep.size α + l.off) vs) := by
      have h10 := h9.set kk hk (l.sets (h9.get kk hk) h8)
      rw [segSet_segSet (by rw [Rep.len h8]; exact l.fits) (by
        rw [h9.len]
        have h11 := Nat.mul_le_mul_right (Rep.size α) (Nat.succ_le_of_lt hk)
        rw [Nat.succ_mul] at h11
        omega)] at h10
      exact h10
    refine OpS.storeG j (by rw [Rep.len h8]; exact tT.size) h2 h7 (cells_asV h8) (Rep.flat h8) h4 (fun i hi => by rcases e5 with rfl | rfl <;> simp at hi ⊢ <;> omega) (by rw [List.length_append]; omega) ?_
    have hseg : segSet (xs ++ sp) (kk * Rep.size α + l.off) vs = segSet xs (kk * Rep.size α + l.off) vs ++ sp := segSet_append xs sp _ vs hfit
    have hlen : (segSet xs (kk * Rep.size α + l.off) vs).length = xs.length := segSet_length _ _ _ hfit
    refine ⟨Le.refl I, .any, _, trivial, h6 I (bb, .own E' _ (ags.set kk (l.set c ags[kk]))) _ (Le.refl I) ⟨⟨segSet xs (kk * Rep.size α + l.off) vs, .inr ⟨b, cc, sp, q, ?_, by rw [hseg], by rw [hlen, List.length_set]; exact e1, by rw [List.length_append, hlen, ← List.length_append]; exact e2, by rw [List.length_set]; exact e3, e4, ?_⟩, hset⟩, fun hb p hp => ?_⟩, k⟩
    · rw [List.length_set]
    · rw [List.length_append, hlen, ← List.length_append]; exact e5
    · have := h5.2 hb (b, .cells (xs ++ sp).toArray E' q) (by simp)
      simp only [List.mem_singleton] at hp
      subst hp; exact this
theorem OpH.ofX {o : Oper} (h : ∀ ρ I L, RSt C I L σ H ρ → OpX P N o ρ I L (fun v J X => ∃ r B Xc, X = [Xc] ∧ RepV J r v ∧ Blk.brep J B Xc ∧ KH r ((true, B) :: H))) : OpH P C N o σ H KH := fun ρ I L hs a w ha hst =>
  (h ρ I L hs a w ha hst.mem).mono fun v w' ⟨J, X, hc, hle, hn, hm, hX, r, B, Xc, e, h1, h2, h3⟩ => by
    subst e
    exact ⟨J, [Xc] ++ L, hst.step hc hle hn hm hX, hle, r, (true, B) :: H, h1, ⟨Xc, L, rfl, ⟨h2, fun _ p hp => Nat.le_trans hst.chg.size (hX p (by simpa using hp))⟩, hs.heap.mono hle⟩, h3⟩
theorem OpH.alloc {α : Type} {r : Rep α} {i : Inhabited α} (tT : TyIs P T α) (k : ∀ b, KH (.ln (ptr b 0) (Lens.id (α := α))) ((true, .ob (ptr b 0) (default : α)) :: H)) : OpH P C N ⟨d, .alloc T, ty, ps, af, g⟩ σ H KH :=
  .ofX fun ρ I L hs => by
    obtain ⟨zs, h1, h2⟩ := tT.zero
    exact .alloc h1 fun b => ⟨.ln (ptr b 0) (Lens.id (α := α)), .ob (ptr b 0) (default : α), _, rfl, ⟨b, rfl, rfl⟩, ⟨b, T, zs, rfl, rfl, h2 I⟩, k b⟩
theorem OpH.box {α : Type} {r : Rep α} {a : α} (hx : EvA C σ H x (.v a)) (k : ∀ b, KH (.ln (ptr b 0) (Lens.id (α := α))) ((true, .ob (ptr b 0) a) :: H)) : OpH P C N ⟨d, .box T x, ty, ps, af, g⟩ σ H KH :=
  .ofX fun ρ I L hs => by
    obtain ⟨u, h1, cs, h2, rfl⟩ := hx ρ I L hs
    exact .box h1 (cells_asV h2) fun b => ⟨.ln (ptr b 0) (Lens.id (α := α)), .ob (ptr b 0) a, _, rfl, ⟨b, rfl, rfl⟩, ⟨b, T, cs, rfl, rfl, h2⟩, k b⟩
theorem OpP.ixStr {s : Str} {i : Int} (hT : P.underlying T = some .string) (hx : EvA C σ H x (.v s)) (hy : EvA C σ H y (.v i)) (h0 : 0 ≤ i) (h1 : i < s.l.length) (k : K (.v (s.l[i.toNat]'(by omega)))) : OpP P N C ⟨d, .index T x y, ty, ps, af, g⟩ σ H K :=
  .vk k (fun ρ I L hs => by
    obtain ⟨b, h2, h3⟩ := hx.str hs
    obtain ⟨h4, _⟩ := hy.int hs
    obtain ⟨m, rfl⟩ := Int.eq_ofNat_of_zero_le h0
    refine .indexStr hT h2 h4 (c := s.l[m]'(by omega)) ?_ ⟨_, rfl, rfl⟩
    rw [h3]
    exact List.getElem?_eq_getElem _)
theorem repL.cut {α : Type} [Rep α] {I : Im} {l : List α} {xs : List Value} (h : repL I l xs) (a b : Nat) (hb : b ≤ l.length) : repL I ((l.take b).drop a) ((xs.take (b * Rep.size α)).drop (a * Rep.size α)) := by
  have h1 : repL I (l.take b) (xs.take (b * Rep.size α)) := by
    have h2 := h
    rw [← List.take_append_drop b l] at h2
    have := h2.split.1
    rwa [List.length_take, Nat.min_eq_left hb] at this
  by_cases ha : a ≤ b
  · have h2 := h1
    rw [← List.take_append_drop a (l.take b)] at h2
    have := h2.split.2
    rwa [List.length_take, List.length_take, Nat.min_eq_left hb, Nat.min_eq_left ha] at this
  · have e : (l.take b).drop a = [] := List.drop_eq_nil_of_le (by rw [List.length_take]; omega)
    have e2 : (xs.take (b * Rep.size α)).drop (a * Rep.size α) = [] := List.drop_eq_nil_of_le (by
      rw [List.length_take]
      exact Nat.le_trans (Nat.min_le_left _ _) (Nat.mul_le_mul_right _ (by omega)))
    rw [e, e2]; rfl
theorem OpP.sl {α : Type} {r : Rep α} {i0 : Inhabited α} {l : List α} {lo hi : Option Operand} (a b : Nat) (tE : TyIs P E α) (hT : P.underlying T = some (.slice E)) (hx : EvA C σ H x (.v l))
    (hlo : (lo = none ∧ a = 0) ∨ ∃ o, lo = some o ∧ EvA C σ H o (.v (a : Int))) (hhi : (hi = none ∧ b = l.length) ∨ ∃ o, hi = some o ∧ EvA C σ H o (.v (b : Int))) (h1 : a ≤ b) (h2 : b ≤ l.length)
    (k : K (.v ((l.take b).drop a))) : OpP P N C ⟨d, .slice T x lo hi none, ty, ps, af, g⟩ σ H K :=
  .vk k (fun ρ I L hs => by
    obtain ⟨u, hu, xs, hsl, hl⟩ := hx.sl hs
    refine .slice hT tE.size hu hsl (l := a) (h := b) ?_ ?_ h1 h2 (fun v' hv' => ?_)
    · rcases hlo with ⟨rfl, rfl⟩ | ⟨o, rfl, ho⟩
      · exact .inl ⟨rfl, rfl⟩
      · exact .inr ⟨_, o, rfl, (ho.int hs).1⟩
    · rcases hhi with ⟨rfl, rfl⟩ | ⟨o, rfl, ho⟩
      · exact .inl ⟨rfl, rfl⟩
      · exact .inr ⟨_, o, rfl, (ho.int hs).1⟩
    · refine ⟨_, ⟨v', rfl, _, ?_, hl.cut a b h2⟩, rfl⟩
      have e : ((l.take b).drop a).length = b - a := by simp [Nat.min_eq_left h2]
      rw [e]; exact hv')
section sl
variable {α : Type} {r : Rep α} {i0 : Inhabited α} {l : List α} {i j : Int} (tE : TyIs P E α) (hT : P.underlying T = some (.slice E)) (hx : EvA C σ H x (.v l))
include tE hT hx
theorem OpP.slLo (hy : EvA C σ H y (.v i)) (h0 : 0 ≤ i) (h1 : i ≤ l.length) (k : K (.v (l.drop i.toNat))) : OpP P N C ⟨d, .slice T x (some y) none none, ty, ps, af, g⟩ σ H K :=
  .sl i.toNat l.length tE hT hx (.inr ⟨y, rfl, by rw [Int.toNat_of_nonneg h0]; exact hy⟩) (.inl ⟨rfl, rfl⟩) (by omega) (Nat.le_refl _) (by rw [List.take_length]; exact k)
theorem OpP.slHi (hz : EvA C σ H z (.v j)) (h0 : 0 ≤ j) (h1 : j ≤ l.length) (k : K (.v (l.take j.toNat))) : OpP P N C ⟨d, .slice T x none (some z) none, ty, ps, af, g⟩ σ H K :=
  .sl 0 j.toNat tE hT hx (.inl ⟨rfl, rfl⟩) (.inr ⟨z, rfl, by rw [Int.toNat_of_nonneg h0]; exact hz⟩) (by omega) (by omega) (by rw [List.drop_zero]; exact k)
end sl
theorem OpP.slArrL {α β : Type} {n : Nat} {r : Rep α} {s : Rep β} {ag : Bool} {w : Value} {l : Lens α (Arr n β)} (hf : elemOff P T = some (n, Rep.size β, ag)) (hx : EvA C σ H x (.ln w l)) (k : K (.sv w l)) : OpP P N C ⟨d, .slice T x none none none, ty, ps, af, g⟩ σ H K :=
  .vk k (fun ρ I L hs => by
    obtain ⟨u, h2, b, h3, rfl⟩ := hx ρ I L hs
    exact .sliceArr hf h2 ⟨b, h3, rfl⟩)
theorem OpP.slArrP {β : Type} {n : Nat} {s : Rep β} {ag : Bool} {a : Arr n β} (hn : n ≤ 9223372036854775807) (hf : elemOff P T = some (n, Rep.size β, ag)) (hx : EvA C σ H x (.p a)) (k : K (.v a.l)) : OpP P N C ⟨d, .slice T x none none none, ty, ps, af, g⟩ σ H K :=
  .vk k (fun ρ I L hs => by
    obtain ⟨u, h2, b, o, cs, rfl, h3, h4⟩ := hx ρ I L hs
    refine .sliceArr hf h2 ⟨_, ⟨_, rfl, cs, ?_, h3⟩, rfl⟩
    have hl := h3.len
    rw [a.h] at hl ⊢
    exact Sl.of_cells h4 hl (Nat.le_refl _) (by unfold maxLen; omega))
end Go.Ab
set_option linter.unusedVariables false
namespace Go.Ab
open Go.Fl Go.RowKit
open Rep (rep)
variable {P : Program} {C : Ctx} {N : Nat} {σ : AEnv} {H : AHeap} {K : AV → Prop} {KH : AV → AHeap → Prop} {d : Option Nat} {ty : TypeId} {ps : String} {af : Array Edge} {g : Option (Nat × Bool)}
variable {x y z : Operand} {T T2 E S D U : TypeId}
inductive Parts {α : Type} [Rep α] (C : Ctx) (σ : AEnv) (H : AHeap) (place : Nat → Option (Nat × Nat)) : List (Nat × Operand) → α → α → Prop
  | nil {x : α} : Parts C σ H place [] x x
  | cons {i : Nat} {o : Operand} {γ : Type} {q : Rep γ} {r : List (Nat × Operand)} {x y : α} (m : Lens α γ) (c : γ) (hi : place i = some (m.off, Rep.size γ)) (ho : EvA C σ H o (.v c)) (t : Parts C σ H place r (m.set c x) y) : Parts C σ H place ((i, o) :: r) x y
theorem Parts.run {α : Type} [Rep α] {place : Nat → Option (Nat × Nat)} {ρ : Env} {I : Im} {L : Lh} (hs : RSt C I L σ H ρ) {ps : List (Nat × Operand)} {x y : α} (h : Parts C σ H place ps x y) : ∀ {cells : Array Value}, rep I x cells.toList →
    ∃ pv out, evP ρ ps = some pv ∧ Instr.fill place cells pv = some out ∧ rep I y out.toList := by
  induction h with
  | nil => intro cells hc; exact ⟨[], cells, rfl, rfl, hc⟩
  | @cons i o γ q r x y m c hi ho t ih =>
    intro cells hc
    obtain ⟨u, h1, vs, h2, rfl⟩ := ho ρ I L hs
    have hcv := cells_asV h2
    have hsz : (asV (Rep.agg γ) vs).cells.size = Rep.size γ := by have := congrArg List.length hcv; rw [Rep.len h2] at this; simpa using this
    have hcl : cells.size = Rep.size α := by have := Rep.len hc; simpa using this
    have hfit := m.fits
    have hseg := fill_seg (cells := cells) (vs := (asV (Rep.agg γ) vs).cells) (off := m.off) (by rw [hsz, hcl]; exact hfit)
    rw [hcv] at hseg
    obtain ⟨pv, out, h3, h4, h5⟩ := ih (cells := (asV (Rep.agg γ) vs).cells.zipIdx.foldl (fun cs (c, j) => cs.setIfInBounds (m.off + j) c) cells) (by rw [hseg]; exact m.sets hc h2)
    refine ⟨(i, asV (Rep.agg γ) vs) :: pv, out, by simp [evP, h1, h3], ?_, h5⟩
    simp only [Instr.fill, hi]
    rw [if_neg (by simp only [hsz, ne_eq, not_true, hcl, gt_iff_lt]; simp; omega)]
    exact h4
theorem offs_run {offs : List (Nat × Nat)} (hT : fieldOffs P T = some offs) (w : World) : ∃ fs, P.underlying T = some (.struct fs) ∧ (fs.mapM fun f => (do pure (f.offset, ← sizeOf f.type) : Sem (Nat × Nat))).run P w = .ok offs.toArray w := by
  unfold fieldOffs at hT
  split at hT
  · rename_i fs hu
    have hpl : ∀ (l : List Field) (o : List (Nat × Nat)), (l.mapM fun f => (P.info? f.type).map fun i => (f.offset, i.size)) = some o →
        (l.mapM fun f => (do pure (f.offset, ← sizeOf f.type) : Sem (Nat × Nat))).run P w = .ok o w := by
      intro l
      induction l with
      | nil => intro o h; simp at h; subst h; simp
      | cons f r ih =>
        intro o h
        rw [List.mapM_cons] at h
        cases hq : P.info? f.type with
        | none => simp [hq] at h
        | some inf =>
          cases hr : (r.mapM fun f => (P.info? f.type).map fun i => (f.offset, i.size)) with
          | none => simp [hq, hr] at h
          | some o' =>
            simp [hq, hr] at h
            subst h
            have hsz : SizeIs P f.type inf.size := by simp [SizeIs, hq]
            rw [List.mapM_cons, Sem.run_bind, Sem.run_bind, hsz.run]
            simp only [Result.andThen_ok, Sem.run_pure, Sem.run_bind]
            rw [ih o' hr]
            simp
    refine ⟨fs, hu, ?_⟩
    rw [Array.mapM_eq_mapM_toList, map_eq_pure_bind, Sem.run_bind, hpl fs.toList offs hT]
    simp
  · cases hT
theorem OpP.buildS {α : Type} {r : Rep α} {i0 : Inhabited α} {offs : List (Nat × Nat)} {parts : Array (Nat × Operand)} {a : α} (c : α) (hg : Rep.agg α = true) (tT : TyIs P T α) (hT : fieldOffs P T = some offs) (hp : Parts C σ H (fun i => offs[i]?) parts.toList (default : α) a) (e : a = c) (k : K (.v c)) :
    OpP P N C ⟨d, .build T parts, ty, ps, af, g⟩ σ H K := by
  subst e
  exact .vk k (fun ρ I L hs => by
    obtain ⟨zs, hz1, hz2⟩ := tT.zero
    intro ac w ha hm
    obtain ⟨zv, h1, h2⟩ := zeros_run hz1 w
    obtain ⟨pv, out, h3, h4, h5⟩ := hp.run hs (cells := zv.cells) (by rw [h2]; exact hz2 I)
    have hparts : (parts.map fun x => (x.1, ac.eval x.2)).toList = pv := by rw [Array.toList_map]; exact ha.evP h3
    obtain ⟨fs, hu, h6⟩ := offs_run hT w
    refine ⟨.agg out, ⟨out.toList, h5, by rw [hg]; rfl⟩, ?_⟩
    have e1 : (fun (i : Nat) => offs.toArray[i]?) = fun (i : Nat) => offs[i]? := by funext i; simp
    simp only [execOp, Instr.build, Sem.run_bind, h1, Result.andThen_ok, run_underlying hu, h6, hparts, Sem.run_pure, e1, h4])
theorem OpP.buildA {β : Type} {n : Nat} {r : Rep β} {i0 : Inhabited β} {ag : Bool} {parts : Array (Nat × Operand)} {a : Arr n β} (c : Arr n β) (tT : TyIs P T (Arr n β)) (hT : elemOff P T = some (n, Rep.size β, ag)) (hp : Parts C σ H (fun i => some (i * Rep.size β, Rep.size β)) parts.toList (default : Arr n β) a) (e : a = c) (k : K (.v c)) :
    OpP P N C ⟨d, .build T parts, ty, ps, af, g⟩ σ H K := by
  subst e
  exact .vk k (fun ρ I L hs => by
    obtain ⟨zs, hz1, hz2⟩ := tT.zero
    intro ac w ha hm
    obtain ⟨zv, h1, h2⟩ := zeros_run hz1 w
    obtain ⟨pv, out, h3, h4, h5⟩ := hp.run hs (cells := zv.cells) (by rw [h2]; exact hz2 I)
    have hparts : (parts.map fun x => (x.1, ac.eval x.2)).toList = pv := by rw [Array.toList_map]; exact ha.evP h3
    unfold elemOff at hT
    split at hT
    · rename_i m e hu
      split at hT
      · rename_i inf dd h6 h7
        simp only [Option.some.injEq, Prod.mk.injEq] at hT
        obtain ⟨rfl, h8, _⟩ := hT
        have hsz : SizeIs P e (Rep.size β) := by simp [SizeIs, h6, h8]
        refine ⟨.agg out, ⟨out.toList, h5, rfl⟩, ?_⟩
        simp only [execOp, Instr.build, Sem.run_bind, h1, Result.andThen_ok, run_underlying hu, hsz.run, hparts, h4, Sem.run_pure]
      · cases hT
    · cases hT)
inductive Elems {α : Type} [Rep α] (C : Ctx) (σ : AEnv) (H : AHeap) : Nat → List (Nat × Operand) → List α → Prop
  | nil {i : Nat} : Elems C σ H i [] []
  | cons {i : Nat} {o : Operand} {c : α} {r : List (Nat × Operand)} {l : List α} (ho : EvA C σ H o (.v c)) (t : Elems C σ H (i + 1) r l) : Elems C σ H i ((i, o) :: r) (c :: l)
theorem Elems.run {α : Type} [Rep α] {ρ : Env} {I : Im} {L : Lh} (hs : RSt C I L σ H ρ) {i : Nat} {ps : List (Nat × Operand)} {l : List α} (h : Elems C σ H i ps l) : ∃ pv vs, evP ρ ps = some pv ∧ sideBySide (Rep.size α) i pv = some vs ∧ repL I l vs := by
  induction h with
  | nil => exact ⟨[], [], rfl, rfl, rfl⟩
  | @cons i o c r l ho t ih =>
    obtain ⟨u, h1, cs, h2, rfl⟩ := ho ρ I L hs
    obtain ⟨pv, vs, h3, h4, h5⟩ := ih
    have hcv := cells_asV h2
    have hsz : (asV (Rep.agg α) cs).cells.size = Rep.size α := by have := congrArg List.length hcv; rw [Rep.len h2] at this; simpa using this
    refine ⟨(i, asV (Rep.agg α) cs) :: pv, cs ++ vs, by simp [evP, h1, h3], ?_, cs, vs, rfl, h2, h5⟩
    have b1 : Nat.beq i i = true := Nat.beq_refl i
    simp only [sideBySide, hsz, b1, Nat.beq_refl, Bool.and_self, cond_true, h4, Option.map_some, hcv]
theorem OpH.buildSlice {α : Type} {r : Rep α} {i0 : Inhabited α} {n : Nat} {l : List α} {parts : Array (Nat × Operand)} (tE : TyIs P E α) (hT : P.underlying T = some (.slice E)) (hp : Elems C σ H 0 parts.toList l) (hn : l.length = n) (hb : n * Rep.size α ≤ 16777216)
    (k : ∀ b, KH (.raw (slc b 0 n n)) ((true, .own E (slc b 0 n n) l) :: H)) : OpH P C N ⟨d, .buildSlice T n parts, ty, ps, af, g⟩ σ H KH :=
  .ofX fun ρ I L hs => by
    obtain ⟨zs, hz1, hz2⟩ := tE.zero
    obtain ⟨pv, vs, h1, h2, h3⟩ := hp.run hs
    subst hn
    have hl := h3.len
    refine .buildSlice hT tE.size hz1 (Rep.len (hz2 I)) h1 h2 hl hb fun b => ⟨.raw (slc b 0 l.length l.length), .own E (slc b 0 l.length l.length) l, _, rfl, rfl, ⟨vs, .of (.made hl ?_), h3⟩, k b⟩
    have : 1 ≤ Rep.size α := Nat.one_le_iff_ne_zero.2 tE.pos
    have := Nat.mul_le_mul_left l.length this
    unfold maxLen; omega
structure SlT (P : Program) (T E : TypeId) (α : Type) (by_ : Nat) [Rep α] [Inhabited α] : Prop where
  elt : Elt P T E (Rep.size α) by_
  ty : TyIs P E α
theorem madeCells_gen {zs : List Value} {n : Nat} (h : zs.length ≠ 0) : madeCells zs.toArray (n * zs.length) = (List.replicate n zs).flatten.toArray := by
  apply Array.ext'
  apply List.ext_getElem?
  intro i
  unfold madeCells
  simp only [Array.toList_map, Array.toList_range, List.getElem?_map, List.size_toArray]
  by_cases hi : i < n * zs.length
  · rw [List.getElem?_range hi]
    have hm : i % zs.length < zs.length := Nat.mod_lt _ (by omega)
    simp only [Option.map_some]
    have key : ∀ (n i : Nat), i < n * zs.length → (List.replicate n zs).flatten[i]? = zs[i % zs.length]? := by
      intro n
      induction n with
      | zero => intro i hi; simp at hi
      | succ n ih =>
        intro i hi
        rw [List.replicate_succ, List.flatten_cons]
        by_cases h1 : i < zs.length
        · rw [List.getElem?_append_left h1, Nat.mod_eq_of_lt h1]
        · rw [List.getElem?_append_right (by omega), ih (i - zs.length) (by rw [Nat.succ_mul] at hi; omega)]
          exact congrArg (fun q => zs[q]?) (Nat.mod_eq_sub_mod (by omega)).symm
    rw [key n i hi]
    simp [hm]
  · have hf : ((List.replicate n zs).flatten).length = n * zs.length := by simp
    rw [List.getElem?_eq_none (by simp; omega), List.getElem?_eq_none (by rw [hf]; omega)]
    rfl
theorem OpH.make {α : Type} {r : Rep α} {i0 : Inhabited α} {by_ : Nat} {i : Int} (st : SlT P T E α by_) (hx : EvA C σ H x (.v i)) (h0 : 0 ≤ i) (hb : (by_ : Int) * i ≤ 281474976710656) (hn : i ≤ 9223372036854775807)
    (k : ∀ b, KH (.raw (slc b 0 i.toNat i.toNat)) ((true, .own E (slc b 0 i.toNat i.toNat) (List.replicate i.toNat (default : α))) :: H)) : OpH P C N ⟨d, .makeSlice T x x, ty, ps, af, g⟩ σ H KH :=
  .ofX fun ρ I L hs => by
    obtain ⟨inf, zv, h1, h2, h3, h4, h5⟩ := st.elt.info
    obtain ⟨zs, hz1, hz2⟩ := st.ty.zero
    have hze : zs = zv.cells.toList := by
      have : zerosOf P E = some zv.cells.toList := by simp [zerosOf, h1, h2]
      rw [this] at hz1; exact (Option.some.inj hz1).symm
    have hzl : zs.length = Rep.size α := Rep.len (hz2 I)
    have hrep : repL I (List.replicate i.toNat (default : α)) (List.replicate i.toNat zs).flatten := repL_replicate (hz2 I) i.toNat
    obtain ⟨hxi, _⟩ := hx.int hs
    refine opx_new (v := fun b => slc b 0 i.toNat i.toNat) (cs := (List.replicate i.toNat zs).flatten) (e := E) (fun a w ha hm => ?_)
      fun b => ⟨.raw (slc b 0 i.toNat i.toNat), .own E (slc b 0 i.toNat i.toNat) (List.replicate i.toNat (default : α)), _, rfl, rfl, ⟨_, .of ?_, hrep⟩, k b⟩
    · have h := run_make (P := P) w T E inf zv st.elt.und h1 h2 .i64 .i64 i i h0 (Int.le_refl _) (by rw [h4]; exact hb) hn
      simp only [execOp, Sem.run_bind, ha.ev hxi, h, Result.andThen_ok, Sem.run_pure]
      have e1 : madeCells zv.cells (i.toNat * inf.size) = (List.replicate i.toNat zs).flatten.toArray := by
        have := madeCells_gen (zs := zs) (n := i.toNat) (by rw [hzl]; exact st.ty.pos)
        rw [hze] at this ⊢
        rw [← this, h3, ← hzl, hze]
      rw [e1]
    · have := Own.made (e := E) (s := Rep.size α) (b := b) (n := i.toNat) (xs := (List.replicate i.toNat zs).flatten) (by simp [hzl]) (by unfold maxLen; omega)
      simpa using this
theorem SlT.pos {α : Type} [Rep α] [Inhabited α] {by_ : Nat} (st : SlT P T E α by_) : 0 < Rep.size α := Nat.pos_of_ne_zero st.ty.pos
def SrcA (P : Program) (C : Ctx) (σ : AEnv) (H : AHeap) (y : Operand) {α : Type} [Rep α] (m : List α) : Prop := ∀ ρ I L, RSt C I L σ H ρ → ∃ u news, ev ρ y = some u ∧ Src P I L (Rep.size α) u m.length news ∧ repL I m news
theorem SrcA.v {α : Type} {r : Rep α} {m : List α} (h : EvA C σ H y (.v m)) : SrcA P C σ H y m := fun ρ I L hs => by
  obtain ⟨u, h1, xs, h2, h3⟩ := h.sl hs
  exact ⟨u, xs, h1, .sl h2, h3⟩
theorem SrcA.own {α : Type} {r : Rep α} {t : Nat} {w : Value} {m : List α} {bb : Bool} {E' : TypeId} {F : Bool × Blk → AHeap} (ht : lookA σ t = some (.raw w)) (hH : Hole H (bb, .own E' w m) F) : SrcA P C σ H (.tmp t) m := fun ρ I L hs => by
  obtain ⟨u, h1, rfl⟩ := hs.env t _ ht
  obtain ⟨j, X, h2, h3, _⟩ := hH.get hs.heap
  obtain ⟨xs, h4, h5⟩ := h3.1
  exact ⟨_, xs, h1, Ab.Src.ownG j h2 h4, h5⟩
theorem SrcA.str {s : Str} (h : EvA C σ H y (.v s)) : SrcA P C σ H y s.l := fun ρ I L hs => by
  obtain ⟨b, h1, h2⟩ := h.str hs
  refine ⟨_, bytesV s.l, h1, ?_, ?_⟩
  · have := Src.str (P := P) (I := I) (L := L) b
    rw [h2] at this
    have e : b.size = s.l.length := by rw [← h2]; rfl
    rw [e] at this
    exact this
  · have : ∀ l : List UInt8, repL I l (bytesV l) := by
      intro l
      induction l with
      | nil => rfl
      | cons c l ih => exact ⟨[Fl.u8 c], bytesV l, rfl, rfl, ih⟩
    exact this s.l
theorem OpH.append {α : Type} {r : Rep α} {i0 : Inhabited α} {by_ t : Nat} {w : Value} {l m : List α} {bb : Bool} {F : Bool × Blk → AHeap} (st : SlT P T E α by_) (hU : (∃ E2, P.underlying U = some (.slice E2)) ∨ P.underlying U = some .string) (hx : lookA σ t = some (.raw w))
    (hH : Hole H (bb, .own E w l) F) (hy : SrcA P C σ H y m) (hb : (l.length + m.length) * by_ ≤ 140737488355328) (hn : l.length + m.length ≤ 9223372036854775807) (k : ∀ w', KH (.raw w') (F (true, .own E w' (l ++ m)))) (hbb : bb = true) :
    OpH P C N ⟨d, .call ⟨.builtin .append, #[.tmp t, y], #[T, U]⟩, ty, ps, af, g⟩ σ H KH := fun ρ I L hs => by
  obtain ⟨u, h1, rfl⟩ := hs.env t _ hx
  obtain ⟨v, news, h2, h3, h4⟩ := hy ρ I L hs
  obtain ⟨j, X, h5, h6, h7⟩ := hH.get hs.heap
  obtain ⟨xs, h8, h9⟩ := h6.1
  intro a w0 ha hst
  have hfr := h6.2 hbb
  refine Yld.mono (OpS.appendG (K := fun v' J L' => ∃ X', L' = L.set j X' ∧ J = I ∧ OwnG E (Rep.size α) v' (l.length + m.length) (xs ++ news) X' ∧ (∀ p ∈ X', p.1 ∈ X.map Prod.fst ∨ C.w0.heap.size ≤ p.1)) j st.elt st.pos hU (x := .tmp t) h1 h2 h5 h8 h3 h4.flat (by unfold maxLen; omega) hb (fun v' X' ho hn => ⟨X', rfl, rfl, ho, hn⟩) a w0 ha hst) ?_
  rintro v' w' ⟨J, L', hst', X', rfl, rfl, ho, hnew⟩
  refine ⟨J, _, hst', Le.refl J, .raw v', _, rfl, h7 J (true, .own E v' (l ++ m)) X' (Le.refl J) ⟨⟨xs ++ news, by rw [List.length_append]; exact ho, h9.append h4⟩, fun _ p hp => ?_⟩, k v'⟩
  rcases hnew p hp with h | h
  · obtain ⟨q, hq, hqe⟩ := List.mem_map.1 h
    rw [← hqe]; exact hfr q hq
  · exact h
theorem OpX.push {ρ : Env} {I : Im} {L : Lh} {KX : Value → Im → Lh → Prop} {o : Oper} (h : ∀ a w, Fits N ρ a → Mem I L w → (∃ v, (execOp a.eval o).run P w = .ok (.value v) w ∧ KX v I []) ∨
    ∃ v w' ob, (execOp a.eval o).run P w = .ok (.value v) w' ∧ w'.heap = w.heap.push ob ∧ w'.os = w.os ∧ w'.tape = w.tape ∧ w'.output = w.output ∧ KX v I [[(w.heap.size, ob)]]) : OpX P N o ρ I L KX := fun a w ha hm => by
  rcases h a w ha hm with ⟨v, hr, hk⟩ | ⟨v, w', ob, hr, hw, h1, h2, h3, hk⟩
  · rw [hr]; exact ⟨I, [], Chg.refl _ _, Le.refl _, fun b h0 h1 => absurd h0 h1, hm, by simp, hk⟩
  · rw [hr]
    have hnI : I w.heap.size = none := by
      cases hi : I w.heap.size with
      | none => rfl
      | some o => have := lt_of_get (hm.im _ _ hi); omega
    have hnew : w'.heap[w.heap.size]? = some ob := by rw [hw]; simp
    have hold : ∀ k, k < w.heap.size → w'.heap[k]? = w.heap[k]? := fun k hk => by
      rw [hw, Array.getElem?_push_lt hk, Array.getElem?_eq_getElem hk]
    refine ⟨I, [[(w.heap.size, ob)]], ⟨h1, h2, h3, by rw [hw]; simp, fun k hk _ => hold k hk⟩, Le.refl I, fun b h0 h1 => absurd h0 h1, ⟨fun b o hb => ?_, fun p hp => ?_, fun p hp => ?_, ?_⟩, ?_, hk⟩
    · exact (hold b (lt_of_get (hm.im b o hb))).trans (hm.im b o hb)
    · simp only [List.cons_append, List.nil_append, List.flatten_cons, List.mem_cons] at hp
      rcases hp with rfl | hp
      · exact hnew
      · exact (hold _ (lt_of_get (hm.loc p hp))).trans (hm.loc p hp)
    · simp only [List.cons_append, List.nil_append, List.flatten_cons, List.mem_cons] at hp
      rcases hp with rfl | hp
      · exact hnI
      · exact hm.sep p hp
    · simp only [List.cons_append, List.nil_append, List.flatten_cons, List.map_cons, List.nodup_cons, List.mem_map, not_exists, not_and]
      refine ⟨fun p hp e => ?_, hm.nodup⟩
      have := lt_of_get (hm.loc p hp)
      omega
    · intro p hp; simp at hp; subst hp; exact Nat.le_refl _
theorem OpP.appendC {α : Type} {r : Rep α} {i0 : Inhabited α} {by_ : Nat} {l m : List α} (st : SlT P T E α by_) (hU : (∃ E2, P.underlying U = some (.slice E2)) ∨ P.underlying U = some .string) (hx : EvA C σ H x (.vc l)) (hy : SrcA P C σ H y m)
    (hb : (l.length + m.length) * by_ ≤ 140737488355328) (hn : l.length + m.length ≤ 9223372036854775807) (k : K (.v (l ++ m))) : OpP P N C ⟨d, .call ⟨.builtin .append, #[x, y], #[T, U]⟩, ty, ps, af, g⟩ σ H K := fun ρ I L hs => by
  obtain ⟨u, h1, ⟨a0, rfl⟩, xs, hsl, hrl⟩ := hx ρ I L hs
  obtain ⟨v, news, h2, h3, h4⟩ := hy ρ I L hs
  obtain ⟨inf, zv, e1, e2, e3, e4, e5⟩ := st.elt.info
  refine OpX.frz (OpX.push fun a w ha hm => ?_)
  have hcells : ∀ w', w'.heap = w.heap → (Builtin.firstCells inf.size m.length v).run P w' = .ok news.toArray w' := fun w' hw => by
    have hm' : Mem I L w' := ⟨by rw [hw]; exact hm.im, by rw [hw]; exact hm.loc, hm.sep, hm.nodup⟩
    have := h3.cells w' hm' m.length (Nat.le_refl _)
    rw [← h3.size, List.take_length, ← e3] at this; exact this
  have hboth : (l.length + m.length ≤ l.length → (Builtin.append_ #[T, U] ty #[.slice a0 l.length l.length, v]).run P w = ((match a0 with | some ad => storeCells (ad.add (l.length * inf.size)) news | none => pure ()).run P w).andThen fun _ w' => .ok (.slice a0 (l.length + m.length) l.length) w') ∧
    (l.length < l.length + m.length → ∀ olds, ((Builtin.firstCells inf.size l.length (.slice a0 l.length l.length)).run P w.drew = .ok olds w.drew) →
      (Builtin.append_ #[T, U] ty #[.slice a0 l.length l.length, v]).run P w = .ok (.slice (some ⟨w.heap.size, 0, none⟩) (l.length + m.length) (grownCap w (l.length + m.length) l.length E))
        (w.drew.alloc (.cells (olds ++ news.toArray ++ Builtin.zeroCells zv.cells (grownCap w (l.length + m.length) l.length E - (l.length + m.length))) E))) := by
    rcases hU with ⟨E2, hU⟩ | hU
    · exact run_append_sl st.elt.und e1 e2 hU h3.len hcells hn (by rw [e4]; exact hb)
    · exact run_append_str st.elt.und e1 e2 hU h3.len hcells hn (by rw [e4]; exact hb)
  have hop : ∀ r, (Builtin.append_ #[T, U] ty #[.slice a0 l.length l.length, v]).run P w = r → (execOp a.eval ⟨d, .call ⟨.builtin .append, #[x, y], #[T, U]⟩, ty, ps, af, g⟩).run P w = r.andThen fun v w' => .ok (.value v) w' := fun r hr => by
    simp [execOp, resolve, invoke, builtin, ha.ev h1, ha.ev h2, hr]
  by_cases h0 : m.length = 0
  · have hm0 : m = [] := List.eq_nil_of_length_eq_zero h0
    subst hm0
    have hnw : news = [] := by simpa [repL] using h4
    subst hnw
    left
    refine ⟨.slice a0 l.length l.length, ?_, fun J' hle _ => ⟨rfl, .v (l ++ []), ?_, k⟩⟩
    · rw [hop _ (hboth.1 (by simp))]
      cases a0 <;> simp [storeCells]
    · rw [List.append_nil]
      exact ⟨_, ⟨_, rfl, xs, hsl.mono hle, hrl.mono hle⟩, rfl⟩
  · right
    have hold : (Builtin.firstCells inf.size l.length (.slice a0 l.length l.length)).run P w.drew = .ok xs.toArray w.drew := by
      have hm' : Mem I L w.drew := ⟨hm.im, hm.loc, hm.sep, hm.nodup⟩
      have := (Src.sl (P := P) (L := L) hsl).cells w.drew hm' l.length (Nat.le_refl _)
      rw [← hsl.len, List.take_length, ← e3] at this; exact this
    have hr := hboth.2 (by omega) _ hold
    have hge := grownCap_ge w (l.length + m.length) l.length E
    have hcm : grownCap w (l.length + m.length) l.length E ≤ maxLen := grownCap_le_maxLen w _ _ E (by unfold maxLen; omega)
    refine ⟨.slice (some ⟨w.heap.size, 0, none⟩) (l.length + m.length) (grownCap w (l.length + m.length) l.length E), w.drew.alloc (.cells (xs.toArray ++ news.toArray ++ Builtin.zeroCells zv.cells (grownCap w (l.length + m.length) l.length E - (l.length + m.length))) E),
      .cells (xs.toArray ++ news.toArray ++ Builtin.zeroCells zv.cells (grownCap w (l.length + m.length) l.length E - (l.length + m.length))) E, by rw [hop _ hr]; rfl, rfl, rfl, rfl, rfl, fun J' hle hp => ⟨rfl, .v (l ++ m), ⟨_, ⟨_, rfl, xs ++ news, ?_, (hrl.append h4).mono hle⟩, rfl⟩, k⟩⟩
    have hob := hp (w.heap.size, _) (List.mem_singleton.2 rfl)
    rw [List.length_append]
    refine Sl.of_cells ⟨_, _, _, hob, fun i q hq => ?_⟩ ?_ hge hcm
    · have hi := (List.getElem?_eq_some_iff.1 hq).1
      rw [Nat.zero_add]
      have : (xs.toArray ++ news.toArray ++ Builtin.zeroCells zv.cells (grownCap w (l.length + m.length) l.length E - (l.length + m.length))) = (xs ++ news ++ (Builtin.zeroCells zv.cells (grownCap w (l.length + m.length) l.length E - (l.length + m.length))).toList).toArray := by
        apply Array.ext'; simp
      rw [this, List.getElem?_toArray, List.getElem?_append_left hi]; exact hq
    · rw [List.length_append, hsl.len, h3.size, Nat.add_mul]
end Go.Ab
set_option linter.unusedVariables false
set_option linter.unusedSimpArgs false
namespace Go.Ab
open Go.Fl Go.RowKit
open Rep (rep)
variable {P : Program} {C : Ctx} {N : Nat} {σ : AEnv} {H : AHeap} {K : AV → Prop} {KH : AV → AHeap → Prop} {d : Option Nat} {ty : TypeId} {ps : String} {af : Array Edge} {g : Option (Nat × Bool)}
variable {x y z : Operand} {T T2 E S D U : TypeId}
theorem repL_u8 {I : Im} : ∀ {l : List UInt8} {cs : List Value}, repL I l cs ↔ cs = bytesV l
  | [], cs => by simp [repL, bytesV]
  | x :: l, cs => by
    constructor
    · rintro ⟨c, r, rfl, h1, h2⟩
      rw [repL_u8.1 h2, show c = [Fl.u8 x] from h1]; rfl
    · rintro rfl
      exact ⟨[Fl.u8 x], bytesV l, rfl, rfl, repL_u8.2 rfl⟩
theorem repL_u32 {I : Im} : ∀ {l : List UInt32} {cs : List Value}, repL I l cs ↔ cs = l.map Fl.u32
  | [], cs => by simp [repL]
  | x :: l, cs => by
    constructor
    · rintro ⟨c, r, rfl, h1, h2⟩
      rw [repL_u32.1 h2, show c = [Fl.u32 x] from h1]; rfl
    · rintro rfl
      exact ⟨[Fl.u32 x], l.map Fl.u32, rfl, rfl, repL_u32.2 rfl⟩
theorem EvA.arr8 {n : Nat} {a : Arr n UInt8} (h : EvA C σ H x (.v a)) {ρ : Env} {I : Im} {L : Lh} (hs : RSt C I L σ H ρ) : ev ρ x = some (.agg (bytesV a.l).toArray) := by
  obtain ⟨u, h1, cs, h2, rfl⟩ := h ρ I L hs
  rw [repL_u8.1 h2] at h1
  exact h1
theorem dec_arr {n : Nat} {α : Type} [DecidableEq α] (a b : Arr n α) : decide (a.l = b.l) = decide (a = b) := by
  rw [decide_eq_decide]
  exact ⟨Arr.ext, fun h => by rw [h]⟩
theorem OpP.eqlA8 {n : Nat} {a b : Arr n UInt8} (hT : P.underlying T = some (.array n E)) (hs : SizeIs P E 1) (hE : P.underlying E = some (.int .u8)) (hg : P.eqGuardType P.depth T = false) (hx : EvA C σ H x (.v a)) (hy : EvA C σ H y (.v b)) (k : K (.v (decide (a = b)))) :
    OpP P N C ⟨d, .binOp .eql T x y T2, ty, ps, af, g⟩ σ H K :=
  .vk k (fun ρ I L hst => .eqlB hT hs hE hg a.h b.h (hx.arr8 hst) (hy.arr8 hst) ⟨_, rfl, by rw [dec_arr]; rfl⟩)
theorem OpP.neqA8 {n : Nat} {a b : Arr n UInt8} (hT : P.underlying T = some (.array n E)) (hs : SizeIs P E 1) (hE : P.underlying E = some (.int .u8)) (hg : P.eqGuardType P.depth T = false) (hx : EvA C σ H x (.v a)) (hy : EvA C σ H y (.v b)) (k : K (.v (decide (a ≠ b)))) :
    OpP P N C ⟨d, .binOp .neq T x y T2, ty, ps, af, g⟩ σ H K :=
  .vk k (fun ρ I L hst => .mk ⟨_, rfl, rfl⟩ fun ac w ha hm => by
    have e1 : ∀ l : List UInt8, bytesV l = (l.map fun c => (c.toNat : Int)).map (Value.int .u8) := fun l => by simp [bytesV, Fl.u8]
    have h := equal_ints (P := P) (T := T) (kd := .u8) w hT hs hE (a.l.map fun c => (c.toNat : Int)) (b.l.map fun c => (c.toNat : Int)) (by rw [List.length_map]; exact a.h) (by rw [List.length_map]; exact b.h)
    rw [← e1, ← e1] at h
    have hd : decide ((a.l.map fun c => (c.toNat : Int)) = (b.l.map fun c => (c.toNat : Int))) = decide (a = b) := by
      rw [← dec_arr, decide_eq_decide]
      exact eql_iff_map _ (fun a b h => UInt8.toNat_inj.1 (Int.ofNat_inj.1 h)) a.l b.l
    rw [hd] at h
    have hneq : (binOp .neq T (.agg (bytesV a.l).toArray) (.agg (bytesV b.l).toArray)).run P w = .ok (.bool (!(decide (a = b)))) w := by simp [binOp, h]
    simp only [execOp, ha.ev (hx.arr8 hst), ha.ev (hy.arr8 hst), Sem.run_bind, guard_agg w hg, hneq, Result.andThen_ok, Sem.run_pure]
    simp [asV, Rep.agg])
theorem str_eq {a b : ByteArray} {s t : Str} (ha : a.data.toList = s.l) (hb : b.data.toList = t.l) : (a.toList == b.toList) = decide (s = t) := by
  have h1 : ∀ q : ByteArray, q.toList = q.data.toList := fun q => ByteArray.toList_eq q
  rw [h1, h1, ha, hb]
  cases s; cases t
  exact Bool.eq_iff_iff.2 (by simp)
theorem OpP.eqlS {s t : Str} (hx : EvA C σ H x (.v s)) (hy : EvA C σ H y (.v t)) (k : K (.v (decide (s = t)))) : OpP P N C ⟨d, .binOp .eql T x y T2, ty, ps, af, g⟩ σ H K :=
  .vk k (fun ρ I L hst => by
    obtain ⟨a, h1, h2⟩ := hx.str hst
    obtain ⟨b, h3, h4⟩ := hy.str hst
    exact .mk ⟨_, rfl, rfl⟩ fun ac w ha hm => by simp [execOp, ha.ev h1, ha.ev h3, eqGuard, binOp_string_eql, str_eq h2 h4, asV, Rep.agg])
theorem run_eqBl (w : World) {a b : Bool} (hT : P.underlying T = some .bool) : (Op.equal T (.bool a) (.bool b)).run P w = .ok (a == b) w := by
  have : ∀ dd, (Op.equalIn (dd + 1) T (.bool a) (.bool b)).run P w = .ok (a == b) w := fun dd => by simp [Op.equalIn, run_underlying hT]
  exact this 9999
theorem OpP.neqBl {a b : Bool} (hT : P.underlying T = some .bool) (hx : EvA C σ H x (.v a)) (hy : EvA C σ H y (.v b)) (k : K (.v (a != b))) : OpP P N C ⟨d, .binOp .neq T x y T2, ty, ps, af, g⟩ σ H K :=
  .vk k (fun ρ I L hst => .mk ⟨_, rfl, rfl⟩ fun ac w ha hm => by simp [execOp, ha.ev (hx.bool hst), ha.ev (hy.bool hst), eqGuard, binOp, run_eqBl w hT, asV, Rep.agg]; cases a <;> cases b <;> rfl)
theorem OpH.strBytes {s : Str} (hS : P.underlying S = some .string) (hD : P.underlying D = some (.slice E)) (hE : P.underlying E = some (.int .u8)) (hx : EvA C σ H x (.v s))
    (k : ∀ w, KH (.raw w) ((true, .own E w s.l) :: H)) : OpH P C N ⟨d, .convert S D x, ty, ps, af, g⟩ σ H KH :=
  .ofX fun ρ I L hs a w ha hm => by
    obtain ⟨b, h1, h2⟩ := hx.str hs
    have hb := hx.strLe hs
    have hsz : b.size = s.l.length := by rw [← h2]; rfl
    have hrun := run_bytes_of_string (P := P) w S D E b hS hD hE
    have hop : (execOp a.eval ⟨d, .convert S D x, ty, ps, af, g⟩).run P w = ((convert S D (.string b)).run P w).andThen fun v w' => .ok (.value v) w' := by
      simp [execOp, ha.ev h1]
    rw [hop, hrun]
    generalize hC : bytesRow b (grownCap w b.size 0 E) = R
    have hcap : grownCap w b.size 0 E ≥ b.size := grownCap_ge w b.size 0 E
    have hcapm : grownCap w b.size 0 E ≤ maxLen := grownCap_le_maxLen w b.size 0 E (by rw [hsz]; unfold maxLen; omega)
    generalize grownCap w b.size 0 E = c at *
    have hR : R.toList = bytesV s.l ++ List.replicate (c - b.size) (Value.int .u8 0) := by
      rw [← hC, ← h2]
      simp [bytesRow, bytesV, Fl.u8]
    have hnI : I w.heap.size = none := by
      cases hi : I w.heap.size with
      | none => rfl
      | some o => have := lt_of_get (hm.im _ _ hi); omega
    have hnew : (w.drew.alloc (.cells R E (R.size, R.size + 1))).heap[w.heap.size]? = some (.cells R E (R.size, R.size + 1)) := by
      show (w.heap.push _)[w.heap.size]? = _
      simp
    have hold : ∀ k, k < w.heap.size → (w.drew.alloc (.cells R E (R.size, R.size + 1))).heap[k]? = w.heap[k]? := fun k hk => by
      show (w.heap.push _)[k]? = _
      rw [Array.getElem?_push_lt hk, Array.getElem?_eq_getElem hk]
    have hRl : R = (bytesV s.l ++ List.replicate (c - b.size) (Value.int .u8 0)).toArray := by rw [← hR]
    have hbl : (bytesV s.l).length = s.l.length := by simp [bytesV]
    refine ⟨I, [[(w.heap.size, .cells R E (R.size, R.size + 1))]], ⟨rfl, rfl, rfl, by show _ ≤ (w.heap.push _).size; simp, fun k hk _ => hold k hk⟩, Le.refl I, fun b h0 h1 => absurd h0 h1, ⟨fun b o hb => ?_, fun p hp => ?_, fun p hp => ?_, ?_⟩, ?_, .raw (slc w.heap.size 0 b.size c), .own E (slc w.heap.size 0 b.size c) s.l, _, rfl, rfl, ⟨bytesV s.l, .inr ⟨w.heap.size, c, _, (R.size, R.size + 1), by rw [hsz], by rw [hRl], by rw [hbl]; exact (Nat.mul_one _).symm, ?_, by omega, hcapm, .inr ?_⟩, repL_u8.2 rfl⟩, k _⟩
    · exact (hold b (lt_of_get (hm.im b o hb))).trans (hm.im b o hb)
    · simp only [List.cons_append, List.nil_append, List.flatten_cons, List.mem_cons] at hp
      rcases hp with rfl | hp
      · exact hnew
      · exact (hold _ (lt_of_get (hm.loc p hp))).trans (hm.loc p hp)
    · simp only [List.cons_append, List.nil_append, List.flatten_cons, List.mem_cons] at hp
      rcases hp with rfl | hp
      · exact hnI
      · exact hm.sep p hp
    · simp only [List.cons_append, List.nil_append, List.flatten_cons, List.map_cons, List.nodup_cons, List.mem_map, not_exists, not_and]
      refine ⟨fun p hp e => ?_, hm.nodup⟩
      have := lt_of_get (hm.loc p hp)
      omega
    · intro p hp; simp at hp; subst hp; exact Nat.le_refl _
    · rw [List.length_append, hbl, List.length_replicate]
      show _ = c * 1
      omega
    · rw [hRl]; simp
theorem OpH.same {α : Type} {r : Rep α} {t : Nat} {w : Value} {l : List α} {bb : Bool} {F : Bool × Blk → AHeap} (hT : P.underlying T = some (.slice E)) (hE : P.underlying E = some (.int .u8)) (hx : lookA σ t = some (.raw w)) (hH : Hole H (bb, .own E w l) F) (hl : l ≠ [])
    (k : KH (.raw w) (F (bb, .own E w l))) : OpH P C N ⟨d, .convert T T (.tmp t), ty, ps, af, g⟩ σ H KH := fun ρ I L hs => by
  obtain ⟨u, h1, rfl⟩ := hs.env t _ hx
  obtain ⟨j, X, h5, h6, h7⟩ := hH.get hs.heap
  obtain ⟨xs, h8, h9⟩ := h6.1
  intro a w ha hst
  have hx2 : a.eval (.tmp t) = _ := ha.ev (x := .tmp t) h1
  rcases h8 with ⟨⟨a1, rfl⟩, hn, rfl, rfl⟩ | ⟨b, c, sp, q, rfl, rfl, e1, e2, e3, e4, e5⟩
  · exact absurd (List.eq_nil_of_length_eq_zero hn) hl
  · have hb := hst.mem.loc (b, .cells (xs ++ sp).toArray E q) (mem_chunk h5 (by simp))
    have hsh : w.shape? b = some (E, (xs ++ sp).length) := by simp [World.shape?, hb]
    have hr : (execOp a.eval ⟨d, .convert T T (.tmp t), ty, ps, af, g⟩).run P w = .ok (.value (slc b 0 l.length c)) (w.freeze ⟨b, (xs ++ sp).length, none⟩ 1) := by
      simp only [execOp, hx2, convert, Sem.run_bind, run_underlying hT, run_underlying hE, Result.andThen_ok]
      simp [markStringish, hsh]
    rw [hr]
    refine ⟨I, L.set j [(b, .cells (xs ++ sp).toArray E ((xs ++ sp).length, (xs ++ sp).length + 1))], hst.write (w' := w.freeze ⟨b, (xs ++ sp).length, none⟩ 1) h5 ?_ ?_ ?_ rfl rfl rfl, Le.refl I, .raw _, _, rfl, h7 I (bb, .own E _ l) _ (Le.refl I) ⟨⟨xs, .inr ⟨b, c, sp, _, rfl, rfl, e1, e2, e3, e4, .inr rfl⟩, h9⟩, fun hbb p hp => ?_⟩, k⟩
    · have hlt := lt_of_get hb
      simp only [World.freeze, Nat.one_ne_zero, if_false]
      rw [Array.getElem?_modify, if_pos rfl, hb]
      rcases e5 with rfl | rfl
      · simp
      · simp
    · intro q hq
      simp only [World.freeze, Nat.one_ne_zero, if_false]
      rw [Array.getElem?_modify, if_neg (Ne.symm hq)]
    · simp [World.freeze]
    · have := h6.2 hbb _ (List.mem_singleton.2 rfl)
      simp only [List.mem_singleton] at hp
      subst hp; exact this
theorem OpH.copyOwn {α : Type} {r : Rep α} {i0 : Inhabited α} {t : Nat} {w : Value} {l m : List α} {bb : Bool} {F : Bool × Blk → AHeap} (tE : TyIs P E α) (hT : P.underlying T = some (.slice E)) (hx : lookA σ t = some (.raw w)) (hH : Hole H (bb, .own E w l) F) (hy : SrcA P C σ H y m)
    (hb : m.length ≤ 9223372036854775807) (k : KH (.v ((min m.length l.length : Nat) : Int)) (F (bb, .own E w (m.take l.length ++ l.drop m.length)))) : OpH P C N ⟨d, .call ⟨.builtin .copy, #[.tmp t, y], #[T, U]⟩, ty, ps, af, g⟩ σ H KH := fun ρ I L hs => by
  obtain ⟨u, h1, rfl⟩ := hs.env t _ hx
  obtain ⟨v, news, h2, h3, h4⟩ := hy ρ I L hs
  obtain ⟨j, X, h5, h6, h7⟩ := hH.get hs.heap
  obtain ⟨xs, h8, h9⟩ := h6.1
  intro a w ha hst
  have hmem := hst.mem
  generalize hmn : min m.length l.length = n at k
  have hnm : Nat.min m.length l.length = n := hmn
  have hsz := tE.size.run w
  have hfc := h3.cells w hmem n (by omega)
  have hl4 := h4.len
  have hpos : 0 < Rep.size α := Nat.pos_of_ne_zero tE.pos
  have hlist : m.take l.length = m.take n := by rw [← hmn, List.take_eq_take_iff]; omega
  have hdrop : l.drop m.length = l.drop n := by
    by_cases h : m.length ≤ l.length
    · rw [← hmn, Nat.min_eq_left h]
    · rw [List.drop_eq_nil_of_le (by omega), List.drop_eq_nil_of_le (by omega)]
  have hrep : repL I (m.take l.length ++ l.drop m.length) (segSet xs 0 (news.take (n * Rep.size α))) := by
    rw [hlist, hdrop]
    have h10 := h4.cut 0 n (by omega)
    have h11 := h9.cut n l.length (Nat.le_refl _)
    simp only [List.drop_zero, Nat.zero_mul, List.take_length] at h10 h11
    rw [← h9.len, List.take_length] at h11
    have hl : (news.take (n * Rep.size α)).length = n * Rep.size α := by
      rw [List.length_take, hl4]; exact Nat.min_eq_left (Nat.mul_le_mul_right _ (by omega))
    simp only [segSet, List.take_zero, List.nil_append, Nat.zero_add]
    rw [hl]
    exact h10.append h11
  have hlen2 : (m.take l.length ++ l.drop m.length).length = l.length := by
    rw [hlist, hdrop]; simp; omega
  rcases h8 with ⟨⟨a1, rfl⟩, hn0, rfl, rfl⟩ | ⟨b, c, sp, q, rfl, rfl, e1, e2, e3, e4, e5⟩
  · have hn00 : n = 0 := by omega
    have hr : (execOp a.eval ⟨d, .call ⟨.builtin .copy, #[.tmp t, y], #[T, U]⟩, ty, ps, af, g⟩).run P w = .ok (.value (goInt n)) w := by
      simp only [execOp, resolve, invoke, builtin, Builtin.copy_, Sem.run_bind, run_underlying hT, Result.andThen_ok, ha.ev (x := .tmp t) h1, ha.ev h2, h3.len w, hsz, hn0] at hfc hnm ⊢
      simp [run_underlying hT, h3.len w, hsz, ha.ev (x := .tmp t) h1, ha.ev h2, hn0, hn00] at hfc hnm ⊢
      cases a1 <;> simp [hnm, hfc, storeCells]
    rw [hr]
    refine ⟨I, L.set j [], hst.dropAt j, Le.refl I, .v ((n : Nat) : Int), _, ⟨_, ⟨rfl, by omega, by omega⟩, rfl⟩, h7 I (bb, .own E _ (m.take l.length ++ l.drop m.length)) [] (Le.refl I) ⟨⟨_, .inl ⟨⟨a1, rfl⟩, by rw [hlen2]; exact hn0, ?_, rfl⟩, hrep⟩, by simp⟩, k⟩
    have := hrep.len
    rw [hlen2, hn0, Nat.zero_mul] at this
    exact List.eq_nil_of_length_eq_zero this
  · have hbh := hst.mem.loc (b, .cells (xs ++ sp).toArray E q) (mem_chunk h5 (by simp))
    have hxl : xs.length = l.length * Rep.size α := h9.len
    have hnl : (news.take (n * Rep.size α)).length = n * Rep.size α := by
      rw [List.length_take, hl4]; exact Nat.min_eq_left (Nat.mul_le_mul_right _ (by omega))
    have hfit : 0 + (news.take (n * Rep.size α)).length ≤ xs.length := by rw [hnl, hxl, Nat.zero_add]; exact Nat.mul_le_mul_right _ (by omega)
    have hall : ∀ u ∈ news.take (n * Rep.size α), u.oneCell' = true := fun u hu => List.all_eq_true.1 h4.flat u (List.mem_of_mem_take hu)
    have hst2 := run_storeCells_fr P b 0 E q (news.take (n * Rep.size α)) 0 (xs ++ sp).toArray w hbh (by simp only [List.size_toArray, List.length_append]; omega) hall (fun j hj => by rcases e5 with rfl | rfl <;> simp at hj ⊢ <;> omega)
    have hr : (execOp a.eval ⟨d, .call ⟨.builtin .copy, #[.tmp t, y], #[T, U]⟩, ty, ps, af, g⟩).run P w = .ok (.value (goInt n)) (w.setRow b (segSet (xs ++ sp) 0 (news.take (n * Rep.size α))).toArray) := by
      simp [execOp, resolve, invoke, builtin, Builtin.copy_, run_underlying hT, h3.len w, hsz, ha.ev (x := .tmp t) h1, ha.ev h2, hmn, hfc]
      simp only [Nat.add_zero] at hst2
      rw [show (⟨b, 0, none⟩ : Addr) = { block := b, off := 0 } from rfl] at hst2
      simp [hst2, segSet]
    rw [hr]
    have hseg : segSet (xs ++ sp) 0 (news.take (n * Rep.size α)) = segSet xs 0 (news.take (n * Rep.size α)) ++ sp := segSet_append xs sp _ _ hfit
    have hlen : (segSet xs 0 (news.take (n * Rep.size α))).length = xs.length := segSet_length _ _ _ hfit
    refine ⟨I, _, setRowG hst h5 _, Le.refl I, .v ((n : Nat) : Int), _, ⟨_, ⟨rfl, by omega, by omega⟩, rfl⟩, h7 I (bb, .own E _ (m.take l.length ++ l.drop m.length)) _ (Le.refl I) ⟨⟨_, .inr ⟨b, c, sp, q, by rw [hlen2], by rw [hseg], by rw [hlen, hlen2]; exact e1, by rw [List.length_append, hlen, ← List.length_append]; exact e2, by rw [hlen2]; exact e3, e4, ?_⟩, hrep⟩, fun hbb p hp => ?_⟩, k⟩
    · rw [List.length_append, hlen, ← List.length_append]; exact e5
    · have := h6.2 hbb _ (List.mem_singleton.2 rfl)
      simp only [List.mem_singleton] at hp
      subst hp; exact this
end Go.Ab
set_option linter.unusedVariables false
namespace Go.Ab
open Go.Fl Go.RowKit
open Rep (rep)
theorem ne_not {b w : Bool} (h : ¬ b = w) : b = !w := by cases b <;> cases w <;> simp_all
def plan (P : Program) (C : Ctx) (N : Nat) (σ0 : AEnv) (accP : List (Nat × AV)) (F : List (Nat × AV) → AHeap → Prop) : List (Nat × Oper × List (Nat × Nat)) → List (Nat × AV) → AHeap → Prop
  | [], cacc, H => F cacc H
  | (i, o, s) :: rest, cacc, H =>
    match o.guard, lookR accP i with
    | none, none => OpH P C N o (envOf σ0 (cacc ++ accP) s (opTmps o)) H (fun r H' => plan P C N σ0 accP F rest ((i, r) :: cacc) H')
    | none, some r0 => OpH P C N o (envOf σ0 (cacc ++ accP) s (opTmps o)) H (fun r H' => r = r0 ∧ plan P C N σ0 accP F rest ((i, r0) :: cacc) H')
    | some (g, want), none => ∃ b, lookR accP g = some (.v b) ∧ (b = want → OpH P C N o (envOf σ0 (cacc ++ accP) s (opTmps o)) H (fun r H' => plan P C N σ0 accP F rest ((i, r) :: cacc) H')) ∧
        (b = (!want) → plan P C N σ0 accP F rest ((i, .any) :: cacc) H)
    | some (g, want), some r0 => ∃ b c, lookR accP g = some (.v b) ∧ r0 = .opt (b == want) c ∧ (b = want → OpH P C N o (envOf σ0 (cacc ++ accP) s (opTmps o)) H (fun r H' => r = c ∧ plan P C N σ0 accP F rest ((i, r0) :: cacc) H')) ∧
        (b = (!want) → plan P C N σ0 accP F rest ((i, r0) :: cacc) H)
def planK (P : Program) (C : Ctx) (N : Nat) (σ0 : AEnv) {ι : Type 1} (HT : ι → AHeap) (accP : List (Nat × AV)) (F : List (Nat × AV) → AHeap → Prop) : List (Nat × Oper × List (Nat × Nat)) → List (Nat × AV) → AHeap → Prop
  | [], cacc, H => (∃ Hp, H = HT Hp) ∧ F cacc H
  | (i, o, s) :: rest, cacc, H => (∃ Hp, H = HT Hp) ∧
    match o.guard, lookR accP i with
    | none, none => OpH P C N o (envOf σ0 (cacc ++ accP) s (opTmps o)) H (fun r H' => planK P C N σ0 HT accP F rest ((i, r) :: cacc) H')
    | none, some r0 => OpH P C N o (envOf σ0 (cacc ++ accP) s (opTmps o)) H (fun r H' => r = r0 ∧ planK P C N σ0 HT accP F rest ((i, r0) :: cacc) H')
    | some (g, want), none => ∃ b, lookR accP g = some (.v b) ∧ (b = want → OpH P C N o (envOf σ0 (cacc ++ accP) s (opTmps o)) H (fun r H' => planK P C N σ0 HT accP F rest ((i, r) :: cacc) H')) ∧
        (b = (!want) → planK P C N σ0 HT accP F rest ((i, .any) :: cacc) H)
    | some (g, want), some r0 => ∃ b c, lookR accP g = some (.v b) ∧ r0 = .opt (b == want) c ∧ (b = want → OpH P C N o (envOf σ0 (cacc ++ accP) s (opTmps o)) H (fun r H' => r = c ∧ planK P C N σ0 HT accP F rest ((i, r0) :: cacc) H')) ∧
        (b = (!want) → planK P C N σ0 HT accP F rest ((i, r0) :: cacc) H)
theorem planK.tail {P : Program} {C : Ctx} {N : Nat} {σ0 : AEnv} {ι : Type 1} {HT : ι → AHeap} {accP : List (Nat × AV)} {F : List (Nat × AV) → AHeap → Prop} : ∀ {l : List (Nat × Oper × List (Nat × Nat))} {cacc : List (Nat × AV)} {H : AHeap}, planK P C N σ0 HT accP F l cacc H → ∃ Hp, H = HT Hp
  | [], _, _, h => h.1
  | _ :: _, _, _, h => h.1
theorem OpH.mono {P : Program} {C : Ctx} {N : Nat} {o : Oper} {σ : AEnv} {H : AHeap} {K K' : AV → AHeap → Prop} (h : OpH P C N o σ H K) (hk : ∀ r H', K r H' → K' r H') : OpH P C N o σ H K' := fun ρ I L hs a w ha hst =>
  (h ρ I L hs a w ha hst).mono fun v w' ⟨J, L', q1, q2, r, H', q3, q4, q5⟩ => ⟨J, L', q1, q2, r, H', q3, q4, hk r H' q5⟩
theorem plan.toK {P : Program} {C : Ctx} {N : Nat} {σ0 : AEnv} {accP : List (Nat × AV)} {F : List (Nat × AV) → AHeap → Prop} : ∀ {l : List (Nat × Oper × List (Nat × Nat))} {cacc : List (Nat × AV)} {H : AHeap}, plan P C N σ0 accP F l cacc H → planK P C N σ0 (fun H => H) accP F l cacc H
  | [], _, H, h => ⟨⟨H, rfl⟩, h⟩
  | (i, o, s) :: rest, cacc, H, h => by
    refine ⟨⟨H, rfl⟩, ?_⟩
    unfold plan at h
    cases hg : o.guard with
    | none =>
      cases hr : lookR accP i with
      | none => simp only [hg, hr] at h ⊢; exact h.mono fun r H' k => k.toK
      | some r0 => simp only [hg, hr] at h ⊢; exact h.mono fun r H' k => ⟨k.1, k.2.toK⟩
    | some gw =>
      obtain ⟨g, want⟩ := gw
      cases hr : lookR accP i with
      | none =>
        simp only [hg, hr] at h ⊢
        obtain ⟨b, h1, h2, h3⟩ := h
        exact ⟨b, h1, fun e => (h2 e).mono fun r H' k => k.toK, fun e => (h3 e).toK⟩
      | some r0 =>
        simp only [hg, hr] at h ⊢
        obtain ⟨b, c, h1, h2, h3, h4⟩ := h
        exact ⟨b, c, h1, h2, fun e => (h3 e).mono fun r H' k => ⟨k.1, k.2.toK⟩, fun e => (h4 e).toK⟩
def chainOk (ops : Array Oper) (n : Nat) (ss : List (List (Nat × Nat))) (ci : List Nat) : Bool :=
  (List.range ci.length).all (fun k => match ci[k]? with
    | some i => Nat.blt i n && (match k with | 0 => true | k' + 1 => match ci[k']? with | some j => Nat.blt j i && Region.waitsFor .any ops i j | none => false)
    | none => false)
theorem lookR_append (a b : List (Nat × AV)) (j : Nat) : lookR (a ++ b) j = (match lookR a j with | some r => some r | none => lookR b j) := by
  induction a with
  | nil => rfl
  | cons p a ih =>
    simp only [List.cons_append, lookR]
    cases Nat.beq p.1 j with
    | true => rfl
    | false => simpa using ih
theorem lookR_cons (i : Nat) (r : AV) (a : List (Nat × AV)) (j : Nat) : lookR ((i, r) :: a) j = if i = j then some r else lookR a j := by
  by_cases h : i = j
  · subst h; simp [lookR]
  · simp [lookR, h, beq_ne h]
theorem srcOf_mem {s : List (Nat × Nat)} {t j : Nat} (h : srcOf s t = some j) : (t, j) ∈ s := by
  induction s with
  | nil => simp [srcOf] at h
  | cons p s ih =>
    simp only [srcOf] at h
    cases hb : Nat.beq p.1 t with
    | true =>
      simp only [hb, cond_true, Option.some.injEq] at h
      have := Nat.eq_of_beq_eq_true hb
      subst h; subst this; exact List.mem_cons_self
    | false => simp only [hb, cond_false] at h; exact List.mem_cons_of_mem _ (ih h)
theorem envOf_congr {σ0 : AEnv} {a b : List (Nat × AV)} {s : List (Nat × Nat)} (h : ∀ t j, srcOf s t = some j → lookR a j = lookR b j) : ∀ ts, envOf σ0 a s ts = envOf σ0 b s ts
  | [] => rfl
  | t :: ts => by
    simp only [envOf]
    cases hs : srcOf s t with
    | none => simp only [envOf_congr h ts]
    | some j => simp only [h t j hs, envOf_congr h ts]
theorem envOf_look {σ0 : AEnv} {acc : List (Nat × AV)} {s : List (Nat × Nat)} : ∀ {ts : List Nat} {t : Nat} {a : AV}, lookA (envOf σ0 acc s ts) t = some a → t ∈ ts ∧ (match srcOf s t with | none => lookA σ0 t | some j => lookR acc j) = some a
  | [], t, a, h => by simp [envOf, lookA] at h
  | u :: ts, t, a, h => by
    simp only [envOf] at h
    split at h
    · rename_i b hb
      rw [lookA_cons] at h
      by_cases e : u = t
      · subst e; simp at h; subst h; exact ⟨List.mem_cons_self, hb⟩
      · rw [if_neg e] at h
        have := envOf_look h
        exact ⟨List.mem_cons_of_mem _ this.1, this.2⟩
    · have := envOf_look h
      exact ⟨List.mem_cons_of_mem _ this.1, this.2⟩
theorem envOf_get {σ0 : AEnv} {acc : List (Nat × AV)} {s : List (Nat × Nat)} {t : Nat} {a : AV} (h : (match srcOf s t with | none => lookA σ0 t | some j => lookR acc j) = some a) : ∀ {ts : List Nat}, t ∈ ts → lookA (envOf σ0 acc s ts) t = some a
  | [], hm => by cases hm
  | u :: ts, hm => by
    by_cases e : u = t
    · subst e
      cases hs : srcOf s u with
      | none => simp only [hs] at h; simp only [envOf, hs, h]; rw [lookA_cons, if_pos rfl]
      | some j => simp only [hs] at h; simp only [envOf, hs, h]; rw [lookA_cons, if_pos rfl]
    · have hm' : t ∈ ts := by
        rcases List.mem_cons.1 hm with h1 | h1
        · exact absurd h1.symm e
        · exact h1
      simp only [envOf]
      split
      · rw [lookA_cons, if_neg e]; exact envOf_get h hm'
      · exact envOf_get h hm'
def opOkC (ops : Array Oper) (n : Nat) (ss : List (List (Nat × Nat))) (i : Nat) : Bool :=
  match ops[i]?, ss[i]? with
  | some o, some s => (opTmps o).all (readOk ops n i s) &&
    (match o.guard with | none => true | some (g, _) => Nat.blt g n && Region.waitsFor .any ops i g && ((ops[g]?).bind (·.dst)).isSome)
  | _, _ => false
def dstsOkC (ops : Array Oper) (n : Nat) : Bool := (List.range n).all fun i => (List.range i).all fun j => match (ops[i]?).bind (·.dst) with | some d => !((ops[j]?).bind (·.dst) == some d) | none => true
def phiOkC (ops : Array Oper) (n : Nat) (ss : List (List (Nat × Nat))) : Bool :=
  Nat.ble n ops.size && edgesBack ops && (List.range n).all (opOkC ops n ss) && dstsOkC ops n &&
  (n == ops.size || (Region.sinkB .any ops n && Region.chainB .any ops n)) && Region.seqB .any ops (ops.size - n) n (headAll ops.size n)
theorem put_defers (a : Act) (d : Option Nat) (v : Value) : (a.put d v).defers = a.defers := by cases d <;> rfl
theorem put_size (a : Act) (d : Option Nat) (v : Value) : (a.put d v).tmps.size = a.tmps.size := by cases d <;> simp [Act.put]
theorem put_ne (a : Act) {d : Option Nat} {t : Nat} (v : Value) (h : d ≠ some t) : (a.put d v).tmps[t]? = a.tmps[t]? := by
  cases d with
  | none => rfl
  | some d => simp [Act.put, Array.getElem?_setIfInBounds_ne (show d ≠ t from fun e => h (by rw [e]))]
theorem put_eq (a : Act) {d : Nat} (v : Value) (h : d < a.tmps.size) : (a.put (some d) v).tmps[d]? = some v := by simp [Act.put, h]
def dutyQ (P : Program) (N : Nat) (C : Ctx) (σ0 : AEnv) {ι : Type 1} (HT : ι → AHeap) (accP : List (Nat × AV)) (o : Oper) (s : List (Nat × Nat)) (r : AV) : Prop := ∀ Hp, dutyA P N C σ0 (HT Hp) accP o s r
structure CInv (P : Program) (C : Ctx) (N n : Nat) (l : List Oper) (ci : List Nat) (cl : List (Nat × Oper × List (Nat × Nat))) (σ0 : AEnv) {ι : Type 1} (HT : ι → AHeap) (accP : List (Nat × AV)) (F : List (Nat × AV) → AHeap → Prop) (ρ0 : Env) (I : Im)
    (listed : Array Bool) (k : Nat) (cacc : List (Nat × AV)) (H : AHeap) (J : Im) (L : Lh) (vs : Nat → Value) (a : Act) (w : World) : Prop where
  head : HeadInv .any l.toArray n listed
  le : Le I J
  im0 : Le C.I0 J
  st : St C J L w
  heap : repH C.w0.heap.size J H L
  kle : k ≤ ci.length
  ch : ∀ m i, ci[m]? = some i → (listed.getD i false = true ↔ m < k)
  pl : planK P C N σ0 HT accP F (cl.drop k) cacc H
  keys : ∀ j r, lookR cacc j = some r → j ∈ ci
  prom : ∀ j r r0, lookR cacc j = some r → lookR accP j = some r0 → r = r0
  proL : ∀ j, j ∈ ci → listed.getD j false = true → ∃ r, lookR cacc j = some r
  val : ∀ j, j < n → listed.getD j false = true → ∃ r, lookR (cacc ++ accP) j = some r ∧ RepV J r (vs j)
  defers : a.defers = []
  size : a.tmps.size = N
  tmpI : ∀ j d, j < n → listed.getD j false = true → (l.toArray[j]?).bind (·.dst) = some d → a.tmps[d]? = some (vs j)
  tmpO : ∀ t v, Fl.look ρ0 t = some v → (∀ j, j < n → listed.getD j false = true → (l.toArray[j]?).bind (·.dst) ≠ some t) → a.tmps[t]? = some v
section
variable {P : Program} {C : Ctx} {N n : Nat} {l : List Oper} {ci : List Nat} {cl : List (Nat × Oper × List (Nat × Nat))} {ss : List (List (Nat × Nat))} {σ0 : AEnv} {ι : Type 1} {HT : ι → AHeap} {accP : List (Nat × AV)} {F : List (Nat × AV) → AHeap → Prop} {ρ0 : Env} {I : Im} {L0 : Lh} {H0 : AHeap}
theorem CInv.step {listed : Array Bool} {k : Nat} {cacc : List (Nat × AV)} {H : AHeap} {J : Im} {L : Lh} {vs : Nat → Value} {a : Act} {w : World} {Q' : Exit → Act → World → Prop}
    (h0 : RSt C I L0 σ0 H0 ρ0) (hN : dstOk N l = true) (hok : ∀ i, i < n → opOkC l.toArray n ss i = true) (hdst : dstsOkC l.toArray n = true) (hch : chainOk l.toArray n ss ci = true)
    (hcl : ∀ (m i : Nat) (o : Oper) (s : List (Nat × Nat)), ci[m]? = some i → l[i]? = some o → ss[i]? = some s → cl[m]? = some (i, o, s)) (hnd : ci.Nodup)
    (hp : ∀ i o s, i < n → i ∉ ci → l[i]? = some o → ss[i]? = some s → ∃ r, lookR accP i = some r ∧ dutyQ P N C σ0 HT accP o s r)
    (inv : CInv P C N n l ci cl σ0 HT accP F ρ0 I listed k cacc H J L vs a w) {i : Nat} (hr : i ∈ Region.ready .any l.toArray listed) (hin : i < n)
    {K : Act → World → Prop} (hK : ∀ k cacc H J L vs a' w, CInv P C N n l ci cl σ0 HT accP F ρ0 I (listed.setIfInBounds i true) k cacc H J L vs a' w → K a' w) :
    wpOpIn C.fen 0 P l.toArray Q' i K a w := by
  obtain ⟨hun, o, ho, hall⟩ := mem_ready.1 hr
  have hol : l[i]? = some o := by simpa using ho
  have hok' := hok i hin
  unfold opOkC at hok'
  simp only [ho] at hok'
  cases hs : ss[i]? with
  | none => simp [hs] at hok'
  | some s =>
  simp only [hs, Bool.and_eq_true] at hok'
  obtain ⟨hreads, hguard⟩ := hok'
  have hdN : ∀ d, o.dst = some d → d < N := fun d hod => by
    have := List.all_eq_true.1 hN o (List.mem_of_getElem? hol)
    rw [hod] at this
    simpa [Nat.blt_eq] using this
  have hlisted : ∀ j, Region.waitsFor .any l.toArray i j = true → listed.getD j false = true := fun j hw => by
    obtain ⟨e, he, hb, heq⟩ := waits_mem ho hw
    exact heq ▸ hall e he hb
  have hilt : i < listed.size := by
    rcases Nat.lt_or_ge i listed.size with h' | h'
    · exact h'
    · simp [Array.getElem?_eq_none h'] at hun
  have hiun : listed.getD i false = false := getD_both hun
  have hnot : ∀ j, Region.waitsFor .any l.toArray j i = true → listed.getD j false = true → False := fun j hw hl => by
    obtain ⟨oj, hoj, e, he, hb, heq⟩ := Region.waitsFor_spec hw
    have := inv.head.closed j oj hoj hl e he hb
    rw [heq, hiun] at this
    cases this
  have hch1 := hch
  unfold chainOk at hch1
  let g : Nat → Option Value := fun t => match srcOf s t with | some j => some (vs j) | none => Fl.look ρ0 t
  have hsrcl : ∀ t ∈ opTmps o, ∀ j, srcOf s t = some j → j < n ∧ listed.getD j false = true ∧ (l.toArray[j]?).bind (·.dst) = some t := fun t ht j hj => by
    have hro := List.all_eq_true.1 hreads t ht
    unfold readOk at hro
    simp only [hj, Bool.and_eq_true, beq_iff_eq] at hro
    exact ⟨by simpa [Nat.blt_eq] using hro.1.1, hlisted j hro.2, hro.1.2⟩
  have hfits : Fits N (mkEnv g (opTmps o)) a := by
    refine ⟨inv.defers, inv.size, fun t v hv => ?_⟩
    obtain ⟨hmem, hg⟩ := look_mkEnv hv
    cases hsrc : srcOf s t with
    | some j =>
      obtain ⟨h1, h2, h3⟩ := hsrcl t hmem j hsrc
      have hgv : vs j = v := by simpa [g, hsrc] using hg
      rw [← hgv]
      exact inv.tmpI j t h1 h2 h3
    | none =>
      have hro := List.all_eq_true.1 hreads t hmem
      unfold readOk at hro
      simp only [hsrc] at hro
      refine inv.tmpO t v (by simpa [g, hsrc] using hg) fun j hj hl hdj => ?_
      have h1 := List.all_eq_true.1 hro j (List.mem_range.2 hj)
      simp only [hdj, beq_self_eq_true, Bool.not_true, Bool.false_or, Bool.or_eq_true, beq_iff_eq] at h1
      rcases h1 with h1 | h1
      · subst h1; rw [hiun] at hl; cases hl
      · exact hnot j h1 hl
  have henv : ∀ t b, lookA (envOf σ0 (cacc ++ accP) s (opTmps o)) t = some b → ∃ u, Fl.look (mkEnv g (opTmps o)) t = some u ∧ RepV J b u := fun t b hb => by
    obtain ⟨hmem, hb2⟩ := envOf_look hb
    cases hsrc : srcOf s t with
    | some j =>
      simp only [hsrc] at hb2
      obtain ⟨h1, h2, _⟩ := hsrcl t hmem j hsrc
      obtain ⟨r, h3, h4⟩ := inv.val j h1 h2
      rw [hb2] at h3
      cases h3
      exact ⟨vs j, by rw [look_mkEnv_mem hmem]; simp [g, hsrc], h4⟩
    | none =>
      simp only [hsrc] at hb2
      obtain ⟨u, h1, h2⟩ := h0.env t b hb2
      exact ⟨u, by rw [look_mkEnv_mem hmem]; simpa [g, hsrc] using h1, h2.mono inv.le⟩
  have hR : RSt C J L (envOf σ0 (cacc ++ accP) s (opTmps o)) H (mkEnv g (opTmps o)) := ⟨henv, inv.heap, inv.im0⟩
  have hput : ∀ j, j ≠ i → (listed.setIfInBounds i true).getD j false = listed.getD j false := fun j hj => getD_set_ne false (Ne.symm hj)
  have hdne : ∀ j, j < n → j ≠ i → ∀ d', (l.toArray[j]?).bind (·.dst) = some d' → o.dst ≠ some d' := by
    intro j hj hji d' hd' hod
    have hdi : (l.toArray[i]?).bind (·.dst) = some d' := by rw [ho]; exact hod
    rcases Nat.lt_or_gt_of_ne hji with h1 | h1
    · have := List.all_eq_true.1 (List.all_eq_true.1 hdst i (List.mem_range.2 hin)) j (List.mem_range.2 h1)
      rw [hdi, hd'] at this
      simp at this
    · have := List.all_eq_true.1 (List.all_eq_true.1 hdst j (List.mem_range.2 hj)) i (List.mem_range.2 h1)
      rw [hdi, hd'] at this
      simp at this
  -- what a finished operation does
  have fin : ∀ v J' L' H' k' cacc' w' r, Le J J' → St C J' L' w' → repH C.w0.heap.size J' H' L' → RepV J' r v → lookR (cacc' ++ accP) i = some r → (∀ j, j ≠ i → lookR (cacc' ++ accP) j = lookR (cacc ++ accP) j) → k' ≤ ci.length →
      (∀ m i', ci[m]? = some i' → ((listed.setIfInBounds i true).getD i' false = true ↔ m < k')) → planK P C N σ0 HT accP F (cl.drop k') cacc' H' → (∀ j r, lookR cacc' j = some r → j ∈ ci) → (∀ j r r0, lookR cacc' j = some r → lookR accP j = some r0 → r = r0) → (∀ j, j ∈ ci → (listed.setIfInBounds i true).getD j false = true → ∃ r, lookR cacc' j = some r) → K (a.put o.dst v) w' := by
    intro v J' L' H' k' cacc' w' r hle hst hH hv hri hrj hk' hch' hpl hkeys hprom hproL
    refine hK k' cacc' H' J' L' (fun j => if j = i then v else vs j) _ _ ⟨inv.head.set hr hin, inv.le.trans hle, inv.im0.trans hle, hst, hH, hk', hch', hpl, hkeys, hprom, hproL, fun j hj hl => ?_, ?_, ?_, fun j d' hj hl hd' => ?_, fun t u hu hno => ?_⟩
    · by_cases hji : j = i
      · subst hji
        exact ⟨r, hri, by simpa using hv⟩
      · rw [hput j hji] at hl
        obtain ⟨q, h1, h2⟩ := inv.val j hj hl
        exact ⟨q, (hrj j hji).trans h1, by simpa [hji] using h2.mono hle⟩
    · rw [put_defers]; exact inv.defers
    · rw [put_size]; exact inv.size
    · by_cases hji : j = i
      · subst hji
        have hod : o.dst = some d' := by rw [ho] at hd'; exact hd'
        rw [hod, put_eq _ _ (by rw [inv.size]; exact hdN d' hod), if_pos rfl]
      · rw [hput j hji] at hl
        rw [put_ne _ _ (hdne j hj hji d' hd'), if_neg hji]
        exact inv.tmpI j d' hj hl hd'
    · rw [put_ne _ _ (fun hod => hno i hin (getD_set_true' hilt) (by rw [ho]; exact hod))]
      refine inv.tmpO t u hu fun j hj hl => hno j hj ?_
      by_cases hji : j = i
      · subst hji; rw [hiun] at hl; cases hl
      · rw [hput j hji]; exact hl
  -- the guard
  have hgrd : ∀ gi want, o.guard = some (gi, want) → ∀ b, lookR accP gi = some (.v b) → yielded l.toArray a.tmps gi = some b := fun gi want hg b hb => by
    rw [hg] at hguard
    simp only [Bool.and_eq_true] at hguard
    have hgn : gi < n := by simpa [Nat.blt_eq] using hguard.1.1
    have hgl := hlisted gi hguard.1.2
    obtain ⟨r, h1, h2⟩ := inv.val gi hgn hgl
    have hr2 : r = .v b := by
      rw [lookR_append] at h1
      cases hc : lookR cacc gi with
      | some q =>
        rw [hc] at h1
        cases h1
        exact inv.prom gi _ _ hc hb
      | none =>
        rw [hc] at h1
        simp only at h1
        rw [hb] at h1
        exact (Option.some.inj h1).symm
    subst hr2
    obtain ⟨cs, rfl, hvs⟩ := h2
    obtain ⟨dg, hdg0⟩ := Option.isSome_iff_exists.1 hguard.2
    obtain ⟨og, hog, hdg⟩ := Option.bind_eq_some_iff.1 hdg0
    have htg := inv.tmpI gi dg hgn hgl (by rw [hog]; exact hdg)
    rw [hvs] at htg
    unfold yielded
    rw [hog]
    simp only [Option.bind_some, hdg, htg]
    rfl
  unfold wpOpIn
  simp only [ho]
  by_cases hic : i ∈ ci
  · obtain ⟨m, hm⟩ := List.mem_iff_getElem?.1 hic
    have hmk : ¬ m < k := fun h => by
      have := (inv.ch m i hm).2 h
      rw [hiun] at this; cases this
    have hml : m < ci.length := (List.getElem?_eq_some_iff.1 hm).1
    have hkm : m ≤ k := by
      cases m with
      | zero => omega
      | succ mj =>
        have h1 := List.all_eq_true.1 hch1 (mj + 1) (List.mem_range.2 hml)
        simp only [hm, Bool.and_eq_true] at h1
        cases hj : ci[mj]? with
        | none => simp [hj] at h1
        | some j =>
          simp only [hj, Bool.and_eq_true] at h1
          have := (inv.ch mj j hj).1 (hlisted j h1.2.2)
          omega
    have hmk' : m = k := by omega
    subst hmk'
    have hc := hcl m i o s hm hol hs
    have hdrop : cl.drop m = (i, o, s) :: cl.drop (m + 1) := by
      have hlt := (List.getElem?_eq_some_iff.1 hc).1
      rw [List.drop_eq_getElem_cons hlt]
      congr 1
      rw [List.getElem?_eq_getElem hlt] at hc
      exact Option.some.inj hc
    have hpl := inv.pl
    rw [hdrop, planK] at hpl
    replace hpl := hpl.2
    have hch' : ∀ mj i', ci[mj]? = some i' → ((listed.setIfInBounds i true).getD i' false = true ↔ mj < m + 1) := fun mj i' hm' => by
      by_cases e : i' = i
      · subst e
        have hlj := (List.getElem?_eq_some_iff.1 hm').1
        have heq : ci[mj]'hlj = ci[m]'hml := by rw [(List.getElem?_eq_some_iff.1 hm').2, (List.getElem?_eq_some_iff.1 hm).2]
        have : mj = m := by
          rcases Nat.lt_trichotomy mj m with h | h | h
          · exact absurd heq ((List.pairwise_iff_getElem.1 hnd) mj m hlj hml h)
          · exact h
          · exact absurd heq.symm ((List.pairwise_iff_getElem.1 hnd) m mj hml hlj h)
        exact ⟨fun _ => by omega, fun _ => getD_set_true' hilt⟩
      · rw [hput i' e, inv.ch mj i' hm']
        have : mj ≠ m := by
          rintro rfl
          rw [hm] at hm'; exact e (Option.some.inj hm').symm
        omega
    have hkeys : ∀ r, ∀ j q, lookR ((i, r) :: cacc) j = some q → j ∈ ci := fun r j q hq => by
      rw [lookR_cons] at hq
      by_cases e : i = j
      · subst e; exact hic
      · rw [if_neg e] at hq; exact inv.keys j q hq
    have hself : ∀ r, lookR ((i, r) :: cacc ++ accP) i = some r := fun r => by rw [List.cons_append, lookR_cons, if_pos rfl]
    have hoth : ∀ r j, j ≠ i → lookR ((i, r) :: cacc ++ accP) j = lookR (cacc ++ accP) j := fun r j hj => by rw [List.cons_append, lookR_cons, if_neg (Ne.symm hj)]
    have hprom : ∀ r, (∀ r0, lookR accP i = some r0 → r = r0) → ∀ j q r0, lookR ((i, r) :: cacc) j = some q → lookR accP j = some r0 → q = r0 := fun r hr0 j q r0 hq h0 => by
      rw [lookR_cons] at hq
      by_cases e : i = j
      · subst e; rw [if_pos rfl] at hq; cases hq; exact hr0 r0 h0
      · rw [if_neg e] at hq; exact inv.prom j q r0 hq h0
    have hproL : ∀ r, ∀ j, j ∈ ci → (listed.setIfInBounds i true).getD j false = true → ∃ q, lookR ((i, r) :: cacc) j = some q := fun r j hj hl => by
      by_cases e : i = j
      · subst e; exact ⟨r, by rw [lookR_cons, if_pos rfl]⟩
      · rw [hput j (Ne.symm e)] at hl
        obtain ⟨q, hq⟩ := inv.proL j hj hl
        exact ⟨q, by rw [lookR_cons, if_neg e]; exact hq⟩
    have run : ∀ (R : AV → AV), (∀ r r0, lookR accP i = some r0 → R r = r0) → ∀ Z : AV → Prop, (∀ r, Z r → ∀ J' u, RepV J' r u → RepV J' (R r) u) →
        OpH P C N o (envOf σ0 (cacc ++ accP) s (opTmps o)) H (fun r H' => Z r ∧ planK P C N σ0 HT accP F (cl.drop (m + 1)) ((i, R r) :: cacc) H') → o.wpIn C.fen 0 P a w K Q' := fun R hR0 Z hZ h => by
      refine Yld.wp ((h _ J L hR a w hfits inv.st).mono ?_)
      rintro v w' ⟨J', L', hst, hle, r, H', h1, h2, h3, h4⟩
      exact fin v J' L' H' (m + 1) ((i, R r) :: cacc) w' (R r) hle hst h2 (hZ r h3 _ _ h1) (hself _) (hoth _) (by omega) hch' h4 (hkeys _) (hprom _ (hR0 r)) (hproL _)
    have skipd : ∀ b want r, o.guard.isSome = true → (∀ r0, lookR accP i = some r0 → r = r0) → RepV J r undef → planK P C N σ0 HT accP F (cl.drop (m + 1)) ((i, r) :: cacc) H → (b : Bool) = !want → K (a.put o.dst undef) w := fun b want r _ hr0 hu hp _ =>
      fin undef J L H (m + 1) ((i, r) :: cacc) w r (Le.refl J) inv.st inv.heap hu (hself r) (hoth r) (by omega) hch' hp (hkeys r) (hprom r hr0) (hproL r)
    cases hg : o.guard with
    | none =>
      rw [if_pos (by simp [Region.wanted, hg])]
      cases hpr : lookR accP i with
      | none =>
        rw [hg, hpr] at hpl
        exact run (fun r => r) (fun r r0 h => by rw [hpr] at h; cases h) (fun _ => True) (fun _ _ _ _ h => h) (by
          intro ρ' I' L' hs' a' w' ha' hst'
          exact Yld.mono (hpl ρ' I' L' hs' a' w' ha' hst') (fun v w'' ⟨J', L'', q1, q2, r, H', q3, q4, q5⟩ => ⟨J', L'', q1, q2, r, H', q3, q4, trivial, q5⟩))
      | some r0 =>
        rw [hg, hpr] at hpl
        exact run (fun _ => r0) (fun r q h => by rw [hpr] at h; exact Option.some.inj h) (fun r => r = r0) (fun r hr _ _ h => hr ▸ h) hpl
    | some gw =>
      obtain ⟨gi, want⟩ := gw
      cases hpr : lookR accP i with
      | none =>
        rw [hg, hpr] at hpl
        obtain ⟨b, hb, h1, h2⟩ := hpl
        have hy := hgrd gi want hg b hb
        by_cases hbw : b = want
        · rw [if_pos (by simp [Region.wanted, hg, hy, hbw])]
          exact run (fun r => r) (fun r r0 h => by rw [hpr] at h; cases h) (fun _ => True) (fun _ _ _ _ h => h) (by
            intro ρ' I' L' hs' a' w' ha' hst'
            exact Yld.mono (h1 hbw ρ' I' L' hs' a' w' ha' hst') (fun v w'' ⟨J', L'', q1, q2, r, H', q3, q4, q5⟩ => ⟨J', L'', q1, q2, r, H', q3, q4, trivial, q5⟩))
        · have hwf : ¬ Region.wanted o (yielded l.toArray a.tmps) = true := by simpa [Region.wanted, hg, hy] using hbw
          rw [if_neg hwf]
          refine ⟨fun _ _ => trivial, ?_⟩
          have hbn : b = !want := ne_not hbw
          exact skipd b want .any (by simp [hg]) (fun r0 h => by rw [hpr] at h; cases h) trivial (h2 hbn) hbn
      | some r0 =>
        rw [hg, hpr] at hpl
        obtain ⟨b, c, hb, rfl, h1, h2⟩ := hpl
        have hy := hgrd gi want hg b hb
        by_cases hbw : b = want
        · rw [if_pos (by simp [Region.wanted, hg, hy, hbw])]
          exact run (fun _ => .opt (b == want) c) (fun r q h => by rw [hpr] at h; exact Option.some.inj h) (fun r => r = c) (fun r hr J' u h _ => hr ▸ h) (h1 hbw)
        · have hwf : ¬ Region.wanted o (yielded l.toArray a.tmps) = true := by simpa [Region.wanted, hg, hy] using hbw
          rw [if_neg hwf]
          refine ⟨fun _ _ => trivial, ?_⟩
          have hbn : b = !want := ne_not hbw
          exact skipd b want (.opt (b == want) c) (by simp [hg]) (fun q h => by rw [hpr] at h; exact Option.some.inj h) (fun hc => absurd (by simpa using hc) hbw) (h2 hbn) hbn
  · obtain ⟨r, hri, hd⟩ := hp i o s hin hic hol hs
    have hcn : ∀ j, j ∉ ci → lookR cacc j = none := fun j hj => by
      cases hc : lookR cacc j with
      | none => rfl
      | some q => exact absurd (inv.keys j q hc) hj
    have hself : lookR (cacc ++ accP) i = some r := by rw [lookR_append, hcn i hic]; exact hri
    have hRq : RSt C J L (envOf σ0 accP s (opTmps o)) H (mkEnv g (opTmps o)) := hR.sub fun t b hb => by
      obtain ⟨hmem, hb2⟩ := envOf_look hb
      refine envOf_get ?_ hmem
      cases hsrc : srcOf s t with
      | none => simp only [hsrc] at hb2 ⊢; exact hb2
      | some j =>
        simp only [hsrc] at hb2 ⊢
        rw [lookR_append]
        cases hc : lookR cacc j with
        | none => exact hb2
        | some q => exact congrArg some (inv.prom j q b hc hb2)
    have hproL : ∀ j, j ∈ ci → (listed.setIfInBounds i true).getD j false = true → ∃ q, lookR cacc j = some q := fun j hj hl => by
      have : j ≠ i := by rintro rfl; exact hic hj
      rw [hput j this] at hl; exact inv.proL j hj hl
    have hch' : ∀ mj i', ci[mj]? = some i' → ((listed.setIfInBounds i true).getD i' false = true ↔ mj < k) := fun mj i' hm' => by
      have : i' ≠ i := by rintro rfl; exact hic (List.mem_of_getElem? hm')
      rw [hput i' this]; exact inv.ch mj i' hm'
    obtain ⟨Hp, hHp⟩ := inv.pl.tail
    have hdH := hd Hp
    rw [← hHp] at hdH
    unfold dutyA at hdH
    have run : ∀ (c : AV), OpP P N C o (envOf σ0 accP s (opTmps o)) H (fun r' => r' = c) → (∀ J' u, RepV J' c u → RepV J' r u) → o.wpIn C.fen 0 P a w K Q' := fun c h hcr => by
      refine Yld.wp ((h _ J L hRq a w hfits inv.st.mem).mono ?_)
      rintro v w' ⟨J', X, hc, hle, hn, hm, hX, rfl, r', h1, rfl⟩
      have hst := (inv.st.step hc hle hn hm hX)
      rw [List.nil_append] at hst
      exact fin v J' L H k cacc w' r hle hst (inv.heap.mono hle) (hcr _ _ h1) hself (fun j hj => rfl) inv.kle hch' inv.pl inv.keys inv.prom hproL
    cases hg : o.guard with
    | none =>
      rw [hg] at hdH
      rw [if_pos (by simp [Region.wanted, hg])]
      exact run r hdH (fun _ _ h => h)
    | some gw =>
      obtain ⟨gi, want⟩ := gw
      rw [hg] at hdH
      obtain ⟨b, c, hb, rfl, h2⟩ := hdH
      have hy := hgrd gi want hg b hb
      by_cases hbw : b = want
      · rw [if_pos (by simp [Region.wanted, hg, hy, hbw])]
        exact run c (h2 hbw) (fun _ _ h _ => h)
      · have hwf : ¬ Region.wanted o (yielded l.toArray a.tmps) = true := by simpa [Region.wanted, hg, hy] using hbw
        rw [if_neg hwf]
        refine ⟨fun _ _ => trivial, ?_⟩
        exact fin undef J L H k cacc w (.opt (b == want) c) (Le.refl J) inv.st inv.heap (fun hc => absurd (by simpa using hc) hbw) hself (fun j hj => rfl) inv.kle hch' inv.pl inv.keys inv.prom hproL
theorem wpAny_C {Q' : Exit → Act → World → Prop} (h0 : RSt C I L0 σ0 H0 ρ0) (hN : dstOk N l = true) (hback : edgesBack l.toArray = true) (hok : ∀ i, i < n → opOkC l.toArray n ss i = true) (hdst : dstsOkC l.toArray n = true) (hch : chainOk l.toArray n ss ci = true)
    (hcl : ∀ (m i : Nat) (o : Oper) (s : List (Nat × Nat)), ci[m]? = some i → l[i]? = some o → ss[i]? = some s → cl[m]? = some (i, o, s)) (hnd : ci.Nodup)
    (hp : ∀ i o s, i < n → i ∉ ci → l[i]? = some o → ss[i]? = some s → ∃ r, lookR accP i = some r ∧ dutyQ P N C σ0 HT accP o s r)
    (hle : n ≤ l.length) (htail : n = l.length ∨ (Region.sinkB .any l.toArray n = true ∧ Region.chainB .any l.toArray n = true)) (hseq : Region.seqB .any l.toArray (l.length - n) n (headAll l.length n) = true)
    (hfin : ∀ listed k cacc H J L vs a w, CInv P C N n l ci cl σ0 HT accP F ρ0 I listed k cacc H J L vs a w → (∀ j, j < n → listed.getD j false = true) → wpListIn C.fen 0 P l.toArray Q' (l.drop n) a w) :
    ∀ (m : Nat) (listed : Array Bool) k cacc H J L vs a w, CInv P C N n l ci cl σ0 HT accP F ρ0 I listed k cacc H J L vs a w → unl listed n = m → wpAnyIn C.fen 0 P .any l.toArray Q' (m + (l.length - n)) listed a w
  | 0, listed, k, cacc, H, J, L, vs, a, w, inv, hm => by
    have hsz : listed.size = l.length := by simpa using inv.head.size
    have hall : ∀ j, j < n → listed.getD j false = true := fun j hj => getD_both' (by omega) (unl_zero hm j hj)
    have heq : listed = headAll l.length n := by
      refine Array.ext (by simp [headAll, hsz]) fun j h1 h2 => ?_
      have e1 : (headAll l.length n)[j]'h2 = Nat.blt j n := by simp [headAll]
      rw [e1]
      by_cases hj : j < n
      · have := hall j hj
        simp [h1] at this
        rw [this]
        exact (Nat.blt_eq ▸ hj : Nat.blt j n = true).symm
      · have := inv.head.tail j (by omega) (by simp; omega)
        simp [h1] at this
        rw [this]
        cases hb : Nat.blt j n
        · rfl
        · exact absurd (Nat.blt_eq ▸ hb : j < n) hj
    have hw := hfin listed k cacc H J L vs a w inv hall
    have h2 := wpAnyIn_of_seq (md := .any) (Q' := Q') (l.drop n) n listed a w (fun j => by simp [List.getElem?_drop]) (by rw [heq]; simpa using hseq) hw
    simpa using h2
  | m + 1, listed, k, cacc, H, J, L, vs, a, w, inv, hm => by
    have hsz : listed.size = l.length := by simpa using inv.head.size
    obtain ⟨i, hin, hi, hlt⟩ := unl_pos hm
    have hr := ready_of_least hback (by simpa using inv.head.size) hi hlt
    rw [show m + 1 + (l.length - n) = (m + (l.length - n)) + 1 by omega]
    refine ⟨fun h0 => (by rw [h0] at hr; cases hr), fun j hj => ?_⟩
    have hjn : j < n := by
      rcases Nat.lt_or_ge j n with h | h
      · exact h
      · rcases htail with ht | ⟨hs, hc⟩
        · obtain ⟨_, o, ho, _⟩ := mem_ready.1 hj
          have := (Array.getElem?_eq_some_iff.1 ho).1
          simp at this
          omega
        · have hnl : n < l.toArray.size := by
            obtain ⟨_, o, ho, _⟩ := mem_ready.1 hj
            have := (Array.getElem?_eq_some_iff.1 ho).1
            omega
          exact absurd hj (tail_waits hs hc hnl inv.head _ i rfl hin hi j h)
    refine inv.step h0 hN hok hdst hch hcl hnd hp hj hjn fun k' cacc' H' J' L' vs' a' w' inv' => ?_
    refine wpAny_C h0 hN hback hok hdst hch hcl hnd hp hle htail hseq hfin m _ k' cacc' H' J' L' vs' a' w' inv' ?_
    have hu := (mem_ready.1 hj).1
    have := unl_set hu hjn
    omega
end
def chainP (P : Program) (N : Nat) (C : Ctx) (σ0 : AEnv) {ι : Type 1} (HT : ι → AHeap) (ci : List Nat) (F : List (Nat × AV) → Prop) : List Oper → List (List (Nat × Nat)) → Nat → List (Nat × AV) → Prop
  | [], _, _, acc => F acc
  | o :: os, s :: ss, k, acc => bif ci.contains k then chainP P N C σ0 HT ci F os ss (k + 1) acc ∨ ∃ r, chainP P N C σ0 HT ci F os ss (k + 1) ((k, r) :: acc) else ∃ r, dutyQ P N C σ0 HT acc o s r ∧ chainP P N C σ0 HT ci F os ss (k + 1) ((k, r) :: acc)
  | _, [], _, _ => False
def clOf (l : List Oper) (ss : List (List (Nat × Nat))) : List Nat → List (Nat × Oper × List (Nat × Nat))
  | [] => []
  | i :: r => match l[i]?, ss[i]? with
    | some o, some s => (i, o, s) :: clOf l ss r
    | _, _ => clOf l ss r
theorem clOf_get {l : List Oper} {ss : List (List (Nat × Nat))} : ∀ (ci : List Nat), (∀ i ∈ ci, ∃ o s, l[i]? = some o ∧ ss[i]? = some s) → ∀ (m i : Nat) (o : Oper) (s : List (Nat × Nat)), ci[m]? = some i → l[i]? = some o → ss[i]? = some s → (clOf l ss ci)[m]? = some (i, o, s)
  | [], _, m, i, o, s, h, _, _ => by simp at h
  | j :: r, h0, m, i, o, s, h, h1, h2 => by
    obtain ⟨o', s', h3, h4⟩ := h0 j List.mem_cons_self
    simp only [clOf, h3, h4]
    cases m with
    | zero =>
      simp only [List.getElem?_cons_zero, Option.some.injEq] at h ⊢
      subst h
      rw [h1] at h3; rw [h2] at h4
      cases h3; cases h4; rfl
    | succ m => simpa using clOf_get r (fun i hi => h0 i (List.mem_cons_of_mem _ hi)) m i o s (by simpa using h) h1 h2
theorem chainP_elim {P : Program} {N : Nat} {C : Ctx} {σ0 : AEnv} {ι : Type 1} {HT : ι → AHeap} {ci : List Nat} {F : List (Nat × AV) → Prop} : ∀ (os : List Oper) (ss : List (List (Nat × Nat))) (k : Nat) (acc : List (Nat × AV)), (∀ j r, lookR acc j = some r → j < k) → chainP P N C σ0 HT ci F os ss k acc →
    ∃ full, F full ∧ (∀ j, j < k → lookR full j = lookR acc j) ∧
      ∀ i o s, os[i]? = some o → ss[i]? = some s → k + i ∉ ci → ∃ r acc', lookR full (k + i) = some r ∧ dutyQ P N C σ0 HT acc' o s r ∧ ∀ j, j < k + i → lookR acc' j = lookR full j
  | [], ss, k, acc, hacc, h => ⟨acc, by cases ss <;> exact h, fun _ _ => rfl, fun i o s ho => by simp at ho⟩
  | o :: os, [], k, acc, _, h => h.elim
  | o :: os, s :: ss, k, acc, hacc, h => by
    simp only [chainP] at h
    have hacc2 : ∀ r, ∀ j q, lookR ((k, r) :: acc) j = some q → j < k + 1 := fun r j q hj => by
      rw [lookR_cons] at hj
      by_cases e : k = j
      · omega
      · rw [if_neg e] at hj; have := hacc j q hj; omega
    cases hc : ci.contains k with
    | true =>
      rw [hc] at h
      simp only [cond_true] at h
      have fin : ∀ acc2, (∀ j, j < k → lookR acc2 j = lookR acc j) → (∀ j r, lookR acc2 j = some r → j < k + 1) → chainP P N C σ0 HT ci F os ss (k + 1) acc2 → ∃ full, F full ∧ (∀ j, j < k → lookR full j = lookR acc j) ∧
          ∀ i o' s', (o :: os)[i]? = some o' → (s :: ss)[i]? = some s' → k + i ∉ ci → ∃ r acc', lookR full (k + i) = some r ∧ dutyQ P N C σ0 HT acc' o' s' r ∧ ∀ j, j < k + i → lookR acc' j = lookR full j := fun acc2 ha hb h => by
        obtain ⟨full, hF, h1, h3⟩ := chainP_elim os ss (k + 1) acc2 hb h
        refine ⟨full, hF, fun j hj => (h1 j (by omega)).trans (ha j hj), fun i o' s' ho hs hni => ?_⟩
        cases i with
        | zero => exact absurd (by simpa using hc) hni
        | succ i =>
          have e : k + (i + 1) = k + 1 + i := by omega
          rw [e]
          exact h3 i o' s' (by simpa using ho) (by simpa using hs) (by rw [← e]; exact hni)
      rcases h with h | ⟨r, h⟩
      · exact fin acc (fun _ _ => rfl) (fun j r hj => Nat.lt_succ_of_lt (hacc j r hj)) h
      · exact fin ((k, r) :: acc) (fun j hj => by rw [lookR_cons, if_neg (by omega)]) (hacc2 r) h
    | false =>
      rw [hc] at h
      simp only [cond_false] at h
      obtain ⟨r, hd, h⟩ := h
      obtain ⟨full, hF, h1, h3⟩ := chainP_elim os ss (k + 1) ((k, r) :: acc) (hacc2 r) h
      refine ⟨full, hF, fun j hj => by rw [h1 j (by omega), lookR_cons, if_neg (by omega)], fun i o' s' ho hs hni => ?_⟩
      cases i with
      | zero =>
        simp only [List.getElem?_cons_zero, Option.some.injEq] at ho hs
        subst ho; subst hs
        refine ⟨r, acc, by rw [Nat.add_zero, h1 k (by omega), lookR_cons, if_pos rfl], hd, fun j hj => ?_⟩
        rw [Nat.add_zero] at hj
        rw [h1 j (by omega), lookR_cons, if_neg (by omega)]
      | succ i =>
        have e : k + (i + 1) = k + 1 + i := by omega
        rw [e]
        exact h3 i o' s' (by simpa using ho) (by simpa using hs) (by rw [← e]; exact hni)
def finV (vs : Nat → Value) : List Oper → Nat → Env → Env
  | o :: os, k, ρ => match o.dst with
    | some d => finV vs os (k + 1) ((d, vs k) :: ρ)
    | none => finV vs os (k + 1) ρ
  | [], _, ρ => ρ
theorem finV_st {C : Ctx} {J : Im} {L : Lh} {H : AHeap} {acc : List (Nat × AV)} {vs : Nat → Value} : ∀ (os : List Oper) (k : Nat) (σ : AEnv) (ρ : Env), RSt C J L σ H ρ → (∀ i o, os[i]? = some o → ∃ r, lookR acc (k + i) = some r ∧ RepV J r (vs (k + i))) →
    RSt C J L (finA acc os k σ) H (finV vs os k ρ)
  | [], k, σ, ρ, hs, _ => hs
  | o :: os, k, σ, ρ, hs, hd => by
    obtain ⟨r, h1, h2⟩ := hd 0 o rfl
    simp only [Nat.add_zero] at h1 h2
    have hd' : ∀ i o', os[i]? = some o' → ∃ r, lookR acc (k + 1 + i) = some r ∧ RepV J r (vs (k + 1 + i)) := fun i o' ho => by
      have := hd (i + 1) o' (by simpa using ho)
      rwa [show k + (i + 1) = k + 1 + i by omega] at this
    cases ho : o.dst with
    | none => simp only [finA, finV, ho]; exact finV_st os (k + 1) σ ρ hs hd'
    | some d => simp only [finA, finV, ho, h1]; exact finV_st os (k + 1) _ _ (hs.put (Le.refl J) h2 hs.heap) hd'
theorem finV_fits {N : Nat} {vs : Nat → Value} {a : Act} (hd : a.defers = []) (hsz : a.tmps.size = N) : ∀ (os : List Oper) (k : Nat) (ρ : Env),
    (∀ (i : Nat) (o : Oper) (d : Nat), os[i]? = some o → o.dst = some d → a.tmps[d]? = some (vs (k + i))) → (∀ t v, Fl.look ρ t = some v → (∀ (i : Nat) (o : Oper), os[i]? = some o → o.dst ≠ some t) → a.tmps[t]? = some v) → Fits N (finV vs os k ρ) a
  | [], k, ρ, _, h => ⟨hd, hsz, fun t v hv => h t v hv (fun i o ho => by simp at ho)⟩
  | o :: os, k, ρ, hI, hO => by
    have hI' : ∀ (i : Nat) (o' : Oper) (d : Nat), os[i]? = some o' → o'.dst = some d → a.tmps[d]? = some (vs (k + 1 + i)) := fun i o' d ho hdd => by
      have := hI (i + 1) o' d (by simpa using ho) hdd
      rwa [show k + (i + 1) = k + 1 + i by omega] at this
    cases ho : o.dst with
    | none =>
      simp only [finV, ho]
      refine finV_fits hd hsz os (k + 1) ρ hI' fun t v hv hno => hO t v hv fun i o' ho' => ?_
      cases i with
      | zero => simp only [List.getElem?_cons_zero, Option.some.injEq] at ho'; subst ho'; rw [ho]; exact fun h => by cases h
      | succ i => exact hno i o' (by simpa using ho')
    | some d =>
      simp only [finV, ho]
      refine finV_fits hd hsz os (k + 1) _ hI' fun t v hv hno => ?_
      rw [Fl.look_cons] at hv
      by_cases e : d = t
      · subst e
        rw [if_pos rfl] at hv
        cases hv
        have := hI 0 o d rfl ho
        simpa using this
      · rw [if_neg e] at hv
        refine hO t v hv fun i o' ho' => ?_
        cases i with
        | zero =>
          simp only [List.getElem?_cons_zero, Option.some.injEq] at ho'
          subst ho'
          rw [ho]
          exact fun h => e (Option.some.inj h)
        | succ i => exact hno i o' (by simpa using ho')
theorem wpA.drawCK {P : Program} {C : Ctx} {N : Nat} {Q : Exit → AEnv → AHeap → Prop} {σ : AEnv} {H : AHeap} {id : Nat} {l : List Oper} {ι : Type 1} (HT : ι → AHeap) (hm : P.follows .mixedOrders = true) (n : Nat) (ss : List (List (Nat × Nat))) (ci : List Nat)
    (hN : dstOk N l = true) (hB : phiOkC l.toArray n ss = true) (hss : Nat.ble n ss.length = true) (hC : chainOk l.toArray n ss ci = true) (hnd : ci.Nodup)
    (h : chainP P N C σ HT ci (fun accP => planK P C N σ HT accP (fun cacc H' => wpB P C N l.toArray Q (l.drop n) (finA (cacc ++ accP) (l.take n) 0 σ) H') (clOf l ss ci) [] H) (l.take n) ss 0 []) :
    wpA P C N (.region id l.toArray true) Q σ H := fun ρ I L hs a w ha hst => by
  have hB0 := hB
  simp only [phiOkC, Bool.and_eq_true, Bool.or_eq_true] at hB
  obtain ⟨⟨⟨⟨⟨hle, hback⟩, hok⟩, hdst⟩, htail⟩, hseq⟩ := hB
  have hle' : n ≤ l.length := by simpa using Nat.le_of_ble_eq_true hle
  have hok' : ∀ i, i < n → opOkC l.toArray n ss i = true := fun i hi => List.all_eq_true.1 hok i (List.mem_range.2 hi)
  have hssl := Nat.le_of_ble_eq_true hss
  obtain ⟨full, hF, _, hd⟩ := chainP_elim (l.take n) ss 0 [] (fun j r hj => by simp [lookR] at hj) h
  have hC' := hC
  unfold chainOk at hC'
  have hcin : ∀ i ∈ ci, i < n := fun i hi => by
    obtain ⟨m, hm⟩ := List.mem_iff_getElem?.1 hi
    have h1 := List.all_eq_true.1 hC' m (List.mem_range.2 (List.getElem?_eq_some_iff.1 hm).1)
    simp only [hm, Bool.and_eq_true] at h1
    simpa [Nat.blt_eq] using h1.1
  have hcl := clOf_get (l := l) (ss := ss) ci (fun i hi => ⟨_, _, List.getElem?_eq_getElem (Nat.lt_of_lt_of_le (hcin i hi) hle'), List.getElem?_eq_getElem (Nat.lt_of_lt_of_le (hcin i hi) hssl)⟩)
  have hp : ∀ i o s, i < n → i ∉ ci → l[i]? = some o → ss[i]? = some s → ∃ r, lookR full i = some r ∧ dutyQ P N C σ HT full o s r := fun i o s hi hic ho hsi => by
    obtain ⟨r, acc', h1, h2, h3⟩ := hd i o s (by rw [List.getElem?_take, if_pos hi]; exact ho) hsi (by simpa using hic)
    rw [Nat.zero_add] at h1 h3
    refine ⟨r, h1, fun H' => ?_⟩
    have hoi := hok' i hi
    unfold opOkC at hoi
    have ho' : l.toArray[i]? = some o := by simpa using ho
    simp only [ho', hsi, Bool.and_eq_true] at hoi
    have hback' : ∀ j, Region.waitsFor .any l.toArray i j = true → j < i := fun j hw => by
      obtain ⟨e, he, hb, heq⟩ := waits_mem ho' hw
      have hil : i < l.toArray.size := (Array.getElem?_eq_some_iff.1 ho').1
      have h4 := List.all_eq_true.1 hback i (List.mem_range.2 hil)
      simp only [ho', Array.all_eq_true_iff_forall_mem] at h4
      have h5 := h4 e he
      rw [hb] at h5
      have : e.on < i := by simpa [Nat.blt_eq] using h5
      omega
    -- sources that are no operand are looked at too
    have henv : ∀ t ∈ opTmps o, ∀ j, srcOf s t = some j → lookR acc' j = lookR full j := fun t ht j hj => by
      have h6 := List.all_eq_true.1 hoi.1 t ht
      unfold readOk at h6
      simp only [hj, Bool.and_eq_true] at h6
      exact h3 j (hback' j h6.2)
    have hdd := h2 H'
    unfold dutyA at hdd ⊢
    have he : ∀ ts, (∀ t ∈ ts, t ∈ opTmps o) → envOf σ acc' s ts = envOf σ full s ts := by
      intro ts
      induction ts with
      | nil => intro _; rfl
      | cons t ts ih =>
        intro hts
        simp only [envOf]
        cases hsrc : srcOf s t with
        | none => simp only [ih (fun u hu => hts u (List.mem_cons_of_mem _ hu))]
        | some j => simp only [henv t (hts t List.mem_cons_self) j hsrc, ih (fun u hu => hts u (List.mem_cons_of_mem _ hu))]
    rw [← he _ (fun t ht => ht)]
    cases hg : o.guard with
    | none => rw [hg] at hdd; exact hdd
    | some p =>
      obtain ⟨g, want⟩ := p
      rw [hg] at hdd
      have h6 := hoi.2
      rw [hg] at h6
      simp only [Bool.and_eq_true] at h6
      simp only at hdd ⊢
      rw [← h3 g (hback' g h6.1.2)]; exact hdd
  have hs' : St C I L { w with drawn := w.drawn + 1 } := ⟨⟨hst.mem.im, hst.mem.loc, hst.mem.sep, hst.mem.nodup⟩, ⟨hst.chg.os, hst.chg.tape, hst.chg.output, hst.chg.size, hst.chg.block⟩, hst.own, hst.im0, hst.new⟩
  refine wpIn_region_any hm ?_
  have inv0 : CInv P C N n l ci (clOf l ss ci) σ HT full (fun cacc H' => wpB P C N l.toArray Q (l.drop n) (finA (cacc ++ full) (l.take n) 0 σ) H') ρ I (Array.replicate l.toArray.size false) 0 [] H I L (fun _ => undef) a { w with drawn := w.drawn + 1 } := by
    have hnl : ∀ j, (Array.replicate l.toArray.size false).getD j false = true → False := fun j hl => by rw [getD_replicate_false] at hl; cases hl
    refine ⟨⟨by simp, fun j oj _ hl => (hnl j hl).elim, fun t _ ht => getD_in (by simpa using ht) (getD_replicate_false _ _)⟩, Le.refl _, hs.im0, hs', hs.heap, Nat.zero_le _, fun m i hm => ⟨fun hl => (hnl i hl).elim, fun h => by omega⟩, by rw [List.drop_zero]; exact hF, fun j r hj => by simp [lookR] at hj, fun j r r0 hj => by simp [lookR] at hj, fun j _ hl => (hnl j hl).elim, fun j _ hl => (hnl j hl).elim, ha.defers, ha.size, fun j d _ hl => (hnl j hl).elim, fun t v hv _ => ha.tmp t v hv⟩
  have hunl : unl (Array.replicate l.toArray.size false) n = n := by
    have key : ∀ k, k ≤ l.toArray.size → unl (Array.replicate l.toArray.size false) k = k := by
      intro k
      induction k with
      | zero => intro _; rfl
      | succ k ih =>
        intro hk
        rw [unl, ih (by omega), if_pos (getD_in (by simp at hk ⊢; omega) (getD_replicate_false _ _))]
    exact key n (by simpa using hle')
  have hmain := wpAny_C (Q' := liftQ C N (qA C Q)) hs hN hback hok' hdst hC hcl hnd hp hle'
    (by rcases htail with h | h
        · exact .inl (by simpa using h)
        · exact .inr h) (by simpa using hseq)
    (fun listed k cacc H' J L' vs a' w' inv hall => by
      have hk : k = ci.length := by
        rcases Nat.lt_or_ge k ci.length with h | h
        · have := (inv.ch k _ (List.getElem?_eq_getElem h)).1 (hall _ (hcin _ (List.getElem_mem h)))
          omega
        · have := inv.kle; omega
      have hpl := inv.pl
      have hlen : (clOf l ss ci).length ≤ ci.length := by
        have : ∀ c : List Nat, (clOf l ss c).length ≤ c.length := by
          intro c
          induction c with
          | nil => exact Nat.le_refl _
          | cons i c ih =>
            simp only [clOf]
            split
            · simpa using ih
            · exact Nat.le_succ_of_le ih
        exact this ci
      rw [hk, List.drop_eq_nil_of_le hlen, planK] at hpl
      replace hpl := hpl.2
      have hNd : dstOk N (l.drop n) = true := by
        simp only [dstOk, List.all_eq_true] at hN ⊢
        exact fun o ho => hN o (List.mem_of_mem_drop ho)
      have hR : RSt C J L' σ H' ρ := ⟨fun t b hb => by obtain ⟨u, h1, h2⟩ := hs.env t b hb; exact ⟨u, h1, h2.mono inv.le⟩, inv.heap, inv.im0⟩
      have hget : ∀ i o, (l.take n)[i]? = some o → i < n ∧ l[i]? = some o := fun i o ho => by
        have h1 := (List.getElem?_eq_some_iff.1 ho).1
        have hin : i < n := by rw [List.length_take] at h1; omega
        rw [List.getElem?_take, if_pos hin] at ho
        exact ⟨hin, ho⟩
      refine hpl (finV vs (l.take n) 0 ρ) J L' (finV_st (l.take n) 0 σ ρ hR fun i o ho => ?_) hNd a' w' (finV_fits inv.defers inv.size (l.take n) 0 ρ (fun i o d ho hdd => ?_) fun t v hv hno => inv.tmpO t v hv fun j hj _ hdj => ?_) inv.st
      · obtain ⟨hin, _⟩ := hget i o ho
        rw [Nat.zero_add]
        exact inv.val i hin (hall i hin)
      · obtain ⟨hin, ho2⟩ := hget i o ho
        rw [Nat.zero_add]
        exact inv.tmpI i d hin (hall i hin) (by simp [ho2, hdd])
      · have hjl : j < l.length := by omega
        have : (l.take n)[j]? = some l[j] := by rw [List.getElem?_take, if_pos hj]; exact List.getElem?_eq_getElem hjl
        refine hno j l[j] this ?_
        simpa [hjl] using hdj)
    n _ _ _ _ _ _ _ _ _ inv0 hunl
  rw [show n + (l.length - n) = l.toArray.size by simp; omega] at hmain
  exact hmain
theorem Hole.app {Hp : AHeap} {H : AHeap} {B : Bool × Blk} {F : Bool × Blk → AHeap} (h : Hole H B F) : Hole (Hp ++ H) B (fun X => Hp ++ F X) := by
  induction Hp with
  | nil => exact h
  | cons A Hp ih => exact .s ih
def famT : List Bool → AHeap → (Nat → Bool × Blk) → Nat → AHeap
  | b :: bs, B :: H, q, k => (bif b then q k else B) :: famT bs H q (k + 1)
  | _, H, _, _ => H
theorem wpA.drawCF {P : Program} {C : Ctx} {N : Nat} {Q : Exit → AEnv → AHeap → Prop} {σ : AEnv} {H : AHeap} {id : Nat} {l : List Oper} (bs : List Bool) (hm : P.follows .mixedOrders = true) (n : Nat) (ss : List (List (Nat × Nat))) (ci : List Nat)
    (hN : dstOk N l = true) (hB : phiOkC l.toArray n ss = true) (hss : Nat.ble n ss.length = true) (hC : chainOk l.toArray n ss ci = true) (hnd : ci.Nodup)
    (h : chainP P N C σ (fun q : AHeap × (Nat → Bool × Blk) => q.1 ++ famT bs H q.2 0) ci (fun accP => planK P C N σ (fun q : AHeap × (Nat → Bool × Blk) => q.1 ++ famT bs H q.2 0) accP (fun cacc H' => wpB P C N l.toArray Q (l.drop n) (finA (cacc ++ accP) (l.take n) 0 σ) H') (clOf l ss ci) [] H) (l.take n) ss 0 []) :
    wpA P C N (.region id l.toArray true) Q σ H := .drawCK _ hm n ss ci hN hB hss hC hnd h
def chainP0 (P : Program) (N : Nat) (C : Ctx) (σ0 : AEnv) (ci : List Nat) (F : List (Nat × AV) → Prop) : List Oper → List (List (Nat × Nat)) → Nat → List (Nat × AV) → Prop
  | [], _, _, acc => F acc
  | o :: os, s :: ss, k, acc => bif ci.contains k then chainP0 P N C σ0 ci F os ss (k + 1) acc ∨ ∃ r, chainP0 P N C σ0 ci F os ss (k + 1) ((k, r) :: acc) else ∃ r, (∀ H, dutyA P N C σ0 H acc o s r) ∧ chainP0 P N C σ0 ci F os ss (k + 1) ((k, r) :: acc)
  | _ :: _, [], _, _ => False
theorem chainP0.toK {P : Program} {N : Nat} {C : Ctx} {σ0 : AEnv} {ci : List Nat} {F F' : List (Nat × AV) → Prop} (hF : ∀ acc, F acc → F' acc) : ∀ {os : List Oper} {ss : List (List (Nat × Nat))} {k : Nat} {acc : List (Nat × AV)}, chainP0 P N C σ0 ci F os ss k acc → chainP P N C σ0 (fun H => H) ci F' os ss k acc
  | [], _, _, _, h => hF _ h
  | o :: os, s :: ss, k, acc, h => by
    simp only [chainP0] at h
    simp only [chainP]
    cases hb : ci.contains k with
    | true =>
      simp only [hb, cond_true] at h ⊢
      rcases h with h | ⟨r, h⟩
      · exact .inl (h.toK hF)
      · exact .inr ⟨r, h.toK hF⟩
    | false =>
      simp only [hb, cond_false] at h ⊢
      obtain ⟨r, h1, h2⟩ := h
      exact ⟨r, fun Hp => h1 _, h2.toK hF⟩
theorem wpA.drawC {P : Program} {C : Ctx} {N : Nat} {Q : Exit → AEnv → AHeap → Prop} {σ : AEnv} {H : AHeap} {id : Nat} {l : List Oper} (hm : P.follows .mixedOrders = true) (n : Nat) (ss : List (List (Nat × Nat))) (ci : List Nat)
    (hN : dstOk N l = true) (hB : phiOkC l.toArray n ss = true) (hss : Nat.ble n ss.length = true) (hC : chainOk l.toArray n ss ci = true) (hnd : ci.Nodup)
    (h : chainP0 P N C σ ci (fun accP => plan P C N σ accP (fun cacc H' => wpB P C N l.toArray Q (l.drop n) (finA (cacc ++ accP) (l.take n) 0 σ) H') (clOf l ss ci) [] H) (l.take n) ss 0 []) :
    wpA P C N (.region id l.toArray true) Q σ H := (wpA.drawCK (fun H => H) hm n ss ci hN hB hss hC hnd (h.toK fun _ h => h.toK))
end Go.Ab
set_option linter.unusedVariables false
namespace Go.Ab
open Go.Fl Go.RowKit
open Rep (rep)
variable {P : Program} {C : Ctx} {N : Nat} {σ : AEnv} {H : AHeap} {K : AV → Prop} {KH : AV → AHeap → Prop} {d : Option Nat} {ty : TypeId} {ps : String} {af : Array Edge} {g : Option (Nat × Bool)}
variable {x y z : Operand} {T T2 E S D U : TypeId} {o : Oper}
theorem OpH.ofP (h : OpP P N C o σ H (fun r => KH r H)) : OpH P C N o σ H KH := fun ρ I L hs =>
  OpS.ofX (OpX.monoLe (h ρ I L hs) fun v J X hle ⟨hX, r, h1, h2⟩ => by subst hX; exact ⟨hle, r, H, h1, hs.heap.mono hle, h2⟩)
theorem OpH.frzOwn (hC : Ctx.Ok C) {E : TypeId} {α : Type} {r : Rep α} {w : Value} {l : List α} {F : Bool × Blk → AHeap} (h : Hole H (true, .own E w l) F) (k : OpH P C N o σ (F (true, .fz w (.v l))) KH) : OpH P C N o σ H KH := fun ρ I L hs a w0 ha hst => by
  obtain ⟨i, X, h1, h2, h3⟩ := h.get hs.heap
  have hst2 := hst.freeze h1 (frz_ok hC h2)
  have hle : Le I (I.with X) := Im.with_le (fun p hp => hst.mem.sep p (mem_chunk h1 hp))
  have hp : ∀ p ∈ X, I.with X p.1 = some p.2 := fun p hp => Im.with_mem (nodup_chunk hst.mem.nodup h1) hp
  refine Yld.mono (k ρ _ _ ⟨(hs.mono hle).env, h3 _ _ [] hle ⟨⟨rfl, freeze_own h2.1 hle hp⟩, by simp⟩, hs.im0.trans hle⟩ a w0 ha hst2) ?_
  rintro v w' ⟨J, L', q1, q2, q3⟩
  exact ⟨J, L', q1, hle.trans q2, q3⟩
theorem OpH.as (t : Nat) {w : Value} {a : AV} {b : Bool} {F : Bool × Blk → AHeap} (ht : lookA σ t = some (.raw w)) (h : Hole H (b, .fz w a) F) (k : OpH P C N o ((t, a) :: σ) H KH) : OpH P C N o σ H KH :=
  fun ρ I L hs => k ρ I L (hs.as t ht h)
theorem OpP.buildSliceF {α : Type} {r : Rep α} {i0 : Inhabited α} {n : Nat} {l : List α} {parts : Array (Nat × Operand)} (tE : TyIs P E α) (hT : P.underlying T = some (.slice E)) (hp : Elems C σ H 0 parts.toList l) (hn : l.length = n) (hb : n * Rep.size α ≤ 16777216) (k : K (.vc l)) :
    OpP P N C ⟨d, .buildSlice T n parts, ty, ps, af, g⟩ σ H K := fun ρ I L hs => by
  obtain ⟨zs, hz1, hz2⟩ := tE.zero
  obtain ⟨pv, vs, h1, h2, h3⟩ := hp.run hs
  subst hn
  have hl := h3.len
  refine OpX.frz (.buildSlice hT tE.size hz1 (Rep.len (hz2 I)) h1 h2 hl hb fun b J' hle hpp => ⟨rfl, .vc l, ⟨⟨_, rfl⟩, vs, ?_, h3.mono hle⟩, k⟩)
  refine (Own.made (e := E) hl ?_).sl (fun p hp => hpp p (by simpa using hp))
  have : 1 ≤ Rep.size α := Nat.one_le_iff_ne_zero.2 tE.pos
  have := Nat.mul_le_mul_left l.length this
  unfold maxLen; omega
theorem wpB.drop {ops : Array Oper} {Q : Exit → AEnv → AHeap → Prop} {os : List Oper} {B : Bool × Blk} (k : wpB P C N ops Q os σ H) : wpB P C N ops Q os σ (B :: H) := fun ρ I L hs => by
  obtain ⟨X, R, rfl, h1, h2⟩ := hs.heap
  exact wpL.forget (X := [X]) (k ρ I R ⟨hs.env, h2, hs.im0⟩)
theorem wpA.drop {Q : Exit → AEnv → AHeap → Prop} {c : Code} {B : Bool × Blk} (k : wpA P C N c Q σ H) : wpA P C N c Q σ (B :: H) := fun ρ I L hs => by
  obtain ⟨X, R, rfl, h1, h2⟩ := hs.heap
  exact wpS.forget (X := [X]) (k ρ I R ⟨hs.env, h2, hs.im0⟩)
theorem OpP.nilCheckL {α β : Type} {r : Rep α} {s : Rep β} {w : Value} {l : Lens α β} (hx : EvA C σ H x (.ln w l)) (k : K (.ln w l)) : OpP P N C ⟨d, .nilCheck x, ty, ps, af, g⟩ σ H K :=
  .vk k (fun ρ I L hs => by
    obtain ⟨u, h2, b, h3, rfl⟩ := hx ρ I L hs
    exact .mk ⟨b, h3, rfl⟩ fun a w ha hm => by simp [execOp, ha.ev h2])
section slStr
variable {s : Str} {i j : Int} (hT : P.underlying T = some .string) (hx : EvA C σ H x (.v s))
include hT hx
end slStr
section nested
variable {P : Program} {C : Ctx} {N : Nat} {ops : Array Oper} {Q : Exit → AEnv → AHeap → Prop} {rest : List Oper} {σ : AEnv} {H : AHeap}
end nested
end Go.Ab
set_option linter.unusedVariables false
namespace Go.Ab
open Go.Fl Go.RowKit
open Rep (rep)
variable {P : Program} {C : Ctx} {N : Nat} {σ : AEnv} {H : AHeap} {K : AV → Prop} {KH : AV → AHeap → Prop} {d : Option Nat} {ty : TypeId} {ps : String} {af : Array Edge} {g : Option (Nat × Bool)}
variable {x y z : Operand} {T T2 E S D U : TypeId} {o : Oper}
theorem OpP.bS1 {α γ1 : Type} {r : Rep α} {i0 : Inhabited α} {q1 : Rep γ1} {offs : List (Nat × Nat)} {parts : Array (Nat × Operand)} {i1 : Nat} {o1 : Operand} {c1 : γ1} (m1 : Lens α γ1) (hg : Rep.agg α = true) (tT : TyIs P T α) (hT : fieldOffs P T = some offs) (mk : γ1 → α) (hm : ∀ c1, (m1.set c1 (default : α)) = mk c1) (hp : parts.toList = [(i1, o1)]) (h1 : offs[i1]? = some (m1.off, Rep.size γ1)) (e1 : EvA C σ H o1 (.v c1)) (k : K (.v (mk c1))) :
    OpP P N C ⟨d, .build T parts, ty, ps, af, g⟩ σ H K :=
  .buildS (mk c1) hg tT hT (by rw [hp]; exact (.cons m1 c1 h1 e1 .nil)) (hm c1) k
theorem OpP.bS2 {α γ1 γ2 : Type} {r : Rep α} {i0 : Inhabited α} {q1 : Rep γ1} {q2 : Rep γ2} {offs : List (Nat × Nat)} {parts : Array (Nat × Operand)} {i1 : Nat} {o1 : Operand} {i2 : Nat} {o2 : Operand} {c1 : γ1} {c2 : γ2} (m1 : Lens α γ1) (m2 : Lens α γ2) (hg : Rep.agg α = true) (tT : TyIs P T α) (hT : fieldOffs P T = some offs) (mk : γ1 → γ2 → α) (hm : ∀ c1 c2, (m2.set c2 (m1.set c1 (default : α))) = mk c1 c2) (hp : parts.toList = [(i1, o1), (i2, o2)]) (h1 : offs[i1]? = some (m1.off, Rep.size γ1)) (h2 : offs[i2]? = some (m2.off, Rep.size γ2)) (e1 : EvA C σ H o1 (.v c1)) (e2 : EvA C σ H o2 (.v c2)) (k : K (.v (mk c1 c2))) :
    OpP P N C ⟨d, .build T parts, ty, ps, af, g⟩ σ H K :=
  .buildS (mk c1 c2) hg tT hT (by rw [hp]; exact (.cons m1 c1 h1 e1 (.cons m2 c2 h2 e2 .nil))) (hm c1 c2) k
theorem OpP.bS3 {α γ1 γ2 γ3 : Type} {r : Rep α} {i0 : Inhabited α} {q1 : Rep γ1} {q2 : Rep γ2} {q3 : Rep γ3} {offs : List (Nat × Nat)} {parts : Array (Nat × Operand)} {i1 : Nat} {o1 : Operand} {i2 : Nat} {o2 : Operand} {i3 : Nat} {o3 : Operand} {c1 : γ1} {c2 : γ2} {c3 : γ3} (m1 : Lens α γ1) (m2 : Lens α γ2) (m3 : Lens α γ3) (hg : Rep.agg α = true) (tT : TyIs P T α) (hT : fieldOffs P T = some offs) (mk : γ1 → γ2 → γ3 → α) (hm : ∀ c1 c2 c3, (m3.set c3 (m2.set c2 (m1.set c1 (default : α)))) = mk c1 c2 c3) (hp : parts.toList = [(i1, o1), (i2, o2), (i3, o3)]) (h1 : offs[i1]? = some (m1.off, Rep.size γ1)) (h2 : offs[i2]? = some (m2.off, Rep.size γ2)) (h3 : offs[i3]? = some (m3.off, Rep.size γ3)) (e1 : EvA C σ H o1 (.v c1)) (e2 : EvA C σ H o2 (.v c2)) (e3 : EvA C σ H o3 (.v c3)) (k : K (.v (mk c1 c2 c3))) :
    OpP P N C ⟨d, .build T parts, ty, ps, af, g⟩ σ H K :=
  .buildS (mk c1 c2 c3) hg tT hT (by rw [hp]; exact (.cons m1 c1 h1 e1 (.cons m2 c2 h2 e2 (.cons m3 c3 h3 e3 .nil)))) (hm c1 c2 c3) k
theorem OpP.bS4 {α γ1 γ2 γ3 γ4 : Type} {r : Rep α} {i0 : Inhabited α} {q1 : Rep γ1} {q2 : Rep γ2} {q3 : Rep γ3} {q4 : Rep γ4} {offs : List (Nat × Nat)} {parts : Array (Nat × Operand)} {i1 : Nat} {o1 : Operand} {i2 : Nat} {o2 : Operand} {i3 : Nat} {o3 : Operand} {i4 : Nat} {o4 : Operand} {c1 : γ1} {c2 : γ2} {c3 : γ3} {c4 : γ4} (m1 : Lens α γ1) (m2 : Lens α γ2) (m3 : Lens α γ3) (m4 : Lens α γ4) (hg : Rep.agg α = true) (tT : TyIs P T α) (hT : fieldOffs P T = some offs) (mk : γ1 → γ2 → γ3 → γ4 → α) (hm : ∀ c1 c2 c3 c4, (m4.set c4 (m3.set c3 (m2.set c2 (m1.set c1 (default : α))))) = mk c1 c2 c3 c4) (hp : parts.toList = [(i1, o1), (i2, o2), (i3, o3), (i4, o4)]) (h1 : offs[i1]? = some (m1.off, Rep.size γ1)) (h2 : offs[i2]? = some (m2.off, Rep.size γ2)) (h3 : offs[i3]? = some (m3.off, Rep.size γ3)) (h4 : offs[i4]? = some (m4.off, Rep.size γ4)) (e1 : EvA C σ H o1 (.v c1)) (e2 : EvA C σ H o2 (.v c2)) (e3 : EvA C σ H o3 (.v c3)) (e4 : EvA C σ H o4 (.v c4)) (k : K (.v (mk c1 c2 c3 c4))) :
    OpP P N C ⟨d, .build T parts, ty, ps, af, g⟩ σ H K :=
  .buildS (mk c1 c2 c3 c4) hg tT hT (by rw [hp]; exact (.cons m1 c1 h1 e1 (.cons m2 c2 h2 e2 (.cons m3 c3 h3 e3 (.cons m4 c4 h4 e4 .nil))))) (hm c1 c2 c3 c4) k
theorem OpP.bS0 {α : Type} {r : Rep α} {i0 : Inhabited α} {offs : List (Nat × Nat)} (hg : Rep.agg α = true) (tT : TyIs P T α) (hT : fieldOffs P T = some offs) (k : K (.v (default : α))) : OpP P N C ⟨d, .build T #[], ty, ps, af, g⟩ σ H K := .buildS default hg tT hT .nil rfl k
theorem OpP.fldW {β γ : Type} {s : Rep β} {q : Rep γ} {i off sz : Nat} {ag : Bool} {w : Value} (m : Lens β γ) (hf : fieldOff P T i = some (off, sz + 1, ag)) (ho : off = m.off) (hx : EvA C σ H x (.ln w (Lens.id (α := β)))) (k : K (.ln w m)) :
    OpP P N C ⟨d, .fieldAddr T x i, ty, ps, af, g⟩ σ H K :=
  .vk k (fun ρ I L hs => by
    obtain ⟨u, h2, b, h3, rfl⟩ := hx ρ I L hs
    subst ho
    exact .fieldAddr hf h2 ⟨b, h3, by simp [Lens.id]⟩)
theorem OpP.idxW {β : Type} {s : Rep β} {n : Nat} {ag : Bool} {w : Value} {i : Int} (hf : elemOff P T = some (n, Rep.size β, ag)) (hx : EvA C σ H x (.ln w (Lens.id (α := Arr n β)))) (hy : EvA C σ H y (.v i)) (h0 : 0 ≤ i) (h1 : i < n)
    (k : K (.ln w (Lens.idx (α := β) (n := n) i.toNat (by omega)))) : OpP P N C ⟨d, .indexAddr T x y, ty, ps, af, g⟩ σ H K :=
  .vk k (fun ρ I L hs => by
    obtain ⟨u, h2, b, h3, rfl⟩ := hx ρ I L hs
    exact .indexAddrA hf h2 (hy.int hs).1 h0 h1 ⟨b, h3, by simp [Lens.id, Lens.idx]⟩)
theorem OpP.ldF {α β : Type} {r : Rep α} {s : Rep β} {i : Inhabited β} {w : Value} {l : Lens α β} {a : α} {bb : Bool} {F : Bool × Blk → AHeap} (f : α → β) (tT : TyIs P T β) (hx : EvA C σ H x (.ln w l)) (hH : Hole H (bb, .ob w a) F) (hf : ∀ x, l.get x = f x) (k : K (.v (f a))) :
    OpP P N C ⟨d, .load T x, ty, ps, af, g⟩ σ H K := .ldL tT hx hH (hf a ▸ k)
theorem OpH.stF {α β : Type} {r : Rep α} {s : Rep β} {i : Inhabited β} {w : Value} {l : Lens α β} {a : α} {c : β} {bb : Bool} {F : Bool × Blk → AHeap} (f : β → α → α) (tT : TyIs P T β) (hx : EvA C σ H x (.ln w l)) (hy : EvA C σ H y (.v c)) (hH : Hole H (bb, .ob w a) F) (hf : ∀ y x, l.set y x = f y x)
    (k : KH .any (F (bb, .ob w (f c a)))) : OpH P C N ⟨d, .store T x y, ty, ps, af, g⟩ σ H KH := .stL tT hx hy hH (hf c a ▸ k)
theorem OpP.ldEW {α : Type} {r : Rep α} {i : Inhabited α} {w : Value} {ags : List α} {kk : Nat} {bb : Bool} {E' : TypeId} {F : Bool × Blk → AHeap} (tT : TyIs P T α) (hx : EvA C σ H x (.el w kk (Lens.id (α := α)))) (hH : Hole H (bb, .own E' w ags) F) (hk : kk < ags.length)
    (k : K (.v ags[kk])) : OpP P N C ⟨d, .load T x, ty, ps, af, g⟩ σ H K := .ldE tT hx hH hk k
theorem OpH.stEW {α : Type} {r : Rep α} {i : Inhabited α} {w : Value} {ags : List α} {c : α} {kk : Nat} {bb : Bool} {E' : TypeId} {F : Bool × Blk → AHeap} (tT : TyIs P T α) (hx : EvA C σ H x (.el w kk (Lens.id (α := α)))) (hy : EvA C σ H y (.v c))
    (hH : Hole H (bb, .own E' w ags) F) (hk : kk < ags.length) (k : KH .any (F (bb, .own E' w (ags.set kk c)))) : OpH P C N ⟨d, .store T x y, ty, ps, af, g⟩ σ H KH := .stE tT hx hy hH hk k
theorem OpP.fldPF {β γ : Type} {s : Rep β} {q : Rep γ} {i off sz : Nat} {ag : Bool} {a : β} (m : Lens β γ) (f : β → γ) (hf : fieldOff P T i = some (off, sz + 1, ag)) (ho : off = m.off) (hm : ∀ x, m.get x = f x) (hx : EvA C σ H x (.p a)) (k : K (.p (f a))) :
    OpP P N C ⟨d, .fieldAddr T x i, ty, ps, af, g⟩ σ H K := .fldP m hf ho hx (hm a ▸ k)
end Go.Ab
