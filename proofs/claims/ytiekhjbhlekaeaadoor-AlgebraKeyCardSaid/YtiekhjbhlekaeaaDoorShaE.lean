/- The walks of sha.Sum, sha.Of. -/
import Derived.Test.YtiekhjbhlekaeaaDoorShaD
set_option maxRecDepth 1000000
set_option linter.unusedVariables false
namespace Go.Proofs.YtiekhjbhlekaeaaDoor
open Go.Fl Go.Sha
theorem Sum_fun (I : Im) (x : H8) (sv : Value) (r : List UInt8) (len : Nat) (hr : Sl I 1 sv r.length (bytesV r)) (hlen : r.length ≤ 17592186044416) (hlen2 : len ≤ 2305843009213693952) (hkk : Cells I 1 0 (kk.map u32)) :
    Fun Tryd.prog 89 #[.agg (x.cells ++ [sv, i64 (len : Int)]).toArray] I (fun v J => v = .agg (bytesV (digest x r len)).toArray) := by
  obtain ⟨a1, c1, rfl, _, _⟩ := id hr.shape
  generalize hsv : Value.slice a1 r.length c1 = sv at *
  refine Fun.intro (l := [.agg (x.cells ++ [sv, i64 (len : Int)]).toArray]) Tryd.func89 rfl (by kernel_rfl) 72 rfl rfl [(0, .agg (x.cells ++ [sv, i64 (len : Int)]).toArray)] rfl fun C hC => ?_
  refine .seq (.region rfl (.x (.box (cs := x.cells ++ [sv, i64 (len : Int)]) rfl rfl fun b1 => .x (.alloc z28 fun b2 => .nil ?_))))
  refine .seq (.region rfl (.x (.buildSlice (n := 1) (zs := [u8 0]) (vs := [u8 128]) (pv := [(0, u8 128)]) el23.und el23.size z5 rfl rfl rfl rfl (by decide) fun b9 => ?_)))
  refine .v (.assign rfl ?_)
  have hz := padZ_lt r.length
  have hzd : padZ r.length = (119 - r.length % 64) % 64 := rfl
  refine .nil (.seq (.block (.loop (α := Nat × Value × List (Nat × Obj)) (fun x => [(3, x.2.1), (1, ptr b1 0), (2, ptr b2 0)])
    (fun k => [k.2.2, [(b2, row (List.replicate 32 (u8 0)) 28)], [(b1, row (x.cells ++ [sv, i64 (len : Int)]) 115)]])
    (fun k J => k.1 ≤ padZ r.length ∧ Own 5 1 k.2.1 (1 + k.1) (bytesV (128 :: List.replicate k.1 0)) k.2.2) (fun k => padZ r.length - k.1) (0, slc b9 0 1 1, [(b9, row [u8 128] 5)]) ⟨by simp, Own.made rfl (by decide)⟩
    (.cons rfl (.cons rfl (.cons rfl (.nil _)))) rfl fun x1 J1 hJ1 hF => ?_)))
  obtain ⟨k, v, X⟩ := x1
  obtain ⟨hk, hown⟩ := hF
  dsimp only at hk hown ⊢
  obtain ⟨a3, c3, rfl⟩ := id hown.shape
  generalize hvv : Value.slice a3 (1 + k) c3 = v at *
  refine .seq (.seq (.region rfl ?_))
  refine .v (.fieldAddr fd115_1 rfl (.v (.loadL (v := sv) 2 Tryd.underlying23 rfl rfl rfl rfl (.v (.len (a0 := a1) (n := r.length) (c := c1) Tryd.underlying23 (by rw [hsv]; rfl) (.v (.move rfl (.v (.len (a0 := a3) (n := 1 + k) (c := c3) Tryd.underlying23 (by rw [hvv]; rfl) (.v (.add rfl rfl (by omega) (by omega) ?_)))))))))))
  refine .v (.rem rfl rfl (by omega) (by omega) (.v (.neqI rfl rfl ?_)))
  refine .nil (.condP rfl (fun hne => .skip ?_) (fun heq => .exit ?_))
  · have hk2 : k < padZ r.length := by
      rcases Nat.lt_or_ge k (padZ r.length) with h | h
      · exact h
      · exact absurd (show ((r.length : Int) + ((1 + k : Nat) : Int)) % 64 = 56 by omega) hne
    refine .block (.region rfl ?_)
    refine .v (.move rfl ?_)
    refine .x (.buildSlice (n := 1) (zs := [u8 0]) (vs := [u8 0]) (pv := [(0, u8 0)]) el23.und el23.size z5 rfl rfl rfl rfl (by decide) fun b19 => ?_)
    refine .s (.append 1 el23 (by decide) (.inl ⟨_, Tryd.underlying23⟩) rfl rfl rfl hown (.chunk 0 rfl rfl) rfl (by unfold maxLen; omega) (by omega) fun v' X' hown' => ?_)
    refine .v (.assign rfl ?_)
    refine .forget (X := [_]) (.nil ⟨(k + 1, v', X'), .cons rfl (.cons rfl (.cons rfl (.nil _))), rfl, ⟨by dsimp only; omega, ?_⟩, by dsimp only; omega, hJ1⟩)
    have e1 : bytesV (128 :: List.replicate k 0) ++ [u8 0] = bytesV (128 :: List.replicate (k + 1) 0) := by simp [bytesV, List.replicate_succ']
    rw [e1] at hown'
    exact hown'
  · have hk2 : k = padZ r.length := by
      have : ((r.length : Int) + ((1 + k : Nat) : Int)) % 64 = 56 := by
        by_cases h : ((r.length : Int) + ((1 + k : Nat) : Int)) % 64 = 56
        · exact h
        · exact absurd h heq
      omega
    subst hk2
    generalize hp0 : (128 :: List.replicate (padZ r.length) 0 : List UInt8) = p0 at hown
    have hp0l : p0.length = 1 + padZ r.length := by rw [← hp0]; simp; omega
    refine .seq (.region rfl ?_)
    refine .v (.fieldAddr fd115_2 rfl (.v (.loadL (v := i64 (len : Int)) 2 Tryd.underlying3 rfl rfl rfl rfl (.v (.conv64 Tryd.underlying3 Tryd.underlying90 rfl (.v (.mul64 (n := 8) rfl rfl (.v (.assign rfl ?_)))))))))
    generalize hn : UInt64.ofInt (len : Int) * 8 = n
    refine .nil (.seq (.seq (.region rfl ?_)))
    refine .v (.assign rfl ?_)
    refine .nil (.block (.loop (α := Nat × Value × List (Nat × Obj)) (fun x => [(5, i64 (56 - 8 * (x.1 : Int))), (3, x.2.1), (4, u64 n), (1, ptr b1 0), (2, ptr b2 0)])
      (fun k => [k.2.2, [(b2, row (List.replicate 32 (u8 0)) 28)], [(b1, row (x.cells ++ [sv, i64 (len : Int)]) 115)]])
      (fun k J => k.1 ≤ 8 ∧ Own 5 1 k.2.1 (1 + padZ r.length + k.1) (bytesV (p0 ++ be64 n k.1)) k.2.2) (fun k => 8 - k.1) (0, v, X) ⟨by simp, by simpa [be64] using hown⟩
      (.cons rfl (.cons rfl (.cons rfl (.cons rfl (.cons rfl (.nil _)))))) rfl fun x2 J2 hJ2 hF => ?_))
    obtain ⟨k, v2, X2⟩ := x2
    obtain ⟨hk, hown2⟩ := hF
    dsimp only at hk hown2 ⊢
    refine .seq (.seq (.region rfl ?_))
    refine .v (.move rfl (.v (.geq rfl rfl ?_)))
    refine .nil (.condP rfl (fun hge => .skip ?_) (fun hlt => .exit ?_))
    · have hk8 : k < 8 := by omega
      refine .seq (.block (.region rfl ?_))
      refine .v (.move rfl (.v (.move rfl (.v (.move rfl (.v (.shr64 (56 - 8 * k) rfl rfl (by omega) (by omega) (.v (.conv64_8 Tryd.underlying90 Tryd.underlying5 rfl ?_)))))))))
      generalize hq : (n >>> UInt64.ofNat (56 - 8 * k)).toUInt8 = q
      refine .x (.buildSlice (n := 1) (zs := [u8 0]) (vs := [u8 q]) (pv := [(0, u8 q)]) el23.und el23.size z5 rfl rfl rfl rfl (by decide) fun b34 => ?_)
      refine .s (.append 1 el23 (by decide) (.inl ⟨_, Tryd.underlying23⟩) rfl rfl rfl hown2 (.chunk 0 rfl rfl) rfl (by unfold maxLen; omega) (by omega) fun v' X' hown' => ?_)
      refine .v (.assign rfl ?_)
      refine .forget (X := [_]) (.nil (.region rfl ?_))
      refine .v (.move rfl (.v (.sub rfl rfl (by omega) (by omega) (.v (.assign rfl ?_)))))
      refine .nil ⟨(k + 1, v', X'), .cons ?_ (.cons rfl (.cons rfl (.cons rfl (.cons rfl (.nil _))))), rfl, ⟨by dsimp only; omega, ?_⟩, by dsimp only; omega, hJ2⟩
      · exact congrArg (fun q => some (i64 q)) (by dsimp only; omega)
      · have e1 : bytesV (p0 ++ be64 n k) ++ [u8 q] = bytesV (p0 ++ be64 n (k + 1)) := by rw [be64_succ, hq]; simp [bytesV]
        rw [e1] at hown'
        exact hown'
    · have hk2 : k = 8 := by omega
      subst hk2
      have hpl : (pad r.length n).length = 1 + padZ r.length + 8 := by rw [pad_length]; omega
      have hpad : p0 ++ be64 n 8 = pad r.length n := by rw [← hp0]; rfl
      refine .seq (.region rfl (.x (.alloc z28 fun b6 => .nil ?_)))
      refine .freeze 1 rfl (fun p _ hM => by rw [hC] at hM; cases hM) fun J3 hJ3 hp3 => ?_
      have hps : Sl J3 1 v2 (pad r.length n).length (bytesV (pad r.length n)) := by
        have := hown2.sl hp3
        rw [hpad] at this
        rw [hpl]; exact this
      have hI3 := hJ1.trans (hJ2.trans hJ3)
      refine .seq (.seq (.region rfl ?_))
      refine .v (.loadLW (cs := x.cells ++ [sv, i64 (len : Int)]) 3 Tryd.underlying115 rfl sz115 rfl rfl (.v (.move rfl ?_)))
      refine .x (.call rfl rfl (Write_fun J3 x sv r len v2 (pad r.length n) (hr.mono hI3) hps (by omega) (by omega) (hkk.mono hI3)) fun v4 J4 hJ4 hp4 => ?_)
      obtain ⟨sv', rfl, _⟩ := hp4
      have hy : digest x r len = (absorb x (r ++ pad r.length n)).l.flatMap be32 := by rw [← hn]; rfl
      generalize absorb x (r ++ pad r.length n) = y at hy
      refine .v (.fieldA (vs := y.cells) fd115_0 rfl rfl (.v (.move rfl ?_)))
      refine .nil (.block (.loop (α := Nat) (fun k => [(40, i64 k), (39, .agg y.cells.toArray), (6, ptr b6 0), (1, ptr b1 0), (2, ptr b2 0)])
        (fun k => [[(b6, row (outc y k) 28)], [], [(b2, row (List.replicate 32 (u8 0)) 28)], [(b1, row (x.cells ++ [sv, i64 (len : Int)]) 115)]])
        (fun k _ => k ≤ 8) (fun k => 8 - k) 0 (by omega)
        (.cons rfl (.cons rfl (.cons rfl (.cons rfl (.cons rfl (.nil _)))))) rfl fun k J5 hJ5 hk => ?_))
      refine .seq (.region rfl ?_)
      refine .v (.lss rfl rfl ?_)
      refine .nil (.seq (.condP rfl (fun hlt => .skip ?_) (fun hge => .exit ?_)))
      · have hk8 : k < 8 := by omega
        refine .seq (.block (.seq (.region rfl ?_)))
        refine .v (.move rfl (.v (.indexS ar113 rfl rfl (by omega) (by omega) (cells_get y k _ (by simp) hk8) (.v (.assign rfl (.v (.assign rfl ?_)))))))
        refine .nil (.region rfl ?_)
        refine .v (.move rfl (.v (.mul rfl rfl (by omega) (by omega) (.v (.move rfl (.v (.mul rfl rfl (by omega) (by omega) (.v (.add rfl rfl (by omega) (by omega) (.v (.move rfl ?_)))))))))))
        refine .v (.mul rfl rfl (by omega) (by omega) (.v (.add rfl rfl (by omega) (by omega) (.v (.move rfl (.v (.mul rfl rfl (by omega) (by omega) (.v (.add rfl rfl (by omega) (by omega) (.v (.move rfl ?_)))))))))))
        refine .v (.shr32 24 rfl rfl rfl (by decide) (.v (.conv32_8 Tryd.underlying112 Tryd.underlying5 rfl (.v (.move rfl (.v (.shr32 16 rfl rfl rfl (by decide) (.v (.conv32_8 Tryd.underlying112 Tryd.underlying5 rfl (.v (.move rfl ?_)))))))))))
        refine .v (.shr32 8 rfl rfl rfl (by decide) (.v (.conv32_8 Tryd.underlying112 Tryd.underlying5 rfl (.v (.move rfl (.v (.conv32_8 Tryd.underlying112 Tryd.underlying5 rfl (.v (.indexAddrA ar28 rfl rfl (by omega) (by omega) ?_)))))))))
        have hL := outc_length y k (by omega)
        refine .n (.storeS 0 sz5 rfl rfl rfl rfl rfl (by rw [hL]; omega) ?_)
        refine .v (.indexAddrA ar28 rfl rfl (by omega) (by omega) ?_)
        refine .n (.storeS 0 sz5 rfl rfl rfl rfl rfl (by rw [segSet_length _ _ _ (by rw [hL]; simp; omega), hL]; omega) ?_)
        refine .v (.indexAddrA ar28 rfl rfl (by omega) (by omega) ?_)
        refine .n (.storeS 0 sz5 rfl rfl rfl rfl rfl (by rw [segSet_length _ _ _ (by rw [segSet_length _ _ _ (by rw [hL]; simp; omega), hL]; simp; omega), segSet_length _ _ _ (by rw [hL]; simp; omega), hL]; omega) ?_)
        refine .v (.indexAddrA ar28 rfl rfl (by omega) (by omega) ?_)
        refine .n (.storeS 0 sz5 rfl rfl rfl rfl rfl (by rw [segSet_length _ _ _ (by rw [segSet_length _ _ _ (by rw [segSet_length _ _ _ (by rw [hL]; simp; omega), hL]; simp; omega), segSet_length _ _ _ (by rw [hL]; simp; omega), hL]; simp; omega), segSet_length _ _ _ (by rw [segSet_length _ _ _ (by rw [hL]; simp; omega), hL]; simp; omega), segSet_length _ _ _ (by rw [hL]; simp; omega), hL]; omega) (.nil ?_))
        have hset := outc_set y k _ _ _ _ (show 0 + (4 * (k : Int)).toNat * 1 = 4 * k by omega) (show 0 + (4 * (k : Int) + 1).toNat * 1 = 4 * k + 1 by omega) (show 0 + (4 * (k : Int) + 2).toNat * 1 = 4 * k + 2 by omega) (show 0 + (4 * (k : Int) + 3).toNat * 1 = 4 * k + 3 by omega) hk8
        refine .region rfl ?_
        refine .v (.add rfl rfl (by omega) (by omega) (.v (.move rfl ?_)))
        refine .nil ⟨k + 1, .cons rfl (.cons rfl (.cons rfl (.cons rfl (.cons rfl (.nil _))))), ?_, by omega, by omega, hJ5⟩
        exact congrArg (fun c => [[(b6, row c 28)], [], [(b2, row (List.replicate 32 (u8 0)) 28)], [(b1, row (x.cells ++ [sv, i64 (len : Int)]) 115)]]) hset
      · have hk8 : k = 8 := by omega
        subst hk8
        have hL := outc_length y 8 (by omega)
        have ho8 : outc y 8 = bytesV (y.l.flatMap be32) := by simp [outc, H8.l]
        refine .seq (.region rfl ?_)
        refine .v (.loadLW (cs := outc y 8) 0 Tryd.underlying28 rfl (by rw [hL]; exact sz28) rfl rfl ?_)
        refine .n (.storeW 2 32 sz28 rfl rfl hL (ones_map _ _ fun _ => rfl) rfl rfl (.nil (.ret ⟨_, .r1 rfl (.cellA (cs := outc y 8) 2 Tryd.underlying28 rfl (by rw [hL]; exact sz28) rfl rfl), ?_⟩)))
        rw [ho8, hy]
theorem Of_fun (I : Im) (b : Value) (bs : List UInt8) (hb : Sl I 1 b bs.length (bytesV bs)) (hlen : bs.length ≤ 17592186044416) (hkk : Cells I 1 0 (kk.map u32)) :
    Fun Tryd.prog 88 #[b] I (fun v J => v = .agg (bytesV (sha256 bs)).toArray) := by
  refine Fun.intro (l := [b]) Tryd.func88 rfl (by kernel_rfl) 7 rfl rfl [(0, b)] rfl fun C hC => ?_
  refine .seq (.region rfl (.x (.alloc z28 fun b2 => .nil ?_)))
  refine .seq (.region rfl (.x (.lendIs rfl rfl (fun J _ _ => New_fun J) ?_)))
  refine .v (.move rfl ?_)
  refine .x (.call rfl rfl (Write_fun I iv (.slice none 0 0) [] 0 b bs (Sl.nil _ _) hb (by simp; omega) (by omega) hkk) fun v J hJ hp => ?_)
  simp only [List.nil_append, Nat.zero_add] at hp
  obtain ⟨sv', rfl, hsv⟩ := hp
  have hrl : (rest bs).length ≤ bs.length := by simp [rest]
  refine .x (.lendIs rfl rfl (fun J2 hJ2 _ => Sum_fun J2 (absorb iv bs) sv' (rest bs) bs.length (hsv.mono hJ2) (by omega) (by omega) (hkk.mono (hJ.trans hJ2))) ?_)
  have hdl : (bytesV (sha256 bs)).length = 32 := by
    rw [bytesV_length, sha256, digest, flat_length, H8.length]
  refine .n (.storeW 0 32 sz28 rfl rfl hdl (ones_map _ _ fun _ => rfl) rfl rfl (.nil (.ret ⟨_, .r1 rfl (.cellA (cs := bytesV (sha256 bs)) 0 Tryd.underlying28 rfl (by rw [hdl]; exact sz28) rfl rfl), rfl⟩)))
end Go.Proofs.YtiekhjbhlekaeaaDoor
