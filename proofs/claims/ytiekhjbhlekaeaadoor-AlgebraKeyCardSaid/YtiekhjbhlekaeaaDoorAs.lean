/- Walks of the reference's streams and boxes. -/
import Derived.Test.YtiekhjbhlekaeaaDoorAd
import Derived.Test.YtiekhjbhlekaeaaDoorAc
set_option maxRecDepth 1000000
set_option linter.unusedVariables false
set_option linter.unusedSimpArgs false
namespace Go.Proofs.YtiekhjbhlekaeaaDoor
open Go.Fl Go.Ab Go.Mac Go.Sha
theorem Word_c (s : Str) (b : List UInt8) (hs : s.l.length ≤ 1000) (hb : b.length ≤ 1000000) : FunA gl Tryd.prog 65 [.v s, .v b] (fun r => r = .v (s.l ++ b)) := by
  refine FunA.intro Tryd.func65 rfl (by kernel_rfl) 9 rfl rfl _ rfl fun C hC hG => ?_
  refine .seq ?_
  refine .region rfl ?_
  refine .p (.assign (.nilS (α := UInt8)) ?_)
  refine .nil ?_
  refine .seq ?_
  refine .region rfl ?_
  refine .p (.move (.t rfl) (.h (.strBytes Tryd.underlying9 Tryd.underlying23 Tryd.underlying5 (.t rfl) fun w6 => .p (.move (.t rfl) (.h (.append st23 (.inl ⟨_, Tryd.underlying23⟩) rfl .z (.v (.t rfl)) (by first | omega | (simp; done) | (simp; omega) | (simp at *; omega)) (by first | omega | (simp; done) | (simp; omega) | (simp at *; omega)) (fun w8 => .p (.assign (.t rfl) ?_)) rfl))))))
  refine .nil ?_
  refine .frzOwn hC .z ?_
  refine .as 4 rfl .z ?_
  refine .ret ?_
  refine ⟨_, .r1 rfl (.tmp rfl), ?_⟩
  rfl
theorem sh_ofInt (j : Nat) (h : j < 8) : UInt64.ofInt (56 - 8 * (j : Int)) = UInt64.ofNat (56 - 8 * j) := by
  apply UInt64.toNat_inj.1
  have := be64_sh j h
  rw [UInt64.toNat_ofNat']
  omega
theorem eightOwn_c (n : UInt64) : FunH gl Tryd.prog 62 [.v n] [] (fun r Hs => ∃ u, r = .raw u ∧ Hs = [.own 5 u (be64 n 8)]) := by
  refine FunH.introD Tryd.func62 rfl (by kernel_rfl) 18 rfl rfl _ rfl _ rfl fun C hC hG => ?_
  refine .seq ?_
  refine .region rfl ?_
  refine .p (.assign .raw ?_)
  refine .nil ?_
  refine .seq ?_
  refine .region rfl ?_
  refine .p (.assign .raw ?_)
  refine .nil ?_
  refine .seq ?_
  refine .seq ?_
  refine .nilOwn 5 UInt8 ?_
  refine .region rfl ?_
  refine .p (.assign (.i rfl) ?_)
  refine .nil ?_
  refine .block ?_
  refine .loopR (α := Nat × Value) [(0, _)] (fun x R => (3, .raw x.2) :: (4, .v (56 - 8 * (x.1 : Int))) :: R) (fun x => [(true, .own 5 x.2 (be64 n x.1))]) (fun x => x.1 ≤ 8) (fun x => 8 - x.1) ((0, .slice none 0 0)) (.cons rfl (.nil _)) ?_ (.cons rfl (.cons rfl (.cons rfl (.nil _)))) (rfl) fun x hF => ?_
  · simp
  obtain ⟨j, w⟩ := x
  dsimp only at hF ⊢
  refine .seq ?_
  refine .seq ?_
  refine .region rfl ?_
  refine .p (.move (.t rfl) (.p (.geq (.t rfl) (.i rfl) ?_)))
  refine .nil ?_
  refine .condP (.t rfl) (fun hc6 => ?_) (fun hc6 => ?_)
  · refine .skip ?_
    refine .seq ?_
    refine .block ?_
    have hbe := be64_length n j
    have hs5 := be64_sh j (by omega)
    refine .region rfl ?_
    refine .p (.move (.t rfl) (.p (.move (.t rfl) (.p (.move (.t rfl) (.p (.conv64 Tryd.underlying3 Tryd.underlying119 (.t rfl) (.p (.shr64 (.t rfl) (.t rfl) (by first | omega | (simp; done) | (simp; omega) | (simp at *; omega)) (by first | omega | (simp; done) | (simp; omega) | (simp at *; omega)) (.p (.conv64_8 Tryd.underlying90 Tryd.underlying5 (.t rfl) ?_)))))))))))
    refine .h (.buildSlice (α := UInt8) ty5 Tryd.underlying23 (.cons (.t rfl) .nil) rfl (by decide) fun b15 => .h (.append st23 (.inl ⟨_, Tryd.underlying23⟩) rfl (.s .z) (.own rfl .z) (by first | omega | (simp; done) | (simp; omega) | (simp at *; omega)) (by first | omega | (simp; done) | (simp; omega) | (simp at *; omega)) (fun w16 => .p (.assign (.t rfl) ?_)) rfl))
    refine .drop ?_
    refine .nil ?_
    refine .region rfl ?_
    refine .p (.move (.t rfl) (.p (.sub (.t rfl) (.i rfl) (by first | omega | (simp; done) | (simp; omega) | (simp at *; omega)) (by first | omega | (simp; done) | (simp; omega) | (simp at *; omega)) (.p (.assign (.t rfl) ?_)))))
    refine .nil ?_
    refine ⟨(j + 1, w16), .cons rfl (.cons (congrArg (fun q => some (AV.v q)) (by dsimp only; omega)) (.cons rfl (.nil _))), congrArg (fun q => [(true, Blk.own _ _ q)]) (by dsimp only; rw [be64_succ, ← sh_ofInt j (by omega)]), ?_, by dsimp only; omega⟩
    dsimp only; omega
  · refine .exit ?_
    refine .seq ?_
    refine .region rfl ?_
    refine .p (.move (.t rfl) (.p (.assign (.t rfl) ?_)))
    refine .nil ?_
    refine .ret ?_
    refine ⟨_, .r1 rfl (.tmp rfl), ?_⟩
    obtain rfl : j = 8 := by omega
    exact ⟨0, _, rfl, rfl⟩
def streamStr : Str := ⟨[115, 116, 114, 101, 97, 109]⟩
def keyBlock (key : Tag) (nonce : UInt64) (q : Nat) : Tag := hmac key.l (streamStr.l ++ (be64 nonce 8 ++ be64 (UInt64.ofNat q) 8))
def streamByte (key : Tag) (nonce : UInt64) (i : Nat) : UInt8 := (keyBlock key nonce (i / 32)).l.getD (i % 32) 0
def streamL (key : Tag) (nonce : UInt64) (b : List UInt8) (k : Nat) : List UInt8 := (b.take k).mapIdx (fun i c => c ^^^ streamByte key nonce i) ++ b.drop k
theorem streamL_length (key : Tag) (nonce : UInt64) (b : List UInt8) (k : Nat) : (streamL key nonce b k).length = b.length := by simp [streamL]; omega
theorem streamL_all (key : Tag) (nonce : UInt64) (b : List UInt8) : streamL key nonce b b.length = b.mapIdx (fun i c => c ^^^ streamByte key nonce i) := by simp [streamL]
theorem streamL_get (key : Tag) (nonce : UInt64) (b : List UInt8) (k : Nat) (hk : k < b.length) (h : k < (streamL key nonce b k).length) : (streamL key nonce b k)[k] = b[k] := by
  simp only [streamL]
  rw [List.getElem_append_right (by simp; omega)]
  simp
  congr 1; omega
theorem streamL_succ (key : Tag) (nonce : UInt64) (b : List UInt8) (k : Nat) (hk : k < b.length) : (streamL key nonce b k).set k (b[k] ^^^ streamByte key nonce k) = streamL key nonce b (k + 1) := by
  apply List.ext_getElem (by simp [streamL_length])
  intro j h1 h2
  rw [List.getElem_set]
  simp only [streamL]
  by_cases e : k = j
  · subst e
    rw [if_pos rfl, List.getElem_append_left (by simp; omega)]
    simp
  · rw [if_neg e]
    rcases Nat.lt_or_ge j k with h | h
    · rw [List.getElem_append_left (by simp; omega), List.getElem_append_left (by simp; omega)]
      simp
    · rw [List.getElem_append_right (by simp; omega), List.getElem_append_right (by simp; omega)]
      simp
      congr 1; omega
theorem stream_step (key : Tag) (nonce : UInt64) (b : List UInt8) (k : Nat) (hk : k < b.length) (h1 : (k : Int).toNat < (streamL key nonce b k).length) (h2 : ((k : Int) % 32).toNat < 32) :
    (streamL key nonce b k).set (k : Int).toNat ((streamL key nonce b k)[(k : Int).toNat] ^^^ (Lens.idx ((k : Int) % 32).toNat h2).get (hmac key.l (streamStr.l ++ (be64 nonce 8 ++ be64 (UInt64.ofInt ((k : Int) / 32)) 8)))) = streamL key nonce b (k + 1) := by
  rw [← streamL_succ key nonce b k hk]
  have e1 : (streamL key nonce b k)[(k : Int).toNat] = b[k] := streamL_get key nonce b k hk h1
  have e2 : UInt64.ofInt ((k : Int) / 32) = UInt64.ofNat (k / 32) := by
    apply UInt64.toNat_inj.1
    rw [show (k : Int) / 32 = ((k / 32 : Nat) : Int) by omega]
    simp [UInt64.ofInt]; omega
  have e3 : (Lens.idx ((k : Int) % 32).toNat h2).get (hmac key.l (streamStr.l ++ (be64 nonce 8 ++ be64 (UInt64.ofInt ((k : Int) / 32)) 8))) = streamByte key nonce k := by
    rw [e2]
    show (keyBlock key nonce (k / 32)).l[((k : Int) % 32).toNat]'_ = _
    unfold streamByte
    have h3 : ((k : Int) % 32).toNat = k % 32 := by omega
    have h4 : k % 32 < (keyBlock key nonce (k / 32)).l.length := by rw [Arr.len]; omega
    simp only [h3]
    rw [List.getD_eq_getElem?_getD, List.getElem?_eq_getElem h4]; rfl
  rw [e1, e3]; rfl
theorem rStream_c (key : Tag) (nonce : UInt64) (b : List UInt8) (hb : b.length ≤ 1000000) : FunA gl Tryd.prog 64 [.v key, .v nonce, .v b] (fun r => r = .v (streamL key nonce b b.length)) := by
  refine FunA.intro Tryd.func64 rfl (by kernel_rfl) 42 rfl rfl _ rfl fun C hC hG => ?_
  refine .seq ?_
  refine .region rfl ?_
  refine .h (.box (.t rfl) fun b3 => .p (.assign (.nilS (α := UInt8)) ?_))
  refine .nil ?_
  refine .seq ?_
  refine .frzOb hC .z ?_
  refine .asP 3 rfl .z ?_
  refine .region rfl ?_
  refine .h (.buildSlice (α := UInt8) ty5 Tryd.underlying23 .nil rfl (by decide) fun b10 => .p (.move (.t rfl) (.h (.append st23 (.inl ⟨_, Tryd.underlying23⟩) rfl .z (.v (.t rfl)) (by first | omega | (simp; done) | (simp; omega) | (simp at *; omega)) (by first | omega | (simp; done) | (simp; omega) | (simp at *; omega)) (fun w12 => .p (.assign (.t rfl) ?_)) rfl))))
  refine .nil ?_
  refine .seq ?_
  refine .seq ?_
  refine .region rfl ?_
  refine .p (.assign (.i rfl) ?_)
  refine .nil ?_
  refine .block ?_
  refine .loopR (α := Nat) [(1, _), (3, _), (7, _)] (fun k R => (8, .v (k : Int)) :: R) (fun k => [(true, .own 5 w12 (streamL key nonce b k)), (true, .fz (ptr b3 0) (.p key))]) (fun k => k ≤ b.length) (fun k => b.length - k) (0) (.cons rfl (.cons rfl (.cons rfl (.nil _)))) ?_ (.cons rfl (.cons rfl (.cons rfl (.cons rfl (.nil _))))) (rfl) fun k hF => ?_
  · simp
  have hl0 := streamL_length key nonce b k
  refine .seq ?_
  refine .seq ?_
  refine .region rfl ?_
  refine .p (.move (.t rfl) (.p (.move (.t rfl) (.p (.lenOwn Tryd.underlying23 rfl .z (.p (.lss (.t rfl) (.t rfl) ?_)))))))
  refine .nil ?_
  refine .condP (.t rfl) (fun hc16 => ?_) (fun hc16 => ?_)
  · refine .skip ?_
    refine .seq ?_
    refine .block ?_
    refine .seq ?_
    have hb1 := be64_length nonce 8
    have hb2 := be64_length (UInt64.ofInt ((k : Int) / 32)) 8
    have hl5 := streamL_length key nonce b k
    refine .drawZ [[false, false], [false, false], [false, false], [false, false]] [[false, false], [false, false], [], [false, false], [false, false], [false, false], [false, false], [], [], [false, false], []] [[], [], [], [9]] [(10, (⟨(Arr 32 UInt8), inferInstance, default⟩ : AT))] 3 (by kernel_rfl) 11 [[], [], [(20, 1)], [], [(22, 3)], [(23, 4)], [(24, 5)], [(21, 2), (25, 6)], [(26, 7)], [(19, 0), (27, 8)], []] [2, 7, 8] rfl (by kernel_rfl) rfl (by kernel_rfl) rfl (by decide) (by simp) (List.forall_mem_cons.2 ⟨fun o ho => by obtain rfl := Option.some.inj (show some _ = some o from ho); exact ⟨rfl, fun _ _ => OpH.alloc ty28 fun b => ⟨b, rfl, rfl⟩⟩, (fun p hp => by cases hp)⟩) (by kernel_rfl) rfl ?_
    refine ⟨_, fun H => OpP.slArrP (by decide) ar28 (.t rfl) rfl, ?_⟩
    refine ⟨_, fun H => OpP.move (.t rfl) rfl, ?_⟩
    refine .inl ?_
    refine ⟨_, fun H => OpP.move (.t rfl) rfl, ?_⟩
    refine ⟨_, fun H => OpP.quo (.t rfl) (.i rfl) (by first | omega | (simp; done) | (simp; omega) | (simp at *; omega)) (by first | omega | (simp; done) | (simp; omega) | (simp at *; omega)) rfl, ?_⟩
    refine ⟨_, fun H => OpP.conv64 Tryd.underlying3 Tryd.underlying90 (.t rfl) rfl, ?_⟩
    refine ⟨_, fun H => OpP.call1 hG (Eight_c _) (.cons (.t rfl) .nil) rfl, ?_⟩
    refine .inl ?_
    refine .inl ?_
    refine .inl ?_
    refine .inl ?_
    refine ⟨rfl, ?_⟩
    refine ⟨⟨fun k => List.getD [(true, .none_), (true, .none_)] k (true, .none_), rfl⟩, fun Ys5 => ?_⟩
    refine OpH.call0 hG (eightOwn_c _) (.cons (.t rfl) .nil) fun r21 Hs21 hr21 => ?_
    obtain ⟨u21, rfl, rfl⟩ := hr21
    refine ⟨[_], _, rfl, ?_⟩
    refine ⟨⟨fun k => List.getD [(true, .none_), (true, .none_)] k (true, .none_), rfl⟩, fun Ys5 => ?_⟩
    refine OpH.append st23 (.inl ⟨_, Tryd.underlying23⟩) rfl .z (.v (.t rfl)) (by first | omega | (simp; done) | (simp; omega) | (simp at *; omega)) (by first | omega | (simp; done) | (simp; omega) | (simp at *; omega)) (fun w26 => ?_) rfl
    refine ⟨[_], _, rfl, ?_⟩
    refine ⟨⟨fun k => List.getD [(true, .none_), (true, .none_)] k (true, .none_), rfl⟩, fun Ys5 => ?_⟩
    refine OpH.frzOwn hC .z (OpH.as 26 rfl .z (OpH.ofP (OpP.call1 hG (Word_c _ _ (by first | omega | (simp; done) | (simp; omega) | (simp at *; omega)) (by first | omega | (simp; done) | (simp; omega) | (simp at *; omega))) (.cons (.s [115, 116, 114, 101, 97, 109] (by decide) (by decide)) (.cons (.t rfl) .nil)) ?_)))
    refine ⟨[_], _, rfl, ?_⟩
    refine ⟨_, fun H => OpP.call1 hG (rHmac_c _ _ (by first | omega | (simp; done) | (simp; omega) | (simp at *; omega)) (by first | omega | (simp; done) | (simp; omega) | (simp at *; omega))) (.cons (.t rfl) (.cons (.t rfl) .nil)) rfl, ?_⟩
    refine ⟨⟨fun k => List.getD [(true, .none_), (true, .none_)] k (true, .none_), rfl⟩, fun ws5 => ?_⟩
    refine ⟨⟨fun k => List.getD [(true, .none_), (true, .none_)] k (true, .none_), rfl⟩, fun _ => ?_⟩
    show wpB _ _ _ _ _ _ ((9, _) :: (28, _) :: (27, _) :: (26, _) :: (25, _) :: (24, _) :: (23, _) :: (22, _) :: (21, _) :: (20, _) :: (19, _) :: _) _
    refine .n (.stW ty28 (.t rfl) (.t rfl) (.s .z) ?_)
    refine .nil ?_
    have hl6 := streamL_length key nonce b k
    refine .draw (by kernel_rfl) 12 [[], [], [], [], [(31, 2), (32, 3)], [(33, 4)], [], [(35, 6)], [(36, 7)], [(37, 8)], [(34, 5), (38, 9)], [(29, 0), (30, 1)]] rfl (by kernel_rfl) rfl ?_
    refine ⟨_, OpP.move (.t rfl) rfl, ?_⟩
    refine ⟨_, OpP.move (.t rfl) rfl, ?_⟩
    refine ⟨_, OpP.move (.t rfl) rfl, ?_⟩
    refine ⟨_, OpP.move (.t rfl) rfl, ?_⟩
    refine ⟨_, OpP.idxOwn ty5 Tryd.underlying23 rfl (.s (.s .z)) (.t rfl) (by first | omega | (simp; done) | (simp; omega) | (simp at *; omega)) (by first | omega | (simp; done) | (simp; omega) | (simp at *; omega)) rfl, ?_⟩
    refine ⟨_, OpP.ldEW ty5 (.t rfl) (.s (.s .z)) (by first | omega | (simp; done) | (simp; omega) | (simp at *; omega)) rfl, ?_⟩
    refine ⟨_, OpP.move (.t rfl) rfl, ?_⟩
    refine ⟨_, OpP.rem (.t rfl) (.i rfl) (by first | omega | (simp; done) | (simp; omega) | (simp at *; omega)) (by first | omega | (simp; done) | (simp; omega) | (simp at *; omega)) rfl, ?_⟩
    refine ⟨_, OpP.idxW ar28 (.t rfl) (.t rfl) (by first | omega | (simp; done) | (simp; omega) | (simp at *; omega)) (by first | omega | (simp; done) | (simp; omega) | (simp at *; omega)) rfl, ?_⟩
    refine ⟨_, OpP.ldL ty5 (.t rfl) (.s .z) rfl, ?_⟩
    refine ⟨_, OpP.xor8 (.t rfl) (.t rfl) rfl, ?_⟩
    refine ⟨_, OpP.idxOwn ty5 Tryd.underlying23 rfl (.s (.s .z)) (.t rfl) (by first | omega | (simp; done) | (simp; omega) | (simp at *; omega)) (by first | omega | (simp; done) | (simp; omega) | (simp at *; omega)) rfl, ?_⟩
    show wpB _ _ _ _ _ _ ((40, _) :: (39, _) :: (38, _) :: (37, _) :: (36, _) :: (35, _) :: (34, _) :: (33, _) :: (32, _) :: (31, _) :: (30, _) :: (29, _) :: _) _
    refine .n (.stEW ty5 (.t rfl) (.t rfl) (.s (.s .z)) (by first | omega | (simp; done) | (simp; omega) | (simp at *; omega)) ?_)
    refine .drop ?_
    refine .drop ?_
    refine .nil ?_
    refine .region rfl ?_
    refine .p (.move (.t rfl) (.p (.add (.t rfl) (.i rfl) (by first | omega | (simp; done) | (simp; omega) | (simp at *; omega)) (by first | omega | (simp; done) | (simp; omega) | (simp at *; omega)) (.p (.assign (.t rfl) ?_)))))
    refine .nil ?_
    refine ⟨k + 1, .cons rfl (.cons rfl (.cons rfl (.cons rfl (.nil _)))), congrArg (fun q => [(true, Blk.own _ _ q), _]) (stream_step key nonce b k (by omega) _ _), ?_, by omega⟩
    omega
  · refine .exit ?_
    refine .seq ?_
    refine .region rfl ?_
    refine .p (.move (.t rfl) (.p (.assign (.t rfl) ?_)))
    refine .nil ?_
    refine .frzOwn hC .z ?_
    refine .as 6 rfl .z ?_
    refine .ret ?_
    refine ⟨_, .r1 rfl (.tmp rfl), ?_⟩
    obtain rfl : k = b.length := by omega
    rfl
theorem wordOwn_c (s : Str) (b : List UInt8) (hs : s.l.length ≤ 1000) (hb : b.length ≤ 1000000) : FunH gl Tryd.prog 65 [.v s, .v b] [] (fun r Hs => ∃ u, r = .raw u ∧ Hs = [.own 5 u (s.l ++ b)]) := by
  refine FunH.introS Tryd.func65 rfl (by kernel_rfl) 9 rfl rfl _ rfl _ rfl fun C hC hG => ?_
  refine .seq ?_
  refine .region rfl ?_
  refine .p (.assign (.nilS (α := UInt8)) ?_)
  refine .nil ?_
  refine .seq ?_
  refine .region rfl ?_
  refine .p (.move (.t rfl) (.h (.strBytes Tryd.underlying9 Tryd.underlying23 Tryd.underlying5 (.t rfl) fun w6 => .p (.move (.t rfl) (.h (.append st23 (.inl ⟨_, Tryd.underlying23⟩) rfl .z (.v (.t rfl)) (by first | omega | (simp; done) | (simp; omega) | (simp at *; omega)) (by first | omega | (simp; done) | (simp; omega) | (simp at *; omega)) (fun w8 => .p (.assign (.t rfl) ?_)) rfl))))))
  refine .nil ?_
  refine .ret ?_
  refine ⟨_, .r1 rfl (.tmp rfl), ?_⟩
  refine ⟨_, .cons .z (.nil), ?_⟩
  exact ⟨w8, rfl, rfl⟩
def boxStr : Str := ⟨[98, 111, 120]⟩
def sealEq (k : Tag) (n : Int) (p : List UInt8) (x : G_api_Sealed) : Bool := decide (x.Key = k) && decide (x.Nonce = n) && decide (x.Plain = p)
def sealHead (k : Tag) (n : Int) (p : List UInt8) : List UInt8 := be64 (UInt64.ofInt n) 8 ++ streamL k (UInt64.ofInt n) p p.length
def realBox (k : Tag) (n : Int) (p : List UInt8) : List UInt8 := sealHead k n p ++ (hmac k.l (boxStr.l ++ sealHead k n p)).l
def newBox (a : Alg) (k : Tag) (n : Int) (p : List UInt8) : List UInt8 := if a.Free then (symTag 98 (a.Boxes.length + 1)).l ++ List.replicate (p.length + 8) 0 else realBox k n p
def algSeal (a : Alg) (k : Tag) (n : Int) (p : List UInt8) : Alg × List UInt8 × Int :=
  if n < 0 ∨ 281474976710656 < n then (default, [], 1) else if 256 < p.length then (default, [], 2) else
  match a.Boxes.find? (sealEq k n p) with
  | some x => (a, x.Box, 0)
  | none => if 65536 ≤ a.Boxes.length then (default, [], 2) else
    (⟨a.Free, a.Seed, a.Fresh, a.Macs, a.Boxes ++ [⟨k, n, p, newBox a k n p⟩]⟩, newBox a k n p, 0)
theorem algSeal_range {a : Alg} {k : Tag} {n : Int} {p : List UInt8} (h : (decide (n < 0) || decide (281474976710656 < n)) = true) : algSeal a k n p = (default, [], 1) := by
  unfold algSeal; rw [if_pos (by simpa using h)]
theorem algSeal_long {a : Alg} {k : Tag} {n : Int} {p : List UInt8} (h : (decide (n < 0) || decide (281474976710656 < n)) = false) (h2 : 256 < p.length) : algSeal a k n p = (default, [], 2) := by
  unfold algSeal; rw [if_neg (by simp at h ⊢; omega), if_pos h2]
theorem algSeal_found {a : Alg} {k : Tag} {n : Int} {p : List UInt8} {x : G_api_Sealed} (h : (decide (n < 0) || decide (281474976710656 < n)) = false) (h2 : ¬ 256 < p.length) (h3 : a.Boxes.find? (sealEq k n p) = some x) : algSeal a k n p = (a, x.Box, 0) := by
  unfold algSeal; rw [if_neg (by simp at h ⊢; omega), if_neg h2, h3]
theorem algSeal_full {a : Alg} {k : Tag} {n : Int} {p : List UInt8} (h : (decide (n < 0) || decide (281474976710656 < n)) = false) (h2 : ¬ 256 < p.length) (h3 : a.Boxes.find? (sealEq k n p) = none) (h4 : 65536 ≤ a.Boxes.length) : algSeal a k n p = (default, [], 2) := by
  unfold algSeal; rw [if_neg (by simp at h ⊢; omega), if_neg h2, h3]; simp only []; rw [if_pos h4]
theorem algSeal_new {a : Alg} {k : Tag} {n : Int} {p : List UInt8} (h : (decide (n < 0) || decide (281474976710656 < n)) = false) (h2 : ¬ 256 < p.length) (h3 : a.Boxes.find? (sealEq k n p) = none) (h4 : ¬ 65536 ≤ a.Boxes.length) :
    algSeal a k n p = (⟨a.Free, a.Seed, a.Fresh, a.Macs, a.Boxes ++ [⟨k, n, p, newBox a k n p⟩]⟩, newBox a k n p, 0) := by
  unfold algSeal; rw [if_neg (by simp at h ⊢; omega), if_neg h2, h3]; simp only []; rw [if_neg h4]
theorem newBox_free {a : Alg} {k : Tag} {n : Int} {p : List UInt8} (h : a.Free = true) : newBox a k n p = (symTag 98 (a.Boxes.length + 1)).l ++ List.replicate (p.length + 8) 0 := by unfold newBox; rw [if_pos h]
theorem newBox_real {a : Alg} {k : Tag} {n : Int} {p : List UInt8} (h : a.Free = false) : newBox a k n p = realBox k n p := by unfold newBox; rw [if_neg (by rw [h]; decide)]
theorem findS_some {l : List G_api_Sealed} {p : G_api_Sealed → Bool} {k : Nat} (h : k < l.length) (h1 : p l[k] = true) (h2 : ∀ j (hj : j < l.length), j < k → p l[j] = false) : l.find? p = some l[k] :=
  List.find?_eq_some_iff_getElem.2 ⟨h1, k, h, rfl, fun j hj => by rw [h2 j (by omega) hj]; rfl⟩
theorem findS_none {l : List G_api_Sealed} {p : G_api_Sealed → Bool} (h : ∀ j (hj : j < l.length), p l[j] = false) : l.find? p = none :=
  List.find?_eq_none.2 fun x hx => by
    obtain ⟨j, hj, rfl⟩ := List.getElem_of_mem hx
    rw [h j hj]; decide
theorem rSeal_c (a : Alg) (k : Tag) (n : Int) (p : List UInt8) (hb : ∀ x ∈ a.Boxes, x.Box.length ≤ 1000000) : FunA gl Tryd.prog 37 [.v a, .v k, .v n, .v p] (fun r => r = .t3 (.v (algSeal a k n p).1) (.v (algSeal a k n p).2.1) (.v (algSeal a k n p).2.2)) := by
  refine FunA.intro Tryd.func37 rfl (by kernel_rfl) 111 rfl rfl _ rfl fun C hC hG => ?_
  refine .seq ?_
  refine .region rfl ?_
  refine .h (.box (.t rfl) fun b4 => .h (.box (.t rfl) fun b5 => .h (.alloc ty32 fun b8 => .p (.assign (.nilS (α := UInt8)) (.p (.assign (.i rfl) ?_))))))
  refine .nil ?_
  refine .seq ?_
  refine .seq ?_
  refine .frzOb hC (.s .z) ?_
  refine .asP 5 rfl (.s .z) ?_
  refine .region rfl ?_
  refine .p (.move (.t rfl) (.p (.lss (.t rfl) (.i rfl) (.p (.move (.t rfl) ?_)))))
  refine .go 18 rfl (.t rfl) (fun hg19 => .move (.t rfl) rfl) ?_
  refine .go 18 rfl (.t rfl) (fun hg20 => .gtr (.o rfl (beq_iff_eq.2 hg20)) (.i rfl) rfl) ?_
  refine .p (.pickOr (.t rfl) (fun hp => (.o rfl (beq_iff_eq.2 hp))) ?_)
  refine .nil ?_
  refine .cond (.t rfl) (fun hc21 => ?_) (fun hc21 => ?_)
  · refine .seq ?_
    refine .region rfl ?_
    refine .p (.bS0 (α := G_api_Algebra) rfl ty32 fo32 (.n (.stW ty32 (.t rfl) (.t rfl) .z (.p (.assign (.nilS (α := UInt8)) (.p (.assign (.i rfl) ?_)))))))
    refine .nil ?_
    refine .ret ?_
    refine ⟨_, .r3 rfl (.cell ty32 rfl .z) (.tmp rfl) (.tmp rfl), ?_⟩
    rw [algSeal_range hc21]
  · refine .skip ?_
    refine .seq ?_
    refine .seq ?_
    refine .region rfl ?_
    refine .p (.move (.t rfl) (.p (.len Tryd.underlying23 (.t rfl) (.p (.gtr (.t rfl) (.i rfl) ?_)))))
    refine .nil ?_
    refine .condP (.t rfl) (fun hc25 => ?_) (fun hc25 => ?_)
    · refine .seq ?_
      refine .region rfl ?_
      refine .p (.bS0 (α := G_api_Algebra) rfl ty32 fo32 (.n (.stW ty32 (.t rfl) (.t rfl) .z (.p (.assign (.nilS (α := UInt8)) (.p (.assign (.i rfl) ?_)))))))
      refine .nil ?_
      refine .ret ?_
      refine ⟨_, .r3 rfl (.cell ty32 rfl .z) (.tmp rfl) (.tmp rfl), ?_⟩
      rw [algSeal_long hc21 (by omega)]
    · refine .skip ?_
      refine .seq ?_
      refine .seq ?_
      refine .region rfl ?_
      refine .p (.assign (.i rfl) ?_)
      refine .nil ?_
      refine .block ?_
      refine .loopR (α := Nat) [(2, _), (3, _), (4, _), (5, _), (8, _)] (fun i R => (11, .v (i : Int)) :: R) (fun i => [(true, .ob (ptr b8 0) (default : Alg)), (true, .fz (ptr b5 0) (.p k)), (true, .ob (ptr b4 0) a)]) (fun i => i ≤ a.Boxes.length ∧ ∀ j (hj : j < a.Boxes.length), j < i → sealEq k n p a.Boxes[j] = false) (fun i => a.Boxes.length - i) (0) (.cons rfl (.cons rfl (.cons rfl (.cons rfl (.cons rfl (.nil _)))))) ?_ (.cons rfl (.cons rfl (.cons rfl (.cons rfl (.cons rfl (.cons rfl (.nil _))))))) (rfl) fun i hF => ?_
      · simp
      obtain ⟨h1, h2⟩ := hF
      refine .seq ?_
      refine .seq ?_
      refine .region rfl ?_
      refine .p (.move (.t rfl) (.p (.fldW G_api_Algebra.l4 fd32_4 rfl (.t rfl) (.p (.ldF (fun x => x.Boxes) ty30 (.t rfl) (.s (.s .z)) (fun _ => rfl) (.p (.len Tryd.underlying30 (.t rfl) (.p (.lss (.t rfl) (.t rfl) ?_)))))))))
      refine .nil ?_
      refine .condP (.t rfl) (fun hc31 => ?_) (fun hc31 => ?_)
      · refine .skip ?_
        refine .seq ?_
        refine .block ?_
        refine .seq ?_
        refine .lenLe 29 rfl fun hl29 => ?_
        refine .region rfl ?_
        refine .p (.fldW G_api_Algebra.l4 fd32_4 rfl (.t rfl) (.p (.ldF (fun x => x.Boxes) ty30 (.t rfl) (.s (.s .z)) (fun _ => rfl) (.p (.move (.t rfl) (.p (.idx ty56 Tryd.underlying30 (.t rfl) (.t rfl) (by first | omega | (simp; done) | (simp; omega) | (simp at *; omega)) (by first | omega | (simp; done) | (simp; omega) | (simp at *; omega)) (.p (.ldP ty56 (.t rfl) (.h (.alloc ty56 fun b12 => ?_)))))))))))
        refine .n (.stW ty56 (.t rfl) (.t rfl) .z ?_)
        refine .nil ?_
        refine .seq ?_
        refine .region rfl ?_
        refine .p (.fldW G_api_Sealed.l0 fd56_0 rfl (.t rfl) (.p (.ldF (fun x => x.Key) ty28 (.t rfl) .z (fun _ => rfl) (.p (.ldP ty28 (.t rfl) (.p (.eqlA8 Tryd.underlying28 sz5 Tryd.underlying5 gd28 (.t rfl) (.t rfl) (.p (.move (.t rfl) ?_)))))))))
        refine .go 43 rfl (.t rfl) (fun hg44 => .fldW G_api_Sealed.l1 fd56_1 rfl (.t rfl) rfl) ?_
        refine .go 43 rfl (.t rfl) (fun hg45 => .ldF (fun x => x.Nonce) ty3 (.o rfl (beq_iff_eq.2 hg45)) .z (fun _ => rfl) rfl) ?_
        refine .go 43 rfl (.t rfl) (fun hg46 => .move (.t rfl) rfl) ?_
        refine .go 43 rfl (.t rfl) (fun hg47 => .eqlI (.o rfl (beq_iff_eq.2 hg47)) (.o rfl (beq_iff_eq.2 hg47)) rfl) ?_
        refine .p (.pickAnd (.t rfl) (fun hp => (.o rfl (beq_iff_eq.2 hp))) (.p (.move (.t rfl) ?_)))
        refine .go 49 rfl (.t rfl) (fun hg50 => .fldW G_api_Sealed.l2 fd56_2 rfl (.t rfl) rfl) ?_
        refine .go 49 rfl (.t rfl) (fun hg51 => .ldF (fun x => x.Plain) ty23 (.o rfl (beq_iff_eq.2 hg51)) .z (fun _ => rfl) rfl) ?_
        refine .go 49 rfl (.t rfl) (fun hg52 => .move (.t rfl) rfl) ?_
        refine .go 49 rfl (.t rfl) (fun hg53 => .call1 hG (Same_c _ _) (.cons (.o rfl (beq_iff_eq.2 hg53)) (.cons (.o rfl (beq_iff_eq.2 hg53)) .nil)) rfl) ?_
        refine .p (.pickAnd (.t rfl) (fun hp => (.o rfl (beq_iff_eq.2 hp))) ?_)
        refine .nil ?_
        refine .cond (.t rfl) (fun hc54 => ?_) (fun hc54 => ?_)
        · refine .seq ?_
          have hb10 : ∀ h : (i : Int).toNat < a.Boxes.length, (a.Boxes[(i : Int).toNat]'h).Box.length ≤ 1000000 := fun h => hb _ (List.getElem_mem h)
          have hb11 := hb10 (by omega)
          refine .draw (by kernel_rfl) 5 [[], [], [], [(57, 2)], [(56, 1), (58, 3)]] rfl (by kernel_rfl) rfl ?_
          refine ⟨_, OpP.ldW ty32 (.t rfl) (.s (.s (.s .z))) rfl, ?_⟩
          refine ⟨_, OpP.buildSliceF (α := UInt8) ty5 Tryd.underlying23 .nil rfl (by decide) rfl, ?_⟩
          refine ⟨_, OpP.fldW G_api_Sealed.l3 fd56_3 rfl (.t rfl) rfl, ?_⟩
          refine ⟨_, OpP.ldF (fun x => x.Box) ty23 (.t rfl) .z (fun _ => rfl) rfl, ?_⟩
          refine ⟨_, OpP.appendC st23 (.inl ⟨_, Tryd.underlying23⟩) (.t rfl) (.v (.t rfl)) (by first | omega | (simp; done) | (simp; omega) | (simp at *; omega)) (by first | omega | (simp; done) | (simp; omega) | (simp at *; omega)) rfl, ?_⟩
          show wpB _ _ _ _ _ _ ((59, _) :: (58, _) :: (57, _) :: (56, _) :: (55, _) :: _) _
          refine .n (.stW ty32 (.t rfl) (.t rfl) (.s .z) (.p (.assign (.t rfl) (.p (.assign (.i rfl) ?_)))))
          refine .nil ?_
          refine .ret ?_
          refine ⟨_, .r3 rfl (.cell ty32 rfl (.s .z)) (.tmp rfl) (.tmp rfl), ?_⟩
          rw [algSeal_found hc21 (by omega) (findS_some (k := i) (by omega) hc54 h2)]; rfl
        · refine .skip ?_
          refine .drop ?_
          refine .region rfl ?_
          refine .p (.move (.t rfl) (.p (.add (.t rfl) (.i rfl) (by first | omega | (simp; done) | (simp; omega) | (simp at *; omega)) (by first | omega | (simp; done) | (simp; omega) | (simp at *; omega)) (.p (.assign (.t rfl) ?_)))))
          refine .nil ?_
          refine ⟨i + 1, .cons rfl (.cons rfl (.cons rfl (.cons rfl (.cons rfl (.cons rfl (.nil _)))))), rfl, ?_, by omega⟩
          refine ⟨by omega, fun j hj hji => ?_⟩; rcases Nat.lt_or_ge j i with h | h; exact h2 j hj h; (obtain rfl : j = i := by omega); exact hc54
      · refine .exit ?_
        refine .seq ?_
        refine .seq ?_
        refine .region rfl ?_
        refine .p (.fldW G_api_Algebra.l4 fd32_4 rfl (.t rfl) (.p (.ldF (fun x => x.Boxes) ty30 (.t rfl) (.s (.s .z)) (fun _ => rfl) (.p (.len Tryd.underlying30 (.t rfl) (.p (.geq (.t rfl) (.i rfl) ?_)))))))
        refine .nil ?_
        refine .condP (.t rfl) (fun hc63 => ?_) (fun hc63 => ?_)
        · refine .seq ?_
          refine .region rfl ?_
          refine .p (.bS0 (α := G_api_Algebra) rfl ty32 fo32 (.n (.stW ty32 (.t rfl) (.t rfl) .z (.p (.assign (.nilS (α := UInt8)) (.p (.assign (.i rfl) ?_)))))))
          refine .nil ?_
          refine .ret ?_
          refine ⟨_, .r3 rfl (.cell ty32 rfl .z) (.tmp rfl) (.tmp rfl), ?_⟩
          rw [algSeal_full hc21 (by omega) (findS_none fun j hj => h2 j hj (by omega)) (by omega)]
        · refine .skip ?_
          refine .seq ?_
          refine .region rfl ?_
          refine .p (.assign (.nilS (α := UInt8)) ?_)
          refine .nil ?_
          refine .seq ?_
          refine .seq ?_
          refine .region rfl ?_
          refine .p (.fldW G_api_Algebra.l0 fd32_0 rfl (.t rfl) (.p (.ldF (fun x => x.Free) ty4 (.t rfl) (.s (.s .z)) (fun _ => rfl) ?_)))
          refine .nil ?_
          refine .cond (.t rfl) (fun hc66 => ?_) (fun hc66 => ?_)
          · refine .seq ?_
            refine .region rfl ?_
            refine .p (.fldW G_api_Algebra.l4 fd32_4 rfl (.t rfl) (.p (.ldF (fun x => x.Boxes) ty30 (.t rfl) (.s (.s .z)) (fun _ => rfl) (.p (.len Tryd.underlying30 (.t rfl) (.p (.add (.t rfl) (.i rfl) (by first | omega | (simp; done) | (simp; omega) | (simp at *; omega)) (by first | omega | (simp; done) | (simp; omega) | (simp at *; omega)) (.p (.call1 hG (rSymbol_c _ _) (.cons (.u8 98 rfl) (.cons (.t rfl) .nil)) (.h (.alloc ty28 fun b14 => ?_)))))))))))
            refine .n (.stW ty28 (.t rfl) (.t rfl) .z ?_)
            refine .nil ?_
            refine .frzOb hC .z ?_
            refine .asP 14 rfl .z ?_
            refine .region rfl ?_
            refine .p (.slArrPC (by decide) ar28 (.t rfl) (.p (.move (.t rfl) (.p (.len Tryd.underlying23 (.t rfl) (.p (.add (.t rfl) (.i rfl) (by first | omega | (simp; done) | (simp; omega) | (simp at *; omega)) (by first | omega | (simp; done) | (simp; omega) | (simp at *; omega)) (.p (.appendZC Tryd.underlying23 one5 rfl rfl rfl (fun _ => rfl) Tryd.underlying3 (.t rfl) (.t rfl) (by first | omega | (simp; done) | (simp; omega) | (simp at *; omega)) (by first | omega | (simp; done) | (simp; omega) | (simp at *; omega)) (by first | omega | (simp; done) | (simp; omega) | (simp at *; omega)) (.p (.assign (.t rfl) ?_)))))))))))
            refine .nil ?_
            refine .seq ?_
            refine .drawCF [false, false, false, false] (by kernel_rfl) 14 [[], [], [(94, 1)], [(93, 0), (95, 2)], [], [], [], [], [(99, 6), (100, 7)], [], [(97, 4), (98, 5), (101, 8), (102, 9)], [(103, 10)], [(96, 3), (104, 11)], []] [0, 3, 12] rfl (by kernel_rfl) rfl (by kernel_rfl) (by decide) ?_
            refine .inl ?_
            refine ⟨_, fun H => OpP.fldW G_api_Algebra.l4 fd32_4 rfl (.t rfl) rfl, ?_⟩
            refine ⟨_, fun H => OpP.ldF (fun x => x.Boxes) ty30 (.t rfl) (Hole.app (.s (.s (.s .z)))) (fun _ => rfl) rfl, ?_⟩
            refine .inl ?_
            refine ⟨_, fun H => OpP.ldP ty28 (.t rfl) rfl, ?_⟩
            refine ⟨_, fun H => OpP.move (.t rfl) rfl, ?_⟩
            refine ⟨_, fun H => OpP.buildSliceF (α := UInt8) ty5 Tryd.underlying23 .nil rfl (by decide) rfl, ?_⟩
            refine ⟨_, fun H => OpP.move (.t rfl) rfl, ?_⟩
            refine ⟨_, fun H => OpP.appendC st23 (.inl ⟨_, Tryd.underlying23⟩) (.t rfl) (.v (.t rfl)) (by first | omega | (simp; done) | (simp; omega) | (simp at *; omega)) (by first | omega | (simp; done) | (simp; omega) | (simp at *; omega)) rfl, ?_⟩
            refine ⟨_, fun H => OpP.move (.t rfl) rfl, ?_⟩
            refine ⟨_, fun H => OpP.bS4 G_api_Sealed.l0 G_api_Sealed.l1 G_api_Sealed.l2 G_api_Sealed.l3 rfl ty56 fo56 (fun c0 c1 c2 c3 => (⟨c0, c1, c2, c3⟩ : G_api_Sealed)) (fun _ _ _ _ => rfl) rfl rfl rfl rfl rfl (.t rfl) (.t rfl) (.t rfl) (.t rfl) rfl, ?_⟩
            refine ⟨_, fun H => OpP.buildSliceF (α := G_api_Sealed) ty56 Tryd.underlying30 (.cons (.t rfl) .nil) rfl (by decide) rfl, ?_⟩
            refine .inl ?_
            refine ⟨_, fun H => OpP.fldW G_api_Algebra.l4 fd32_4 rfl (.t rfl) rfl, ?_⟩
            refine ⟨⟨([], fun k => List.getD [(true, .none_), (true, .none_), (true, .none_), (true, .none_)] k (true, .none_)), rfl⟩, ?_⟩
            refine OpH.buildSlice (α := G_api_Sealed) ty56 Tryd.underlying30 .nil rfl (by decide) fun b93 => ?_
            refine ⟨⟨([_], fun k => List.getD [(true, .none_), (true, .none_), (true, .none_), (true, .none_)] k (true, .none_)), rfl⟩, ?_⟩
            refine OpH.append st30 (.inl ⟨_, Tryd.underlying30⟩) rfl .z (.v (.t rfl)) (by first | omega | (simp; done) | (simp; omega) | (simp at *; omega)) (by first | omega | (simp; done) | (simp; omega) | (simp at *; omega)) (fun w96 => ?_) rfl
            refine ⟨⟨([_], fun k => List.getD [(true, .none_), (true, .none_), (true, .none_), (true, .none_)] k (true, .none_)), rfl⟩, ?_⟩
            refine OpH.append st30 (.inl ⟨_, Tryd.underlying30⟩) rfl .z (.v (.c rfl)) (by first | omega | (simp; done) | (simp; omega) | (simp at *; omega)) (by first | omega | (simp; done) | (simp; omega) | (simp at *; omega)) (fun w105 => ?_) rfl
            refine ⟨⟨([_], fun k => List.getD [(true, .none_), (true, .none_), (true, .none_), (true, .none_)] k (true, .none_)), rfl⟩, ?_⟩
            show wpB _ _ _ _ _ _ ((106, _) :: (105, _) :: (104, _) :: (103, _) :: (102, _) :: (101, _) :: (100, _) :: (99, _) :: (98, _) :: (97, _) :: (96, _) :: (95, _) :: (94, _) :: (93, _) :: _) _
            refine .frzOwn hC .z ?_
            refine .as 105 rfl .z ?_
            refine .n (.stF (fun y x => { x with Boxes := y }) ty30 (.t rfl) (.t rfl) (.s (.s (.s (.s .z)))) (fun _ _ => rfl) ?_)
            refine .nil ?_
            refine .seq ?_
            refine .draw (by kernel_rfl) 4 [[], [], [], [(108, 1), (109, 2)]] rfl (by kernel_rfl) rfl ?_
            refine ⟨_, OpP.ldW ty32 (.t rfl) (.s (.s (.s (.s .z)))) rfl, ?_⟩
            refine ⟨_, OpP.buildSliceF (α := UInt8) ty5 Tryd.underlying23 .nil rfl (by decide) rfl, ?_⟩
            refine ⟨_, OpP.move (.t rfl) rfl, ?_⟩
            refine ⟨_, OpP.appendC st23 (.inl ⟨_, Tryd.underlying23⟩) (.t rfl) (.v (.t rfl)) (by first | omega | (simp; done) | (simp; omega) | (simp at *; omega)) (by first | omega | (simp; done) | (simp; omega) | (simp at *; omega)) rfl, ?_⟩
            show wpB _ _ _ _ _ _ ((110, _) :: (109, _) :: (108, _) :: (107, _) :: _) _
            refine .n (.stW ty32 (.t rfl) (.t rfl) (.s (.s .z)) (.p (.assign (.t rfl) (.p (.assign (.i rfl) ?_)))))
            refine .nil ?_
            refine .ret ?_
            refine ⟨_, .r3 rfl (.cell ty32 rfl (.s (.s .z))) (.tmp rfl) (.tmp rfl), ?_⟩
            rw [algSeal_new hc21 (by omega) (findS_none fun j hj => h2 j hj (by omega)) (by omega), newBox_free hc66]; rfl
          · refine .seq ?_
            have hb17 := be64_length (UInt64.ofInt n) 8
            have hb18 := streamL_length k (UInt64.ofInt n) p p.length
            refine .drawC (by kernel_rfl) 10 [[], [(77, 0)], [(78, 1)], [], [], [(81, 4)], [], [(80, 3), (82, 5), (83, 6)], [(79, 2), (84, 7)], [(85, 8)]] [2, 8, 9] rfl (by kernel_rfl) rfl (by kernel_rfl) (by decide) ?_
            refine ⟨_, fun H => OpP.move (.t rfl) rfl, ?_⟩
            refine ⟨_, fun H => OpP.conv64 Tryd.underlying3 Tryd.underlying90 (.t rfl) rfl, ?_⟩
            refine .inl ?_
            refine ⟨_, fun H => OpP.ldP ty28 (.t rfl) rfl, ?_⟩
            refine ⟨_, fun H => OpP.move (.t rfl) rfl, ?_⟩
            refine ⟨_, fun H => OpP.conv64 Tryd.underlying3 Tryd.underlying90 (.t rfl) rfl, ?_⟩
            refine ⟨_, fun H => OpP.move (.t rfl) rfl, ?_⟩
            refine ⟨_, fun H => OpP.call1 hG (rStream_c _ _ _ (by first | omega | (simp; done) | (simp; omega) | (simp at *; omega))) (.cons (.t rfl) (.cons (.t rfl) (.cons (.t rfl) .nil))) rfl, ?_⟩
            refine .inl ?_
            refine .inl ?_
            refine OpH.call0 hG (eightOwn_c _) (.cons (.t rfl) .nil) fun r79 Hs79 hr79 => ?_
            obtain ⟨u79, rfl, rfl⟩ := hr79
            refine OpH.append st23 (.inl ⟨_, Tryd.underlying23⟩) rfl .z (.v (.t rfl)) (by first | omega | (simp; done) | (simp; omega) | (simp at *; omega)) (by first | omega | (simp; done) | (simp; omega) | (simp at *; omega)) (fun w85 => ?_) rfl
            refine OpH.ofP (OpP.assign (.t rfl) ?_)
            show wpB _ _ _ _ _ _ ((13, _) :: (85, _) :: (84, _) :: (83, _) :: (82, _) :: (81, _) :: (80, _) :: (79, _) :: (78, _) :: (77, _) :: _) _
            refine .nil ?_
            refine .seq ?_
            refine .drawZ [[false, false, false, false], [true, false, false, false], [true, false, false, false]] [[true, false, false, false], [false, false, false, false], [], [], []] [] [(4, (⟨(Arr 32 UInt8), inferInstance, default⟩ : AT))] 2 (by kernel_rfl) 5 [[], [], [(87, 1)], [(86, 0), (88, 2)], []] [2, 3] rfl (by kernel_rfl) rfl (by kernel_rfl) rfl (by decide) (by simp) (List.forall_mem_cons.2 ⟨fun o ho => by obtain rfl := Option.some.inj (show some _ = some o from ho); exact ⟨rfl, fun _ _ => OpH.alloc ty28 fun b => ⟨b, rfl, rfl⟩⟩, (fun p hp => by cases hp)⟩) (by kernel_rfl) rfl ?_
            refine ⟨_, fun H => OpP.slArrP (by decide) ar28 (.t rfl) rfl, ?_⟩
            refine ⟨_, fun H => OpP.move (.t rfl) rfl, ?_⟩
            refine .inl ?_
            refine .inl ?_
            refine .inl ?_
            refine ⟨rfl, ?_⟩
            refine ⟨⟨fun k => List.getD [(true, .none_), (true, .none_), (true, .none_), (true, .none_)] k (true, .none_), rfl⟩, fun Ys18 => ?_⟩
            refine OpH.lend0 hG (wordOwn_c _ _ (by first | omega | (simp; done) | (simp; omega) | (simp at *; omega)) (by first | omega | (simp; done) | (simp; omega) | (simp at *; omega))) (.cons (.e (.s [98, 111, 120] (by decide) (by decide))) (.cons (.own rfl (Hole.app (Hole.app .z))) .nil)) (by rintro _ _ ⟨u, rfl, rfl⟩; exact .own) fun r88 Hs88 hr88 => ?_
            obtain ⟨u88, rfl, rfl⟩ := hr88
            refine ⟨[_], _, rfl, ?_⟩
            refine ⟨⟨fun k => List.getD [_, (true, .none_), (true, .none_), (true, .none_)] k (true, .none_), rfl⟩, fun Ys18 => ?_⟩
            refine OpH.ofP (OpP.lend1 hG (rHmac_c _ _ (by first | omega | (simp; done) | (simp; omega) | (simp at *; omega)) (by first | omega | (simp; done) | (simp; omega) | (simp at *; omega))) (.cons (.e (.t rfl)) (.cons (.own rfl .z) .nil)) (by first | exact .v | exact .t2 .v .v | exact .t3 .v .v .v) ?_)
            refine ⟨[_], _, rfl, ?_⟩
            refine ⟨⟨fun k => List.getD [_, (true, .none_), (true, .none_), (true, .none_)] k (true, .none_), rfl⟩, fun ws18 => ?_⟩
            refine ⟨⟨fun k => List.getD [_, (true, .none_), (true, .none_), (true, .none_)] k (true, .none_), rfl⟩, fun _ => ?_⟩
            show wpB _ _ _ _ _ _ ((15, _) :: (89, _) :: (88, _) :: (87, _) :: (86, _) :: _) _
            refine .n (.stW ty28 (.t rfl) (.t rfl) (.s .z) ?_)
            refine .nil ?_
            refine .frzOb hC (.s .z) ?_
            refine .asP 15 rfl (.s .z) ?_
            refine .region rfl ?_
            refine .p (.move (.t rfl) (.p (.slArrP (by decide) ar28 (.t rfl) (.h (.append st23 (.inl ⟨_, Tryd.underlying23⟩) rfl (.s (.s .z)) (.v (.t rfl)) (by first | omega | (simp; done) | (simp; omega) | (simp at *; omega)) (by first | omega | (simp; done) | (simp; omega) | (simp at *; omega)) (fun w92 => .p (.assign (.t rfl) ?_)) rfl)))))
            refine .nil ?_
            refine .seq ?_
            refine .frzOwn hC (.s (.s .z)) ?_
            refine .as 13 rfl (.s (.s .z)) ?_
            refine .drawCF [false, false, false, false, false, false] (by kernel_rfl) 14 [[], [], [(94, 1)], [(93, 0), (95, 2)], [], [], [], [], [(99, 6), (100, 7)], [], [(97, 4), (98, 5), (101, 8), (102, 9)], [(103, 10)], [(96, 3), (104, 11)], []] [0, 3, 12] rfl (by kernel_rfl) rfl (by kernel_rfl) (by decide) ?_
            refine .inl ?_
            refine ⟨_, fun H => OpP.fldW G_api_Algebra.l4 fd32_4 rfl (.t rfl) rfl, ?_⟩
            refine ⟨_, fun H => OpP.ldF (fun x => x.Boxes) ty30 (.t rfl) (Hole.app (.s (.s (.s (.s (.s .z)))))) (fun _ => rfl) rfl, ?_⟩
            refine .inl ?_
            refine ⟨_, fun H => OpP.ldP ty28 (.t rfl) rfl, ?_⟩
            refine ⟨_, fun H => OpP.move (.t rfl) rfl, ?_⟩
            refine ⟨_, fun H => OpP.buildSliceF (α := UInt8) ty5 Tryd.underlying23 .nil rfl (by decide) rfl, ?_⟩
            refine ⟨_, fun H => OpP.move (.t rfl) rfl, ?_⟩
            refine ⟨_, fun H => OpP.appendC st23 (.inl ⟨_, Tryd.underlying23⟩) (.t rfl) (.v (.t rfl)) (by first | omega | (simp; done) | (simp; omega) | (simp at *; omega)) (by first | omega | (simp; done) | (simp; omega) | (simp at *; omega)) rfl, ?_⟩
            refine ⟨_, fun H => OpP.move (.t rfl) rfl, ?_⟩
            refine ⟨_, fun H => OpP.bS4 G_api_Sealed.l0 G_api_Sealed.l1 G_api_Sealed.l2 G_api_Sealed.l3 rfl ty56 fo56 (fun c0 c1 c2 c3 => (⟨c0, c1, c2, c3⟩ : G_api_Sealed)) (fun _ _ _ _ => rfl) rfl rfl rfl rfl rfl (.t rfl) (.t rfl) (.t rfl) (.t rfl) rfl, ?_⟩
            refine ⟨_, fun H => OpP.buildSliceF (α := G_api_Sealed) ty56 Tryd.underlying30 (.cons (.t rfl) .nil) rfl (by decide) rfl, ?_⟩
            refine .inl ?_
            refine ⟨_, fun H => OpP.fldW G_api_Algebra.l4 fd32_4 rfl (.t rfl) rfl, ?_⟩
            refine ⟨⟨([], fun k => List.getD [(true, .none_), (true, .none_), (true, .none_), (true, .none_), (true, .none_), (true, .none_)] k (true, .none_)), rfl⟩, ?_⟩
            refine OpH.buildSlice (α := G_api_Sealed) ty56 Tryd.underlying30 .nil rfl (by decide) fun b93 => ?_
            refine ⟨⟨([_], fun k => List.getD [(true, .none_), (true, .none_), (true, .none_), (true, .none_), (true, .none_), (true, .none_)] k (true, .none_)), rfl⟩, ?_⟩
            refine OpH.append st30 (.inl ⟨_, Tryd.underlying30⟩) rfl .z (.v (.t rfl)) (by first | omega | (simp; done) | (simp; omega) | (simp at *; omega)) (by first | omega | (simp; done) | (simp; omega) | (simp at *; omega)) (fun w96 => ?_) rfl
            refine ⟨⟨([_], fun k => List.getD [(true, .none_), (true, .none_), (true, .none_), (true, .none_), (true, .none_), (true, .none_)] k (true, .none_)), rfl⟩, ?_⟩
            refine OpH.append st30 (.inl ⟨_, Tryd.underlying30⟩) rfl .z (.v (.c rfl)) (by first | omega | (simp; done) | (simp; omega) | (simp at *; omega)) (by first | omega | (simp; done) | (simp; omega) | (simp at *; omega)) (fun w105 => ?_) rfl
            refine ⟨⟨([_], fun k => List.getD [(true, .none_), (true, .none_), (true, .none_), (true, .none_), (true, .none_), (true, .none_)] k (true, .none_)), rfl⟩, ?_⟩
            show wpB _ _ _ _ _ _ ((106, _) :: (105, _) :: (104, _) :: (103, _) :: (102, _) :: (101, _) :: (100, _) :: (99, _) :: (98, _) :: (97, _) :: (96, _) :: (95, _) :: (94, _) :: (93, _) :: _) _
            refine .frzOwn hC .z ?_
            refine .as 105 rfl .z ?_
            refine .n (.stF (fun y x => { x with Boxes := y }) ty30 (.t rfl) (.t rfl) (.s (.s (.s (.s (.s (.s .z)))))) (fun _ _ => rfl) ?_)
            refine .nil ?_
            refine .seq ?_
            refine .draw (by kernel_rfl) 4 [[], [], [], [(108, 1), (109, 2)]] rfl (by kernel_rfl) rfl ?_
            refine ⟨_, OpP.ldW ty32 (.t rfl) (.s (.s (.s (.s (.s (.s .z)))))) rfl, ?_⟩
            refine ⟨_, OpP.buildSliceF (α := UInt8) ty5 Tryd.underlying23 .nil rfl (by decide) rfl, ?_⟩
            refine ⟨_, OpP.move (.t rfl) rfl, ?_⟩
            refine ⟨_, OpP.appendC st23 (.inl ⟨_, Tryd.underlying23⟩) (.t rfl) (.v (.t rfl)) (by first | omega | (simp; done) | (simp; omega) | (simp at *; omega)) (by first | omega | (simp; done) | (simp; omega) | (simp at *; omega)) rfl, ?_⟩
            show wpB _ _ _ _ _ _ ((110, _) :: (109, _) :: (108, _) :: (107, _) :: _) _
            refine .n (.stW ty32 (.t rfl) (.t rfl) (.s (.s (.s (.s .z)))) (.p (.assign (.t rfl) (.p (.assign (.i rfl) ?_)))))
            refine .nil ?_
            refine .ret ?_
            refine ⟨_, .r3 rfl (.cell ty32 rfl (.s (.s (.s (.s .z))))) (.tmp rfl) (.tmp rfl), ?_⟩
            rw [algSeal_new hc21 (by omega) (findS_none fun j hj => h2 j hj (by omega)) (by omega), newBox_real hc66]; rfl
end Go.Proofs.YtiekhjbhlekaeaaDoor
