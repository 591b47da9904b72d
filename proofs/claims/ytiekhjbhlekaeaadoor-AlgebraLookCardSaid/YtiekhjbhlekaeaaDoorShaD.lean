/- The walks of sha.New, sha.Write. -/
import Derived.Test.YtiekhjbhlekaeaaDoorShaC
import Derived.Test.YtiekhjbhlekaeaaDoorSl
set_option maxRecDepth 1000000
set_option linter.unusedVariables false
namespace Go.Proofs.YtiekhjbhlekaeaaDoor
open Go.Fl Go.Sha
theorem New_fun (I : Im) : Fun Tryd.prog 91 #[] I (fun v J => v = .agg (iv.cells ++ [.slice none 0 0, i64 0]).toArray) := by
  refine Fun.intro (l := []) Tryd.func91 rfl (by kernel_rfl) 3 rfl rfl [] rfl fun C hC => ?_
  refine .seq (.region rfl (.x (.alloc z115 fun b => .nil ?_)))
  refine .seq (.region rfl ?_)
  refine .v (.buildA ar113 z113 rfl rfl rfl rfl (.v (.buildS fo115 z115 rfl rfl ?_)))
  refine .n (.storeW 0 10 sz115 rfl rfl rfl rfl rfl rfl (.nil (.ret ⟨_, .r1 rfl (.cellA (cs := iv.cells ++ [.slice none 0 0, i64 0]) 0 Tryd.underlying115 rfl sz115 rfl rfl), rfl⟩)))
theorem Write_fun (I : Im) (x : H8) (sv : Value) (r : List UInt8) (len : Nat) (b : Value) (bs : List UInt8) (hr : Sl I 1 sv r.length (bytesV r)) (hb : Sl I 1 b bs.length (bytesV bs))
    (hlen : r.length + bs.length ≤ 35184372088832) (hlen2 : len + bs.length ≤ 4611686018427387904) (hkk : Cells I 1 0 (kk.map u32)) :
    Fun Tryd.prog 90 #[.agg (x.cells ++ [sv, i64 (len : Int)]).toArray, b] I (fun v J => ∃ sv', v = .agg ((absorb x (r ++ bs)).cells ++ [sv', i64 ((len + bs.length : Nat) : Int)]).toArray ∧ Sl J 1 sv' (rest (r ++ bs)).length (bytesV (rest (r ++ bs)))) := by
  generalize hl : r ++ bs = l
  have hll : l.length = r.length + bs.length := by rw [← hl]; simp
  obtain ⟨a1, c1, rfl, _, _⟩ := id hr.shape
  obtain ⟨a2, c2, rfl, _, _⟩ := id hb.shape
  generalize hsv : Value.slice a1 r.length c1 = sv at *
  generalize hbv : Value.slice a2 bs.length c2 = b at *
  refine Fun.intro (l := [.agg (x.cells ++ [sv, i64 (len : Int)]).toArray, b]) Tryd.func90 rfl (by kernel_rfl) 32 rfl rfl [(0, .agg (x.cells ++ [sv, i64 (len : Int)]).toArray), (1, b)] rfl fun C hC => ?_
  refine .seq (.region rfl (.x (.box (cs := x.cells ++ [sv, i64 (len : Int)]) rfl rfl fun b2 => .x (.alloc z115 fun b4 => .nil ?_))))
  refine .seq (.region rfl ?_)
  refine .v (.fieldAddr fd115_1 rfl (.v (.loadL (v := sv) 1 Tryd.underlying23 rfl rfl rfl rfl (.v (.move rfl ?_)))))
  refine .x (.buildSlice (n := 2) (zs := [.slice none 0 0]) (vs := [sv, b]) (pv := [(0, sv), (1, b)]) el36.und el36.size z23 rfl rfl (by rw [← hsv, ← hbv]; rfl) rfl (by decide) fun b9 => ?_)
  refine .freeze 0 rfl (fun p _ hM => by rw [hC] at hM; cases hM) fun I1 hI1 hp1 => ?_
  refine .x (.call rfl rfl (Concat_fun I1 (slc b9 0 2 2) [(sv, r), (b, bs)] 2 rfl ?_ (Sl.of_cells (Cells.of_row (hp1 (b9, row [sv, b] 23) (List.mem_singleton.2 rfl))) rfl (by decide) (by decide)) (by simp; omega)) fun v0 I2 hI2 hv0 => ?_)
  · intro p hp
    simp only [List.mem_cons, List.not_mem_nil, or_false] at hp
    rcases hp with rfl | rfl
    · exact hr.mono hI1
    · exact hb.mono hI1
  have hv0 : Sl I2 1 v0 l.length (bytesV l) := by simpa [hll, ← hl] using hv0
  refine .v (.assign rfl ?_)
  refine .nil (.seq (.block (.loop (α := Nat × Value) (fun x => [(5, x.2), (2, ptr b2 0), (4, ptr b4 0), (1, b)])
    (fun k => [[], [(b4, row (List.replicate 8 (u32 0) ++ [.slice none 0 0, i64 0]) 115)], [(b2, row ((feed x l k.1).cells ++ [sv, i64 (len : Int)]) 115)]])
    (fun k J => 64 * k.1 ≤ l.length ∧ Sl J 1 k.2 (l.length - 64 * k.1) (bytesV (l.drop (64 * k.1)))) (fun k => l.length - 64 * k.1) (0, v0) ⟨by simp, by simpa using hv0⟩
    (.cons rfl (.cons rfl (.cons rfl (.cons rfl (.nil _))))) rfl fun x1 J1 hJ1 hF => ?_)))
  obtain ⟨k, v⟩ := x1
  obtain ⟨hk, hv⟩ := hF
  dsimp only at hk hv ⊢
  generalize hX : feed x l k = X
  obtain ⟨a3, c3, rfl, _, hc3⟩ := id hv.shape
  generalize hvv : Value.slice a3 (l.length - 64 * k) c3 = v at *
  refine .seq (.seq (.region rfl ?_))
  refine .v (.move rfl (.v (.len (a0 := a3) (n := l.length - 64 * k) (c := c3) Tryd.underlying23 (by rw [hvv]; rfl) (.v (.geq rfl rfl ?_)))))
  refine .nil (.condP rfl (fun hge => .skip ?_) (fun hlt => .exit ?_))
  · have h64 : 64 ≤ l.length - 64 * k := by omega
    have cut6 : ∀ {J : Im} {v' : Value}, Sl J 1 v' (l.length - 64 * k - 64) (((bytesV (l.drop (64 * k))).take ((l.length - 64 * k) * 1)).drop (64 * 1)) → Sl J 1 v' (l.length - 64 * (k + 1)) (bytesV (l.drop (64 * (k + 1)))) := fun h => by
      have e1 : l.length - 64 * k - 64 = l.length - 64 * (k + 1) := by omega
      have e2 : ((bytesV (l.drop (64 * k))).take ((l.length - 64 * k) * 1)).drop (64 * 1) = bytesV (l.drop (64 * (k + 1))) := by
        rw [List.take_of_length_le (by simp [bytesV])]
        simp only [bytesV, ← List.map_drop, List.drop_drop]
        congr 2
      rw [e1, e2] at h
      exact h
    refine .block ?_
    refine .drawLate (by kernel_rfl) 8 [[], [(14, 0)], [], [(16, 2)], [(15, 1), (17, 3)], [], [(19, 5)], []] [5, 6] rfl (by kernel_rfl) rfl ?_
    refine ⟨.is _, fun JJ hJJ ρ e2 => .ofV (.fieldAddr fd115_0 e2 ⟨rfl, rfl⟩), ?_⟩
    refine ⟨.is _, fun JJ hJJ ρ e14 => .ofV (.loadLA (vs := X.cells) 2 Tryd.underlying113 rfl sz113 e14 rfl rfl ⟨rfl, rfl⟩), ?_⟩
    refine ⟨.is _, fun JJ hJJ ρ e5 => .ofV (.move e5 ⟨rfl, rfl⟩), ?_⟩
    refine ⟨.val (fun v J => Sl J 1 v 64 (bytesV ((l.drop (64 * k)).take 64))) (fun _ _ _ h hle => h.mono hle), fun JJ hJJ ρ e16 => .ofV (.slice (l := 0) (h := 64) el23.und el23.size e16 (hv.mono hJJ) (.inl ⟨rfl, rfl⟩) (.inr ⟨_, _, rfl, rfl⟩) (by omega) (by omega) fun v' hv' => ⟨rfl, by simpa [bytesV, List.map_take] using hv'⟩), ?_⟩
    refine ⟨.is _, fun JJ hJJ ρ e15 v17 e17 q17 => .lendIs rfl (evL2 e15 e17) (fun J hJ hL => change_fun J X _ (by simp; omega) v17 (q17.mono hJ) (hkk.mono (hI1.trans (hI2.trans (hJ1.trans (hJJ.trans hJ)))))) ⟨rfl, rfl⟩, ?_⟩
    refine ⟨.is _, fun JJ hJJ ρ e5 => .ofV (.move e5 ⟨rfl, rfl⟩), ?_⟩
    refine ⟨.val (fun v J => Sl J 1 v (l.length - 64 * (k + 1)) (bytesV (l.drop (64 * (k + 1))))) (fun _ _ _ h hle => h.mono hle), fun JJ hJJ ρ e19 => .ofV (.slice (l := 64) (h := l.length - 64 * k) el23.und el23.size e19 (hv.mono (hJJ)) (.inr ⟨_, _, rfl, rfl⟩) (.inl ⟨rfl, rfl⟩) (by omega) (by omega) fun v' hv' => ⟨rfl, cut6 hv'⟩), ?_⟩
    refine ⟨.is _, fun JJ hJJ ρ e2 => .ofV (.fieldAddr fd115_0 e2 ⟨rfl, rfl⟩), ?_⟩
    refine ⟨rfl, fun J2 hJ2 v17 q17 => ?_⟩
    refine .storeA 2 8 sz113 rfl rfl rfl rfl rfl (by exact Nat.le_of_ble_eq_true rfl) ⟨Le.refl _, fun JJ hJJ ρ e5 => .ofV (.move e5 ⟨rfl, rfl⟩), fun JJ hJJ ρ e19 => .ofV (.slice (l := 64) (h := l.length - 64 * k) el23.und el23.size e19 (hv.mono (hJ2.trans hJJ)) (.inr ⟨_, _, rfl, rfl⟩) (.inl ⟨rfl, rfl⟩) (by omega) (by omega) fun v' hv' => ⟨rfl, cut6 hv'⟩), fun J3 hJ3 v20 q20 => ?_⟩
    refine .v (.assign rfl (.nil ⟨(k + 1, v20), .cons rfl (.cons rfl (.cons rfl (.cons rfl (.nil _)))), ?_, ⟨by dsimp only; omega, q20⟩, by dsimp only; omega, hJ1.trans (hJ2.trans hJ3)⟩))
    subst hX
    rfl
  · have hkk2 : k = l.length / 64 := by omega
    have hX2 : X = absorb x l := by rw [← hX, hkk2]; rfl
    have hv2 : Sl J1 1 v (l.length - 64 * k) (bytesV (rest l)) := by rw [rest, ← hkk2]; exact hv
    have hrl : (rest l).length = l.length - 64 * k := by rw [rest, ← hkk2, List.length_drop]
    refine .seq ?_
    refine .draw (by kernel_rfl) 10 [[], [(22, 0)], [], [(24, 2)], [], [(26, 4)], [], [(28, 6)], [(27, 5), (29, 7)], [(23, 1), (25, 3), (30, 8)]] rfl (by kernel_rfl) rfl ?_
    refine ⟨.is _, fun JJ hJJ ρ e2 => .ofV (.fieldAddr fd115_0 e2 ⟨rfl, rfl⟩), ?_⟩
    refine ⟨.is _, fun JJ hJJ ρ e22 => .ofV (.loadLA (vs := X.cells) 2 Tryd.underlying113 rfl sz113 e22 rfl rfl ⟨rfl, rfl⟩), ?_⟩
    refine ⟨.is _, fun JJ hJJ ρ e5 => .ofV (.move e5 ⟨rfl, rfl⟩), ?_⟩
    refine ⟨.val (fun v J => Sl J 1 v (l.length - 64 * k) (bytesV (rest l))) (fun _ _ _ h hle => h.mono hle), fun JJ hJJ ρ e24 => .call rfl (evL1 e24) (Clone_fun JJ v (l.length - 64 * k) (rest l) hrl (hv2.mono hJJ) (by omega)) fun v' J' hle hp => ⟨rfl, hp⟩, ?_⟩
    refine ⟨.is _, fun JJ hJJ ρ e2 => .ofV (.fieldAddr fd115_2 e2 ⟨rfl, rfl⟩), ?_⟩
    refine ⟨.is _, fun JJ hJJ ρ e26 => .ofV (.loadL (v := i64 (len : Int)) 2 Tryd.underlying3 rfl e26 rfl rfl ⟨rfl, rfl⟩), ?_⟩
    refine ⟨.is _, fun JJ hJJ ρ e1 => .ofV (.move e1 ⟨rfl, rfl⟩), ?_⟩
    refine ⟨.is _, fun JJ hJJ ρ e28 => .ofV (.len (a0 := a2) (n := bs.length) (c := c2) Tryd.underlying23 (by rw [hbv]; exact e28) ⟨rfl, rfl⟩), ?_⟩
    refine ⟨.is _, fun JJ hJJ ρ e27 e29 => .ofV (.add e27 e29 (by omega) (by omega) ⟨rfl, rfl⟩), ?_⟩
    refine ⟨.val (fun v J => ∃ sv', v = .agg (X.cells ++ [sv', i64 ((len + bs.length : Nat) : Int)]).toArray ∧ Sl J 1 sv' (l.length - 64 * k) (bytesV (rest l))) (fun _ _ _ h hle => by obtain ⟨s, h1, h2⟩ := h; exact ⟨s, h1, h2.mono hle⟩), fun JJ hJJ ρ e23 v25 e25 q25 e30 => .ofV (by obtain ⟨a9, c9, hv9, _, _⟩ := id q25.shape; subst hv9; exact .buildS (pv := [(0, .agg X.cells.toArray), (1, .slice a9 (l.length - 64 * k) c9), (2, i64 ((len : Int) + (bs.length : Int)))]) fo115 z115 (evP_cons e23 (evP_cons e25 (evP_cons e30 evP_nil))) rfl ⟨rfl, _, (by rw [Int.natCast_add]; rfl), q25⟩), ?_⟩
    intro J2 hJ2 v25 q25 v31 q31
    obtain ⟨sv', rfl, hsv'⟩ := q31
    obtain ⟨a9, c9, rfl, _, _⟩ := id hsv'.shape
    refine .n (.storeW 1 10 sz115 rfl rfl rfl rfl rfl rfl (.nil (.ret ⟨_, .r1 rfl (.cellA (cs := X.cells ++ [.slice a9 (l.length - 64 * k) c9, i64 ((len + bs.length : Nat) : Int)]) 1 Tryd.underlying115 rfl sz115 rfl rfl), .slice a9 (l.length - 64 * k) c9, ?_, ?_⟩)))
    · rw [hX2]
    · rw [hrl]; exact hsv'
end Go.Proofs.YtiekhjbhlekaeaaDoor
