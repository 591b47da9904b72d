/- The walks of package slices' functions over bytes. -/
import Derived.Test.YtiekhjbhlekaeaaDoorFacts
set_option maxRecDepth 1000000
set_option linter.unusedVariables false
namespace Go.Proofs.YtiekhjbhlekaeaaDoor
open Go.Fl
theorem Grow_fun (I : Im) (n : Nat) (hn : n ≤ 70368744177664) :
    FunM Tryd.prog 113 #[.slice none 0 0, i64 (n : Int)] I [[]] (fun v J L' => ∃ X, L' = [X] ∧ Own 5 1 v 0 [] X) := by
  refine FunM.intro (l := [.slice none 0 0, i64 (n : Int)]) Tryd.func113 rfl (by kernel_rfl) 27 rfl rfl [(0, .slice none 0 0), (1, i64 (n : Int))] rfl fun C hC => ?_
  refine .seq (.region rfl (.v (.assign rfl (.nil ?_))))
  refine .seq (.seq (.region rfl ?_))
  refine .v (.move rfl (.v (.lss rfl rfl ?_)))
  refine .nil (.condP rfl (fun h => by omega) (fun h => .skip ?_))
  refine .seq (.seq (.region rfl ?_))
  refine .v (.move rfl (.v (.move rfl (.v (.cap Tryd.underlying23 rfl (.v (.move rfl (.v (.len Tryd.underlying23 rfl (.v (.sub rfl rfl (by omega) (by omega) ?_)))))))))))
  refine .v (.sub rfl rfl (by omega) (by omega) (.v (.assign rfl ?_)))
  refine .nil (.seq (.region rfl ?_))
  refine .v (.move rfl (.v (.gtr rfl rfl ?_)))
  refine .nil (.condP rfl (fun h => .region rfl ?_) (fun h => .skip ?_))
  · skip
    refine .v (.move rfl (.v (.move rfl (.v (.cap Tryd.underlying23 rfl (.v (.sliceHi (h := 0) el23.und el23.size rfl rfl (by omega) (fun _ => rfl) (.v (.move rfl ?_)))))))))
    have hone : OneT Tryd.prog 5 1 (u8 0) := one5
    refine .s (.appendMake 0 (n := 0) (m := n) (xs := []) el23.und hone rfl rfl Tryd.underlying3 rfl ?_ rfl (Own.nil _ _) (by unfold maxLen; omega) (by omega) fun v' X' hown => ?_)
    · exact congrArg (fun q => some (i64 q)) (by omega)
    rcases hown with ⟨_, h0, _⟩ | ⟨b, c, sp, rfl, rfl, h1, h2, h3, h4⟩
    · omega
    refine .v (.move rfl (.v (.len Tryd.underlying23 rfl (.v (.sliceHi (h := 0) el23.und el23.size rfl rfl (by omega) (fun e => by cases e) (.v (.assign rfl ?_)))))))
    refine .nil (.seq (.region rfl ?_))
    refine .v (.move rfl (.v (.assign rfl ?_)))
    refine .nil (.ret ⟨_, .r1 rfl (.tmp rfl), _, rfl, ?_⟩)
    exact Own.cut (.inr ⟨b, c, sp, rfl, rfl, h1, h2, h3, h4⟩) (Nat.zero_le _)
  · refine .seq (.region rfl ?_)
    refine .v (.move rfl (.v (.assign rfl ?_)))
    exact .nil (.ret ⟨_, .r1 rfl (.tmp rfl), _, rfl, Own.nil _ _⟩)
theorem Clone_fun (I : Im) (v : Value) (n : Nat) (l : List UInt8) (hl : l.length = n) (hs : Sl I 1 v n (bytesV l)) (hn : n ≤ 70368744177664) :
    Fun Tryd.prog 101 #[v] I (fun v' J => Sl J 1 v' n (bytesV l)) := by
  refine Fun.intro (l := [v]) Tryd.func101 rfl (by kernel_rfl) 8 rfl rfl [(0, v)] rfl fun C hC => ?_
  obtain ⟨a, c, hv, _, _⟩ := id hs.shape
  refine .seq (.region rfl (.v (.assign rfl (.nil ?_))))
  refine .seq (.seq (.region rfl ?_))
  refine .v (.move rfl (.v (.eqlNilS el23.und (a := a) (n := n) (c := c) (by rw [hv]; rfl) rfl ?_)))
  refine .nil (.cond rfl (fun h => .seq (.region rfl ?_)) (fun h => .skip ?_))
  · have ha : a = none := by cases a with | none => rfl | some x => cases h
    subst ha
    have h0 : n = 0 := by
      obtain ⟨a2, c2, e2, h2, h3, h4, h5, h6⟩ := hs
      rw [hv] at e2
      cases e2
      have := h5 rfl
      omega
    subst h0
    have : l = [] := List.eq_nil_of_length_eq_zero hl
    subst this
    refine .v (.assign rfl (.nil (.ret ⟨_, .r1 rfl (.tmp rfl), Sl.nil _ _⟩)))
  · refine .seq (.region rfl (.x (.buildSlice (n := 0) (zs := [u8 0]) (vs := []) (pv := []) el23.und el23.size z5 rfl rfl rfl rfl (by decide) fun b => ?_)))
    refine .v (.move rfl ?_)
    have hown : Own 5 1 (slc b 0 0 0) 0 [] [(b, row [] 5)] := Own.made rfl (by decide)
    refine .s (.append 0 el23 (by decide) (.inl ⟨_, Tryd.underlying23⟩) rfl rfl rfl hown (.sl hs) (ones_map _ _ fun _ => rfl) (by unfold maxLen; omega) (by omega) fun v' X' hown' => ?_)
    refine .v (.assign rfl ?_)
    refine .nil (.freeze 0 rfl (fun p _ hM => by rw [hC] at hM; cases hM) fun J hJ hp => .ret ⟨_, .r1 rfl (.tmp rfl), ?_⟩)
    have := hown'.sl hp
    simpa using this
def lenTo (ps : List (Value × List UInt8)) (k : Nat) : Nat := ((ps.take k).map (·.2.length)).sum
def bytesTo (ps : List (Value × List UInt8)) (k : Nat) : List UInt8 := (ps.take k).flatMap (·.2)
theorem lenTo_succ {ps : List (Value × List UInt8)} {k : Nat} {p : Value × List UInt8} (h : ps[k]? = some p) : lenTo ps (k + 1) = lenTo ps k + p.2.length := by
  simp [lenTo, List.take_add_one, h]
theorem bytesTo_succ {ps : List (Value × List UInt8)} {k : Nat} {p : Value × List UInt8} (h : ps[k]? = some p) : bytesTo ps (k + 1) = bytesTo ps k ++ p.2 := by
  simp [bytesTo, List.take_add_one, h]
theorem lenTo_le (ps : List (Value × List UInt8)) (k : Nat) : lenTo ps k ≤ (ps.map (·.2.length)).sum := by
  unfold lenTo
  conv => rhs; rw [← List.take_append_drop k ps, List.map_append, List.sum_append]
  omega
theorem Concat_fun (I : Im) (t : Value) (ps : List (Value × List UInt8)) (n : Nat) (hn : ps.length = n) (hp : ∀ p ∈ ps, Sl I 1 p.1 p.2.length (bytesV p.2)) (ht : Sl I 1 t n (ps.map (·.1))) (hlen : (ps.map (·.2.length)).sum ≤ 70368744177664) :
    Fun Tryd.prog 105 #[t] I (fun v J => Sl J 1 v (ps.map (·.2.length)).sum (bytesV (ps.flatMap (·.2)))) := by
  obtain ⟨a0, c0, rfl, hl0, hnc, hcm, hnone, hcells⟩ := ht
  refine Fun.intro (l := [.slice a0 n c0]) Tryd.func105 rfl (by kernel_rfl) 36 rfl rfl [(0, .slice a0 n c0)] rfl fun C hC => ?_
  refine .seq (.region rfl (.v (.assign rfl (.nil ?_))))
  refine .seq (.region rfl (.v (.assign rfl (.nil ?_))))
  refine .seq (.seq (.region rfl ?_))
  refine .v (.move rfl (.v (.len Tryd.underlying36 rfl (.v (.move rfl ?_)))))
  refine .nil (.block (.loop (α := Nat) (fun k => [(11, i64 k), (10, i64 n), (9, .slice a0 n c0), (3, i64 (lenTo ps k)), (0, .slice a0 n c0)]) (fun k => []) (fun k _ => k ≤ n) (fun k => n - k) 0 (by omega)
    (.cons rfl (.cons rfl (.cons rfl (.cons rfl (.cons rfl (.nil _)))))) rfl fun k J hJ hk => ?_))
  have hstop : n ≤ 9223372036854775807 := by unfold maxLen at hcm; omega
  refine .seq (.region rfl ?_)
  refine .v (.lss rfl rfl ?_)
  refine .nil (.seq (.condP rfl (fun hlt => .skip ?_) (fun hge => .exit ?_)))
  · have hkn : k < n := by omega
    obtain ⟨p, hpk⟩ : ∃ p, ps[k]? = some p := ⟨_, List.getElem?_eq_getElem (by omega)⟩
    obtain ⟨b, o, rfl, hc⟩ := hcells (by intro e; have := congrArg List.length e; simp at this; simp [this] at hn; omega)
    obtain ⟨ap, cp, hpe, _, _⟩ := id (hp p (List.mem_of_getElem? hpk)).shape
    have hs1 := lenTo_succ hpk
    have hle := lenTo_le ps (k + 1)
    refine .seq (.block (.seq (.region rfl ?_)))
    refine .v (.indexAddrS el36.und el36.size rfl rfl (by omega) (by omega) (.v (.loadC (v := .slice ap p.2.length cp) Tryd.underlying23 rfl rfl (hc.mono hJ) rfl (by rw [← hpe]; simp [hpk]) (.v (.assign rfl ?_)))))
    refine .nil (.seq (.region rfl ?_))
    refine .v (.move rfl (.v (.move rfl (.v (.len Tryd.underlying23 rfl (.v (.add rfl rfl (by omega) (by omega) (.v (.assign rfl ?_)))))))))
    refine .nil (.seq (.region rfl ?_))
    refine .v (.move rfl (.v (.lss rfl rfl ?_)))
    refine .nil (.condP rfl (fun h => by omega) (fun h => .skip ?_))
    refine .region rfl ?_
    refine .v (.add rfl rfl (by omega) (by omega) (.v (.move rfl ?_)))
    refine .nil ⟨k + 1, .cons rfl (.cons rfl (.cons rfl (.cons ?_ (.cons rfl (.nil _))))), rfl, by omega, by omega, hJ⟩
    exact congrArg (fun q => some (i64 q)) (by rw [hs1]; omega)
  · have : k = n := by omega
    subst this
    have htot : lenTo ps k = (ps.map (·.2.length)).sum := by simp [lenTo, ← hn]
    refine .seq (.region rfl (.pad ?_))
    refine .v (.move rfl ?_)
    refine .s (.callM (post := fun v _ L' => ∃ X, L' = [X] ∧ Own 5 1 v 0 [] X) 0 rfl rfl rfl (Grow_fun J (lenTo ps k) (by omega)) (fun v J2 c' hJ2 hpost => ?_) (fun v J L' h => by obtain ⟨X, h, _⟩ := h; exact ⟨X, h⟩))
    obtain ⟨X, hX, hown⟩ := hpost
    cases hX
    refine .v (.assign rfl ?_)
    refine .nil (.seq (.seq (.region rfl ?_)))
    refine .v (.move rfl (.v (.len Tryd.underlying36 rfl (.v (.move rfl ?_)))))
    refine .nil (.block (.loop (α := Nat × Value × List (Nat × Obj)) (fun x => [(27, i64 x.1), (26, i64 k), (25, .slice a0 k c0), (6, x.2.1)]) (fun x => [x.2.2])
      (fun x _ => x.1 ≤ k ∧ Own 5 1 x.2.1 (lenTo ps x.1) (bytesV (bytesTo ps x.1)) x.2.2) (fun x => k - x.1) (0, v, c') ⟨by simp, by simpa [lenTo, bytesTo, bytesV] using hown⟩
      (.cons rfl (.cons rfl (.cons rfl (.cons rfl (.nil _))))) rfl fun x J3 hJ3 hx => ?_))
    obtain ⟨i, v, X⟩ := x
    obtain ⟨hi, hown⟩ := hx
    dsimp only at hi hown ⊢
    refine .seq (.region rfl ?_)
    refine .v (.lss rfl rfl ?_)
    refine .nil (.seq (.condP rfl (fun hlt => .skip ?_) (fun hge => .exit ?_)))
    · have hin : i < k := by omega
      obtain ⟨p, hpk⟩ : ∃ p, ps[i]? = some p := ⟨_, List.getElem?_eq_getElem (by omega)⟩
      obtain ⟨b, o, rfl, hc⟩ := hcells (by intro e; have := congrArg List.length e; simp at this; simp [this] at hn; omega)
      have hs1 := lenTo_succ hpk
      have hb1 := bytesTo_succ hpk
      have hle := lenTo_le ps (i + 1)
      have hJ4 := hJ.trans (hJ2.trans hJ3)
      refine .seq (.block (.seq (.region rfl ?_)))
      refine .v (.indexAddrS el36.und el36.size rfl rfl (by omega) (by omega) (.v (.loadC (v := p.1) Tryd.underlying23 rfl rfl (hc.mono hJ4) rfl (by simp [hpk]) (.v (.assign rfl ?_)))))
      refine .nil (.region rfl ?_)
      refine .v (.move rfl (.v (.move rfl ?_)))
      refine .s (.append 0 el23 (by decide) (.inl ⟨_, Tryd.underlying23⟩) rfl rfl rfl hown (.sl ((hp p (List.mem_of_getElem? hpk)).mono hJ4)) (ones_map _ _ fun _ => rfl) (by unfold maxLen; omega) (by omega) fun v' X' hown' => ?_)
      refine .v (.assign rfl ?_)
      refine .nil (.region rfl ?_)
      refine .v (.add rfl rfl (by omega) (by omega) (.v (.move rfl ?_)))
      refine .nil ⟨(i + 1, v', X'), .cons rfl (.cons rfl (.cons rfl (.cons rfl (.nil _)))), rfl, ⟨hin, ?_⟩, by dsimp only; omega, hJ3⟩
      dsimp only
      rw [hs1, hb1]
      simpa [bytesV] using hown'
    · have : i = k := by omega
      subst this
      refine .seq (.region rfl ?_)
      refine .v (.move rfl (.v (.assign rfl ?_)))
      refine .nil (.freeze 0 rfl (fun p _ hM => by rw [hC] at hM; cases hM) fun J5 hJ5 hp5 => .ret ⟨_, .r1 rfl (.tmp rfl), ?_⟩)
      have := hown.sl hp5
      rw [htot] at this
      have h2 : bytesTo ps i = ps.flatMap (·.2) := by simp [bytesTo, ← hn]
      rw [h2] at this
      exact this
end Go.Proofs.YtiekhjbhlekaeaaDoor
