/- Objects whose slices grow: a slice's value as a cell, slices that are read and appended to, chunks regrouped. -/
import Derived.Test.YtiekhjbhlekaeaaDoorAb
import Derived.Test.YtiekhjbhlekaeaaDoorFl
import Derived.DataReads
set_option linter.unusedVariables false
namespace Go.Ab
open Go.Fl Go.RowKit
open Rep (rep)
/-- A slice's value, as it stands in a cell. -/
structure SlRaw where
  v : Value
instance : Inhabited SlRaw := ⟨⟨.slice none 0 0⟩⟩
instance : Rep SlRaw where
  size := 1
  agg := false
  rep _ x cs := cs = [x.v] ∧ x.v.oneCell' = true
  len h := by simp [h.1]
  mono _ h := h
  one _ := rfl
  flat h := by simp [h.1, ones, h.2]
instance : RepZ SlRaw := ⟨[.slice none 0 0], fun _ => ⟨rfl, rfl⟩⟩
/-- A slice that is read and appended to: it has no spare room, or is the call's own. -/
structure GS (α : Type) where
  E : TypeId
  l : List α
instance {α : Type} [Rep α] : UB (GS α) where
  ub I w x X := (X = [] ∧ RepV I (.vc x.l) w) ∨ (Blk.own x.E w x.l).brep I X
  mono hle h := h.elim (fun h => .inl ⟨h.1, h.2.mono hle⟩) (fun h => .inr (Blk.mono hle h))
theorem gs_one {α : Type} [Rep α] {I : Im} {w : Value} {x : GS α} {X : List (Nat × Obj)} (h : (Blk.usr w x).brep I X) : w.oneCell' = true := by
  rcases h with ⟨_, ⟨a, rfl⟩, _⟩ | ⟨xs, h, _⟩
  · rfl
  · obtain ⟨a, c, rfl⟩ := h.shape; rfl
theorem gs_frz {α : Type} [Rep α] {I J : Im} {w : Value} {x : GS α} {X : List (Nat × Obj)} (h : (Blk.usr w x).brep I X) (hle : Le I J) (hp : ∀ p ∈ X, J p.1 = some p.2) : RepV J (.v x.l) w := by
  rcases h with ⟨_, h⟩ | h
  · exact ⟨[w], ⟨w, rfl, by obtain ⟨xs, h1, h2⟩ := h.2; exact ⟨xs, h1.mono hle, h2.mono hle⟩⟩, rfl⟩
  · exact freeze_own h hle hp
theorem gs_le {α : Type} [Rep α] {I : Im} {w : Value} {x : GS α} {X : List (Nat × Obj)} (h : (Blk.usr w x).brep I X) : x.l.length ≤ 9223372036854775807 ∧ ∃ a c, w = .slice a x.l.length c := by
  rcases h with ⟨_, ⟨a, rfl⟩, xs, ⟨a', c, e, h2, h3, h4, _⟩, _⟩ | ⟨xs, h, _⟩
  · exact ⟨by unfold maxLen at h4; omega, _, _, rfl⟩
  · obtain ⟨a, c, rfl⟩ := h.shape
    exact ⟨h.le, _, _, rfl⟩
section rules
variable {P : Program} {C : Ctx} {N : Nat} {σ : AEnv} {H : AHeap} {d : Option Nat} {ty : TypeId} {ps : String} {af : Array Edge} {g : Option (Nat × Bool)} {K : AV → Prop} {KH : AV → AHeap → Prop} {x y z : Operand} {T T2 E S D U : TypeId} {o : Oper}
/-- A slice's value that was read. -/
theorem OpP.raw {s : SlRaw} (h : OpP P N C o σ H (fun r => r = .v s)) (k : K (.raw s.v)) : OpP P N C o σ H K := fun ρ I L hs a w ha hm => by
  refine (h ρ I L hs a w ha hm).mono ?_
  rintro v w' ⟨J, X, q1, q2, q3, q4, q5, q6, r, q7, rfl⟩
  obtain ⟨cs, ⟨rfl, _⟩, rfl⟩ := q7
  exact ⟨J, X, q1, q2, q3, q4, q5, q6, .raw s.v, rfl, k⟩
theorem OpP.ldR {α : Type} {r : Rep α} {w : Value} {l : Lens α SlRaw} {a : α} {bb : Bool} {F : Bool × Blk → AHeap} (f : α → SlRaw) (tT : TyIs P T SlRaw) (hx : EvA C σ H x (.ln w l)) (hH : Hole H (bb, .ob w a) F) (hf : ∀ x, l.get x = f x) (k : K (.raw (f a).v)) :
    OpP P N C ⟨d, .load T x, ty, ps, af, g⟩ σ H K := .raw (.ldF f tT hx hH hf rfl) k
theorem EvA.gs {α : Type} {r : Rep α} {t : Nat} {w : Value} {s : GS α} {b : Bool} {F : Bool × Blk → AHeap} (ht : lookA σ t = some (.raw w)) (hH : Hole H (b, .usr w s) F) : EvA C σ H (.tmp t) (.v (SlRaw.mk w)) := fun ρ I L hs => by
  obtain ⟨u, h1, rfl⟩ := hs.env t _ ht
  obtain ⟨i, X, h2, h3, _⟩ := hH.get hs.heap
  exact ⟨_, h1, [u], ⟨rfl, gs_one h3.1⟩, rfl⟩
theorem EvA.vcR {α : Type} {r : Rep α} {t : Nat} {w : Value} {l : List α} {b : Bool} {F : Bool × Blk → AHeap} (ht : lookA σ t = some (.raw w)) (hH : Hole H (b, .fz w (.v l)) F) : EvA C σ H (.tmp t) (.v (SlRaw.mk w)) := fun ρ I L hs => by
  obtain ⟨u, h1, rfl⟩ := hs.env t _ ht
  obtain ⟨i, X, h2, h3, _⟩ := hH.get hs.heap
  obtain ⟨cs, ⟨v, rfl, xs, ⟨a, c, rfl, _⟩, _⟩, rfl⟩ := h3.1.2
  exact ⟨_, h1, _, ⟨rfl, rfl⟩, rfl⟩
theorem EvL.gs {α : Type} {r : Rep α} {t : Nat} {w : Value} {s : GS α} {b : Bool} {F : Bool × Blk → AHeap} (ht : lookA σ t = some (.raw w)) (hH : Hole H (b, .usr w s) F) : EvL C σ H (.tmp t) (.v s.l) := fun ρ I L hs => by
  obtain ⟨u, h1, rfl⟩ := hs.env t _ ht
  obtain ⟨i, X, h2, h3, _⟩ := hH.get hs.heap
  exact ⟨_, h1, fun J hle hp => gs_frz h3.1 hle (fun p hpx => hp p (mem_chunk h2 hpx))⟩
theorem OpP.lenGS {α : Type} {r : Rep α} {t : Nat} {w : Value} {s : GS α} {b : Bool} {F : Bool × Blk → AHeap} (hT : P.underlying T = some (.slice E)) (hx : lookA σ t = some (.raw w)) (hH : Hole H (b, .usr w s) F) (k : K (.v (s.l.length : Int))) :
    OpP P N C ⟨d, .call ⟨.builtin .len, #[.tmp t], #[T]⟩, ty, ps, af, g⟩ σ H K :=
  .vk k (fun ρ I L hs => by
    obtain ⟨u, h1, rfl⟩ := hs.env t _ hx
    obtain ⟨i, X, h2, h3, _⟩ := hH.get hs.heap
    obtain ⟨hle, a, c, rfl⟩ := gs_le h3.1
    exact .len hT h1 ⟨_, ⟨rfl, by omega, by omega⟩, rfl⟩)
/-- The two kinds of a slice that grows. -/
theorem wpA.gsCases {Q : Exit → AEnv → AHeap → Prop} {α : Type} {r : Rep α} {w : Value} {s : GS α} {b : Bool} {c : Code} {F : Bool × Blk → AHeap} (hH : Hole H (b, .usr w s) F) (k1 : wpA P C N c Q σ (F (b, .fz w (.vc s.l)))) (k2 : wpA P C N c Q σ (F (b, .own s.E w s.l))) : wpA P C N c Q σ H := fun ρ I L hs => by
  obtain ⟨i, X, h2, h3, h4⟩ := hH.get hs.heap
  have hset : L.set i X = L := by
    obtain ⟨hi, e⟩ := List.getElem?_eq_some_iff.1 h2
    rw [← e, List.set_getElem_self]
  rcases h3.1 with h | h
  · have := h4 I (b, .fz w (.vc s.l)) X (Le.refl I) ⟨h, h3.2⟩
    rw [hset] at this
    exact k1 ρ I L ⟨hs.env, this, hs.im0⟩
  · have := h4 I (b, .own s.E w s.l) X (Le.refl I) ⟨h, h3.2⟩
    rw [hset] at this
    exact k2 ρ I L ⟨hs.env, this, hs.im0⟩
/-- What is clipped may grow. -/
theorem wpA.gsOfC {Q : Exit → AEnv → AHeap → Prop} {α : Type} {r : Rep α} (E : TypeId) {w : Value} {l : List α} {b : Bool} {c : Code} {F : Bool × Blk → AHeap} (hH : Hole H (b, .fz w (.vc l)) F) (k : wpA P C N c Q σ (F (b, .usr w (GS.mk E l)))) : wpA P C N c Q σ H := fun ρ I L hs => by
  obtain ⟨i, X, h2, h3, h4⟩ := hH.get hs.heap
  have hset : L.set i X = L := by
    obtain ⟨hi, e⟩ := List.getElem?_eq_some_iff.1 h2
    rw [← e, List.set_getElem_self]
  have := h4 I (b, .usr w (GS.mk E l)) X (Le.refl I) ⟨.inl h3.1, h3.2⟩
  rw [hset] at this
  exact k ρ I L ⟨hs.env, this, hs.im0⟩
theorem wpA.gsFrz {Q : Exit → AEnv → AHeap → Prop} (hC : Ctx.Ok C) {α : Type} {r : Rep α} {w : Value} {s : GS α} {c : Code} {F : Bool × Blk → AHeap} (hH : Hole H (true, .usr w s) F) (k : wpA P C N c Q σ (F (true, .fz w (.v s.l)))) : wpA P C N c Q σ H := fun ρ I L hs => by
  obtain ⟨i, X, h1, h2, h3⟩ := hH.get hs.heap
  refine .freeze i h1 (frz_ok hC h2) fun J hle hp => k ρ J _ ⟨(hs.mono hle).env, h3 J _ [] hle ⟨⟨rfl, gs_frz h2.1 hle hp⟩, by simp⟩, hs.im0.trans hle⟩
/-- A slot that holds a value, and a chunk that names what the value is. -/
theorem wpA.name {Q : Exit → AEnv → AHeap → Prop} (t : Nat) {a : AV} {c : Code} (ht : lookA σ t = some a) (k : ∀ w, wpA P C N c Q ((t, .raw w) :: σ) ((true, .fz w a) :: H)) : wpA P C N c Q σ H := fun ρ I L hs => by
  obtain ⟨u, h1, h2⟩ := hs.env t _ ht
  refine wpS.pad (k u ρ I ([] :: L) ⟨fun s b hb => ?_, ⟨[], L, rfl, ⟨⟨rfl, h2⟩, fun _ p hp => by cases hp⟩, hs.heap⟩, hs.im0⟩)
  rw [lookA_cons] at hb
  by_cases e : t = s
  · subst e; simp at hb; subst hb; exact ⟨u, h1, rfl⟩
  · rw [if_neg e] at hb; exact hs.env s b hb
theorem EvA.fzA {t : Nat} {w : Value} {a : AV} {b : Bool} {F : Bool × Blk → AHeap} (ht : lookA σ t = some (.raw w)) (hH : Hole H (b, .fz w a) F) : EvA C σ H (.tmp t) a := fun ρ I L hs => by
  obtain ⟨u, h1, rfl⟩ := hs.env t _ ht
  obtain ⟨i, X, h2, h3, _⟩ := hH.get hs.heap
  exact ⟨_, h1, h3.1.2⟩
theorem EvA.fzC {α : Type} {r : Rep α} {t : Nat} {w : Value} {l : List α} {b : Bool} {F : Bool × Blk → AHeap} (ht : lookA σ t = some (.raw w)) (hH : Hole H (b, .fz w (.vc l)) F) : EvA C σ H (.tmp t) (.v l) := fun ρ I L hs => by
  obtain ⟨u, h1, rfl⟩ := hs.env t _ ht
  obtain ⟨i, X, h2, h3, _⟩ := hH.get hs.heap
  exact ⟨_, h1, [u], ⟨u, rfl, h3.1.2.2⟩, rfl⟩
/-- A slot's value told otherwise. -/
theorem wpA.conv {Q : Exit → AEnv → AHeap → Prop} (t : Nat) {a : AV} (a' : AV) {c : Code} (ht : lookA σ t = some a) (h : ∀ n0 I L u, repH n0 I H L → RepV I a u → RepV I a' u) (k : wpA P C N c Q ((t, a') :: σ) H) : wpA P C N c Q σ H := fun ρ I L hs => by
  refine k ρ I L ⟨fun s b hb => ?_, hs.heap, hs.im0⟩
  rw [lookA_cons] at hb
  by_cases e : t = s
  · subst e; simp at hb; subst hb
    obtain ⟨u, h1, h2⟩ := hs.env t _ ht
    exact ⟨u, h1, h _ I L u hs.heap h2⟩
  · rw [if_neg e] at hb; exact hs.env s b hb
/-- A slot's value in which two parts are named. -/
theorem wpA.name2 {Q : Exit → AEnv → AHeap → Prop} (t : Nat) {a A B : AV} (f : Value → Value → AV) {c : Code} (h : ∀ I u, RepV I a u → ∃ x y, RepV I (f x y) u ∧ RepV I A x ∧ RepV I B y) (ht : lookA σ t = some a)
    (k : ∀ x y, wpA P C N c Q ((t, f x y) :: σ) ((true, .fz x A) :: (true, .fz y B) :: H)) : wpA P C N c Q σ H := fun ρ I L hs => by
  obtain ⟨u, h1, h2⟩ := hs.env t _ ht
  obtain ⟨x, y, h3, h4, h5⟩ := h I u h2
  refine wpS.pad (wpS.pad (k x y ρ I ([] :: [] :: L) ⟨fun s b hb => ?_, ⟨[], _, rfl, ⟨⟨rfl, h4⟩, fun _ p hp => by cases hp⟩, ⟨[], L, rfl, ⟨⟨rfl, h5⟩, fun _ p hp => by cases hp⟩, hs.heap⟩⟩, hs.im0⟩))
  rw [lookA_cons] at hb
  by_cases e : t = s
  · subst e; simp at hb; subst hb; exact ⟨u, h1, h3⟩
  · rw [if_neg e] at hb; exact hs.env s b hb
/-- Appending to a slice without spare room, as the model runs it. -/
theorem appendX {α : Type} {r : Rep α} {i0 : Inhabited α} {by_ : Nat} {l m : List α} {ρ : Env} {I : Im} {L : Lh} {v : Value} {xs news : List Value} {a0 : Option Addr} (st : SlT P T E α by_) (hU : (∃ E2, P.underlying U = some (.slice E2)) ∨ P.underlying U = some .string)
    (h1 : ev ρ x = some (.slice a0 l.length l.length)) (hsl : Sl I (Rep.size α) (.slice a0 l.length l.length) l.length xs) (hrl : repL I l xs) (h2 : ev ρ y = some v) (h3 : Src P I L (Rep.size α) v m.length news) (h4 : repL I m news)
    (hb : (l.length + m.length) * by_ ≤ 140737488355328) (hn : l.length + m.length ≤ 9223372036854775807) :
    OpX P N ⟨d, .call ⟨.builtin .append, #[x, y], #[T, U]⟩, ty, ps, af, g⟩ ρ I L (fun v' J X => J = I ∧ ((X = [] ∧ m = [] ∧ v' = .slice a0 l.length l.length) ∨ ∃ Y, X = [Y] ∧ OwnG E (Rep.size α) v' (l.length + m.length) (xs ++ news) Y)) := by
  obtain ⟨inf, zv, e1, e2, e3, e4, e5⟩ := st.elt.info
  refine OpX.push fun a w ha hm => ?_
  have hcells : ∀ w', w'.heap = w.heap → (Builtin.firstCells inf.size m.length v).run P w' = .ok news.toArray w' := fun w' hw => by
    have hm' : Mem I L w' := ⟨by rw [hw]; exact hm.im, by rw [hw]; exact hm.loc, hm.sep, hm.nodup⟩
    have := h3.cells w' hm' m.length (Nat.le_refl _)
    rw [← h3.size, List.take_length, ← e3] at this; exact this
  have hboth : (l.length + m.length ≤ l.length → (Builtin.append_ #[T, U] ty #[.slice a0 l.length l.length, v]).run P w = ((match a0 with | some ad => storeCells (ad.add (l.length * inf.size)) news | none => pure ()).run P w).andThen fun _ w' => .ok (.slice a0 (l.length + m.length) l.length) w') ∧
    (l.length < l.length + m.length → ∀ olds, ((Builtin.firstCells inf.size l.length (.slice a0 l.length l.length)).run P w.drew = .ok olds w.drew) →
      (Builtin.append_ #[T, U] ty #[.slice a0 l.length l.length, v]).run P w = .ok (.slice (some ⟨w.heap.size, 0, none⟩) (l.length + m.length) (grownCap w (l.length + m.length) l.length E))
        (w.drew.alloc (.cells (olds ++ news.toArray ++ Builtin.zeroCells zv.cells (grownCap w (l.length + m.length) l.length E - (l.length + m.length))) E))) := by
    rcases hU with ⟨E2, hU⟩ | hU
    · exact run_append_sl st.elt.und e1 e2 hU h3.len hcells hn (by rw [e4]; exact hb)
    · exact run_append_str st.elt.und e1 e2 hU h3.len hcells hn (by rw [e4]; exact hb)
  have hop : ∀ r, (Builtin.append_ #[T, U] ty #[.slice a0 l.length l.length, v]).run P w = r → (execOp a.eval ⟨d, .call ⟨.builtin .append, #[x, y], #[T, U]⟩, ty, ps, af, g⟩).run P w = r.andThen fun v w' => .ok (.value v) w' := fun r hr => by
    simp [execOp, resolve, invoke, builtin, ha.ev h1, ha.ev h2, hr]
  by_cases h0 : m.length = 0
  · have hm0 : m = [] := List.eq_nil_of_length_eq_zero h0
    subst hm0
    have hnw : news = [] := by simpa [repL] using h4
    subst hnw
    left
    refine ⟨.slice a0 l.length l.length, ?_, rfl, .inl ⟨rfl, rfl, rfl⟩⟩
    rw [hop _ (hboth.1 (by simp))]
    cases a0 <;> simp [storeCells]
  · right
    have hold : (Builtin.firstCells inf.size l.length (.slice a0 l.length l.length)).run P w.drew = .ok xs.toArray w.drew := by
      have hm' : Mem I L w.drew := ⟨hm.im, hm.loc, hm.sep, hm.nodup⟩
      have := (Src.sl (P := P) (L := L) hsl).cells w.drew hm' l.length (Nat.le_refl _)
      rw [← hsl.len, List.take_length, ← e3] at this; exact this
    have hr := hboth.2 (by omega) _ hold
    have hge := grownCap_ge w (l.length + m.length) l.length E
    have hcm : grownCap w (l.length + m.length) l.length E ≤ maxLen := grownCap_le_maxLen w _ _ E (by unfold maxLen; omega)
    refine ⟨.slice (some ⟨w.heap.size, 0, none⟩) (l.length + m.length) (grownCap w (l.length + m.length) l.length E), w.drew.alloc (.cells (xs.toArray ++ news.toArray ++ Builtin.zeroCells zv.cells (grownCap w (l.length + m.length) l.length E - (l.length + m.length))) E),
      .cells (xs.toArray ++ news.toArray ++ Builtin.zeroCells zv.cells (grownCap w (l.length + m.length) l.length E - (l.length + m.length))) E, by rw [hop _ hr]; rfl, rfl, rfl, rfl, rfl, rfl, .inr ⟨_, rfl, ?_⟩⟩
    have hxl : xs.length = l.length * Rep.size α := hsl.len
    have hnl : news.length = m.length * Rep.size α := h3.size
    refine .inr ⟨w.heap.size, grownCap w (l.length + m.length) l.length E, (Builtin.zeroCells zv.cells (grownCap w (l.length + m.length) l.length E - (l.length + m.length))).toList, (0, 0), rfl, ?_, ?_, ?_, hge, hcm, .inl rfl⟩
    · congr 3
      apply Array.ext'; simp
    · rw [List.length_append, hxl, hnl, Nat.add_mul]
    · have hz : (Builtin.zeroCells zv.cells (grownCap w (l.length + m.length) l.length E - (l.length + m.length))).size = (grownCap w (l.length + m.length) l.length E - (l.length + m.length)) * Rep.size α := by
        rw [size_zeroCells, e5]
      simp only [List.length_append, Array.length_toList, hz, hxl, hnl, ← Nat.add_mul]
      congr 1; omega
theorem OpH.appendGS {α : Type} {r : Rep α} {i0 : Inhabited α} {by_ t : Nat} {w : Value} {l m : List α} {bb : Bool} {F : Bool × Blk → AHeap} (st : SlT P T E α by_) (hU : (∃ E2, P.underlying U = some (.slice E2)) ∨ P.underlying U = some .string) (hx : lookA σ t = some (.raw w))
    (hH : Hole H (bb, .usr w (GS.mk E l)) F) (hy : SrcA P C σ H y m) (hb : (l.length + m.length) * by_ ≤ 140737488355328) (hn : l.length + m.length ≤ 9223372036854775807) (k : ∀ w', KH (.raw w') (F (bb, .usr w' (GS.mk E (l ++ m))))) :
    OpH P C N ⟨d, .call ⟨.builtin .append, #[.tmp t, y], #[T, U]⟩, ty, ps, af, g⟩ σ H KH := fun ρ I L hs => by
  obtain ⟨u, h1, rfl⟩ := hs.env t _ hx
  obtain ⟨v, news, h2, h3, h4⟩ := hy ρ I L hs
  obtain ⟨j, X, h5, h6, h7⟩ := hH.get hs.heap
  have hfr := h6.2
  have hall : (n0 : Nat) → n0 = C.w0.heap.size → ∀ v' J (X' : List (Nat × Obj)), J = I → (Blk.usr v' (GS.mk E (l ++ m))).brep J X' → (∀ p ∈ X', p.1 ∈ X.map Prod.fst ∨ C.w0.heap.size ≤ p.1) →
      Le I J ∧ ∃ r H', RepV J r v' ∧ repH C.w0.heap.size J H' (L.set j X') ∧ KH r H' := fun n0 hn0 v' J X' hJ hbr hnew => by
    subst hJ
    refine ⟨Le.refl J, .raw v', _, rfl, h7 J (bb, .usr v' (GS.mk E (l ++ m))) X' (Le.refl J) ⟨hbr, fun hbb p hp => ?_⟩, k v'⟩
    rcases hnew p hp with h | h
    · obtain ⟨q, hq, hqe⟩ := List.mem_map.1 h
      rw [← hqe]; exact hfr hbb q hq
    · exact h
  have hal := hall _ rfl
  rcases h6.1 with ⟨rfl, ⟨a0, rfl⟩, xs, hsl, hrl⟩ | ⟨xs, h8, h9⟩
  · intro a w0 ha hst
    refine Yld.mono (appendX (x := .tmp t) st hU (show ev ρ (.tmp t) = _ from h1) hsl hrl h2 h3 h4 hb hn a w0 ha hst.mem) ?_
    rintro v' w' ⟨J, X', q1, q2, q3, q4, q5, rfl, ⟨rfl, rfl, rfl⟩ | ⟨Y, rfl, hown⟩⟩
    · have hset : L.set j [] = L := by
        obtain ⟨hi, e⟩ := List.getElem?_eq_some_iff.1 h5
        rw [← e, List.set_getElem_self]
      have h10 := hal _ J [] rfl (by rw [List.append_nil]; exact .inl ⟨rfl, ⟨_, rfl⟩, xs, hsl, hrl⟩) (by simp)
      rw [hset] at h10
      exact ⟨J, _, hst.step q1 q2 q3 q4 q5, by simpa using h10⟩
    · have hstep := hst.step q1 q2 q3 q4 q5
      refine ⟨J, L.set j Y, stPerm hstep (by simpa using flatten_move h5 Y), hal _ J Y rfl (.inr ⟨xs ++ news, by rw [List.length_append]; exact hown, hrl.append h4⟩) fun p hp => .inr (Nat.le_trans hst.chg.size (q5 p (by simpa using hp)))⟩
  · intro a w0 ha hst
    refine Yld.mono (OpS.appendG (K := fun v' J L' => ∃ X', L' = L.set j X' ∧ J = I ∧ OwnG E (Rep.size α) v' (l.length + m.length) (xs ++ news) X' ∧ (∀ p ∈ X', p.1 ∈ X.map Prod.fst ∨ C.w0.heap.size ≤ p.1)) j st.elt st.pos hU (x := .tmp t) h1 h2 h5 h8 h3 h4.flat (by unfold maxLen; omega) hb (fun v' X' ho hn => ⟨X', rfl, rfl, ho, hn⟩) a w0 ha hst) ?_
    rintro v' w' ⟨J, L', hst', X', rfl, rfl, ho, hnew⟩
    exact ⟨J, _, hst', hal v' J X' rfl (.inr ⟨xs ++ news, by rw [List.length_append]; exact ho, h9.append h4⟩) hnew⟩
end rules
/-- Chunks picked out of a heap. -/
def Sel (H : AHeap) (Hs : List Blk) : Prop := ∀ n0 I L, repH n0 I H L → ∃ L' R, (L'.flatten ++ R).Perm L.flatten ∧ repK I Hs L'
theorem Sel.nil {H : AHeap} : Sel H [] := fun n0 I L h => ⟨[], L.flatten, by simp, rfl⟩
theorem Sel.cons {H : AHeap} {b : Bool} {B : Blk} {Hs : List Blk} {F : Bool × Blk → AHeap} (hh : Hole H (b, B) F) (h : Sel (F hole0) Hs) : Sel H (B :: Hs) := fun n0 I L hL => by
  obtain ⟨i, X, h1, h2, h3⟩ := hh.get hL
  have h4 := h3 I hole0 [] (Le.refl I) ⟨⟨rfl, trivial⟩, fun _ p hp => by cases hp⟩
  obtain ⟨L', R, h5, h6⟩ := h n0 I _ h4
  refine ⟨X :: L', R, ?_, X, L', rfl, h2.1, h6⟩
  have h7 : (L.set i [])[i]? = some [] := by
    have hi := (List.getElem?_eq_some_iff.1 h1).1
    simp [hi]
  have h8 := flatten_move h7 X
  have h9 : (L.set i []).set i X = L := by
    obtain ⟨hi, e⟩ := List.getElem?_eq_some_iff.1 h1
    rw [List.set_set, ← e, List.set_getElem_self]
  rw [h9] at h8
  rw [List.flatten_cons, List.append_assoc]
  exact (List.Perm.append_left X h5).trans h8.symm
theorem Sel.gs {H : AHeap} {b : Bool} {α : Type} {r : Rep α} {w : Value} {s : GS α} {Hs : List Blk} {F : Bool × Blk → AHeap} {B : Blk} (hB : ∀ I X, B.brep I X → (Blk.usr w s).brep I X) (hh : Hole H (b, B) F) (h : Sel (F hole0) Hs) : Sel H (.usr w s :: Hs) := fun n0 I L hL => by
  obtain ⟨L', R, h1, X, L2, rfl, h2, h3⟩ := Sel.cons hh h n0 I L hL
  exact ⟨X :: L2, R, h1, X, L2, rfl, hB I X h2, h3⟩
theorem Sel.gsC {H : AHeap} {b : Bool} {α : Type} {r : Rep α} {w : Value} {s : GS α} {Hs : List Blk} {F : Bool × Blk → AHeap} (hh : Hole H (b, .fz w (.vc s.l)) F) (h : Sel (F hole0) Hs) : Sel H (.usr w s :: Hs) := .gs (B := .fz w (.vc s.l)) (fun I X h => .inl h) hh h
theorem Sel.gsO {H : AHeap} {b : Bool} {α : Type} {r : Rep α} {w : Value} {s : GS α} {Hs : List Blk} {F : Bool × Blk → AHeap} (hh : Hole H (b, .own s.E w s.l) F) (h : Sel (F hole0) Hs) : Sel H (.usr w s :: Hs) := .gs (B := .own s.E w s.l) (fun I X h => .inr h) hh h
/-- As FunH.intro; at the end some chunks are picked and the others forgotten. -/
theorem FunH.introS {G : Gl} {P : Program} {f : FuncId} {fn : Func} {c : Code} {as : List AV} {Hs : List Blk} {post : AV → List Blk → Prop} (hf : P.funcs[f]? = some fn) (hb : fn.body = some c) (hn : (fn.name == "runtime.NumGoroutine") = false)
    (N : Nat) (hN : fn.ntmps = N) (hl : Nat.ble as.length N = true) (σ : AEnv) (hσ : argA as 0 = σ) (H0 : AHeap) (hH : Hs.map (fun B => (false, B)) = H0)
    (h : ∀ C : Ctx, Ctx.Ok C → G.p C.I0 → wpA P C N c (endA P fn C (fun r H => ∃ Hs', Sel H Hs' ∧ post r Hs')) σ H0) : FunH G P f as Hs post := fun I L vs hG hvs hL =>
  ⟨⟨fn, hf, hn, by simp [hb]⟩, fun w hm => calls_body hf hb N hN (by rw [hvs.len]; exact hl) hm (M := L.flatten.map Prod.fst) (fun p hp => List.mem_map_of_mem hp)
    ((h ⟨w, L.flatten.map Prod.fst, I⟩ (fun k hk => by
        obtain ⟨p, hp, rfl⟩ := List.mem_map.1 hk
        exact lt_of_get (hm.loc p hp)) hG (argEnv vs 0) I L ⟨by rw [← hσ]; exact hvs.env 0, by rw [← hH]; exact hL.toH, Le.refl I⟩).mono fun e ρ J L hq => endA.q hq)
    fun v J L' w' hs hp => by
      obtain ⟨r, H, h1, h2, Hs', h3, h4⟩ := hp
      obtain ⟨L2, R, h5, h6⟩ := h3 _ J L' h2
      have hin : ∀ p ∈ L2.flatten, p ∈ L'.flatten := fun p hp => h5.mem_iff.1 (List.mem_append_left _ hp)
      refine ⟨v, J, L2, rfl, hs.chg, hs.im0, fun b h0 h1 => hs.new b h0 h1, ⟨hs.mem.im, fun p hp => hs.mem.loc p (hin p hp), fun p hp => hs.mem.sep p (hin p hp), ?_⟩, fun p hp => hs.own p (hin p hp), r, _, h1, h6, h4⟩
      have := (h5.map Prod.fst).nodup_iff.2 hs.mem.nodup
      rw [List.map_append, List.nodup_append] at this
      exact this.1⟩
theorem FunH.mono {G : Gl} {P : Program} {f : FuncId} {as : List AV} {Hs : List Blk} {post post' : AV → List Blk → Prop} (h : FunH G P f as Hs post) (hp : ∀ r Hs, post r Hs → post' r Hs) : FunH G P f as Hs post' := fun I L vs hG hvs hL => by
  have hM := h I L vs hG hvs hL
  refine ⟨hM.ok, fun w hm => (hM.run w hm).mono ?_⟩
  rintro e w' ⟨v, J, L', rfl, q1, q2, q3, q4, q5, r, Hs', q6, q7, q8⟩
  exact ⟨v, J, L', rfl, q1, q2, q3, q4, q5, r, Hs', q6, q7, hp r Hs' q8⟩
/-- A function that clips a slice makes a slice that may grow. -/
theorem FunA.gs {G : Gl} {P : Program} {f : FuncId} {as : List AV} {α : Type} [r : Rep α] {l : List α} (E : TypeId) (h : FunA G P f as (fun r => r = .vc l)) : FunH G P f as [] (fun r Hs => ∃ u, r = .raw u ∧ Hs = [.usr u (GS.mk E l)]) := fun I L vs hG hvs hL => by
  have hL0 : L = [] := hL
  subst hL0
  have hF := h I vs hG hvs
  refine ⟨hF.ok, fun w hm => (hF.run w hm).mono ?_⟩
  rintro e w' ⟨v, J, rfl, q1, q2, q3, q4, r, q5, rfl⟩
  exact ⟨v, J, [[]], rfl, by simpa using q1, q2, q3, ⟨q4.im, by simp, by simp, by simp⟩, by simp, .raw v, [.usr v (GS.mk E l)], rfl, ⟨[], [], rfl, .inl ⟨rfl, q5⟩, rfl⟩, v, rfl, rfl⟩
/-- Chunks regrouped. -/
theorem FunH.regroup {G : Gl} {P : Program} {f : FuncId} {as : List AV} {B0 : List Blk} {post : AV → List Blk → Prop}
    (h : ∀ I L vs, RepVs I as vs → repK I B0 L → ∃ as' Bs L0, L0.flatten = L.flatten ∧ RepVs I as' vs ∧ repK I Bs L0 ∧ FunH G P f as' Bs (fun r Hs => ∀ J L1, repK J Hs L1 → ∃ Hs2 L2, L2.flatten = L1.flatten ∧ repK J Hs2 L2 ∧ post r Hs2)) : FunH G P f as B0 post := fun I L vs hG hvs hL => by
  obtain ⟨as', Bs, L0, e, hvs', hB, hF⟩ := h I L vs hvs hL
  have hM := hF I L0 vs hG hvs' hB
  refine ⟨hM.ok, fun w hm => (hM.run w ⟨hm.im, by rw [e]; exact hm.loc, by rw [e]; exact hm.sep, by rw [e]; exact hm.nodup⟩).mono ?_⟩
  rintro e' w' ⟨v, J, L', rfl, q1, q2, q3, q4, q5, r, Hs', q6, q7, q8⟩
  obtain ⟨Hs2, L2, e2, q9, q10⟩ := q8 J L' q7
  rw [e] at q1 q5
  exact ⟨v, J, L2, rfl, q1, q2, q3, ⟨q4.im, by rw [e2]; exact q4.loc, by rw [e2]; exact q4.sep, by rw [e2]; exact q4.nodup⟩, by rw [e2]; exact q5, r, Hs2, q6, q9, q10⟩
end Go.Ab
/- As AbY; what a pure operation reads may turn by links of the chain that wait for it; operations behind a link of the chain may be pure. -/
set_option linter.unusedVariables false
namespace Go.Ab
open Go.Fl Go.RowKit
open Rep (rep)
def leB : List Bool → List Bool → Bool
  | [], _ => true
  | a :: as, [] => !a && leB as []
  | a :: as, b :: bs => (!a || b) && leB as bs
theorem famT_nil (H : AHeap) (f : Nat → Bool × Blk) (k : Nat) : famT [] H f k = H := by simp [famT]
theorem famT_le : ∀ {a b : List Bool}, leB a b = true → ∀ (H : AHeap) (f : Nat → Bool × Blk) (k : Nat), ∃ f', famT a H f k = famT b H f' k
  | a, b, h, [], f, k => ⟨f, by cases a <;> cases b <;> simp [famT]⟩
  | [], b, h, B :: H, f, k => ⟨fun j => (B :: H).getD (j - k) hole0, by
      rw [famT_nil]
      have key : ∀ (b : List Bool) (G : AHeap) (j : Nat), (∀ m, m < G.length → (B :: H).getD (j + m - k) hole0 = G.getD m hole0) → G = famT b G (fun j => (B :: H).getD (j - k) hole0) j := by
        intro b
        induction b with
        | nil => intro G j _; rw [famT_nil]
        | cons x b ih =>
          intro G j hG
          cases G with
          | nil => simp [famT]
          | cons A G =>
            have h0 := hG 0 (by simp)
            simp only [famT]
            have h1 : (bif x then (B :: H).getD (j - k) hole0 else A) = A := by
              cases x
              · rfl
              · simpa using h0
            rw [h1, ← ih G (j + 1) (fun m hm => by
              have := hG (m + 1) (by simp; omega)
              rw [show j + 1 + m - k = j + (m + 1) - k by omega, this]; simp)]
      exact key b (B :: H) k (fun m hm => by rw [show k + m - k = m by omega])⟩
  | x :: a, [], h, B :: H, f, k => by
    simp only [leB, Bool.and_eq_true, Bool.not_eq_true'] at h
    obtain ⟨f', hf'⟩ := famT_le (b := []) h.2 H f (k + 1)
    rw [famT_nil] at hf'
    exact ⟨f, by rw [famT_nil]; simp only [famT, h.1, cond_false, hf']⟩
  | x :: a, y :: b, h, B :: H, f, k => by
    simp only [leB, Bool.and_eq_true] at h
    obtain ⟨f', hf'⟩ := famT_le h.2 H f (k + 1)
    have hcongr : ∀ (b : List Bool) (H : AHeap) (f g : Nat → Bool × Blk) (k : Nat), (∀ j, k ≤ j → f j = g j) → famT b H f k = famT b H g k := by
      intro b
      induction b with
      | nil => intro H f g k _; rw [famT_nil, famT_nil]
      | cons x b ih =>
        intro H f g k hfg
        cases H with
        | nil => simp [famT]
        | cons A H => simp only [famT]; rw [hfg k (Nat.le_refl _), ih H f g (k + 1) (fun j hj => hfg j (by omega))]
    refine ⟨fun j => if j = k then (bif x then f k else B) else f' j, ?_⟩
    simp only [famT, if_true]
    rw [hf', hcongr b H f' (fun j => if j = k then (bif x then f k else B) else f' j) (k + 1) (fun j hj => by rw [if_neg (by omega)])]
    cases x with
    | false => cases y <;> rfl
    | true =>
      have : y = true := by simpa using h.1
      subst this; rfl
def chainQ (P : Program) (N : Nat) (C : Ctx) (σ0 : AEnv) {ι : Type 1} (HT : Nat → ι → AHeap) (ci : List Nat) (F : List (Nat × AV) → Prop) : List Oper → List (List (Nat × Nat)) → Nat → List (Nat × AV) → Prop
  | [], _, _, acc => F acc
  | o :: os, s :: ss, k, acc => bif ci.contains k then chainQ P N C σ0 HT ci F os ss (k + 1) acc ∨ ∃ r, chainQ P N C σ0 HT ci F os ss (k + 1) ((k, r) :: acc) else ∃ r, dutyQ P N C σ0 (HT k) acc o s r ∧ chainQ P N C σ0 HT ci F os ss (k + 1) ((k, r) :: acc)
  | _, [], _, _ => False
theorem chainQ_elim {P : Program} {N : Nat} {C : Ctx} {σ0 : AEnv} {ι : Type 1} {HT : Nat → ι → AHeap} {ci : List Nat} {F : List (Nat × AV) → Prop} : ∀ (os : List Oper) (ss : List (List (Nat × Nat))) (k : Nat) (acc : List (Nat × AV)), (∀ j r, lookR acc j = some r → j < k) → chainQ P N C σ0 HT ci F os ss k acc →
    ∃ full, F full ∧ (∀ j, j < k → lookR full j = lookR acc j) ∧
      ∀ i o s, os[i]? = some o → ss[i]? = some s → k + i ∉ ci → ∃ r acc', lookR full (k + i) = some r ∧ dutyQ P N C σ0 (HT (k + i)) acc' o s r ∧ ∀ j, j < k + i → lookR acc' j = lookR full j
  | [], ss, k, acc, hacc, h => ⟨acc, by cases ss <;> exact h, fun _ _ => rfl, fun i o s ho => by simp at ho⟩
  | o :: os, [], k, acc, _, h => h.elim
  | o :: os, s :: ss, k, acc, hacc, h => by
    simp only [chainQ] at h
    have hacc2 : ∀ r, ∀ j q, lookR ((k, r) :: acc) j = some q → j < k + 1 := fun r j q hj => by
      rw [lookR_cons] at hj
      by_cases e : k = j
      · omega
      · rw [if_neg e] at hj; have := hacc j q hj; omega
    cases hc : ci.contains k with
    | true =>
      rw [hc] at h
      simp only [cond_true] at h
      have fin : ∀ acc2, (∀ j, j < k → lookR acc2 j = lookR acc j) → (∀ j r, lookR acc2 j = some r → j < k + 1) → chainQ P N C σ0 HT ci F os ss (k + 1) acc2 → ∃ full, F full ∧ (∀ j, j < k → lookR full j = lookR acc j) ∧
          ∀ i o' s', (o :: os)[i]? = some o' → (s :: ss)[i]? = some s' → k + i ∉ ci → ∃ r acc', lookR full (k + i) = some r ∧ dutyQ P N C σ0 (HT (k + i)) acc' o' s' r ∧ ∀ j, j < k + i → lookR acc' j = lookR full j := fun acc2 ha hb h => by
        obtain ⟨full, hF, h1, h3⟩ := chainQ_elim os ss (k + 1) acc2 hb h
        refine ⟨full, hF, fun j hj => (h1 j (by omega)).trans (ha j hj), fun i o' s' ho hs hni => ?_⟩
        cases i with
        | zero => exact absurd (by simpa using hc) hni
        | succ i =>
          have e : k + (i + 1) = k + 1 + i := by omega
          rw [e]
          exact h3 i o' s' (by simpa using ho) (by simpa using hs) (by rw [← e]; exact hni)
      rcases h with h | ⟨r, h⟩
      · exact fin acc (fun _ _ => rfl) (fun j r hj => Nat.lt_succ_of_lt (hacc j r hj)) h
      · exact fin ((k, r) :: acc) (fun j hj => by rw [lookR_cons, if_neg (by omega)]) (hacc2 r) h
    | false =>
      rw [hc] at h
      simp only [cond_false] at h
      obtain ⟨r, hd, h⟩ := h
      obtain ⟨full, hF, h1, h3⟩ := chainQ_elim os ss (k + 1) ((k, r) :: acc) (hacc2 r) h
      refine ⟨full, hF, fun j hj => by rw [h1 j (by omega), lookR_cons, if_neg (by omega)], fun i o' s' ho hs hni => ?_⟩
      cases i with
      | zero =>
        simp only [List.getElem?_cons_zero, Option.some.injEq] at ho hs
        subst ho; subst hs
        refine ⟨r, acc, by rw [Nat.add_zero, h1 k (by omega), lookR_cons, if_pos rfl], hd, fun j hj => ?_⟩
        rw [Nat.add_zero] at hj
        rw [h1 j (by omega), lookR_cons, if_neg (by omega)]
      | succ i =>
        have e : k + (i + 1) = k + 1 + i := by omega
        rw [e]
        exact h3 i o' s' (by simpa using ho) (by simpa using hs) (by rw [← e]; exact hni)
def famOk (ops : Array Oper) (n : Nat) (ks ci : List Nat) (bks qs : List (List Bool)) : Bool :=
  (List.range n).all fun i => ks.contains i || ci.contains i || (List.range (ci.length + 1)).all fun k => (List.range k).any (fun m => match ci[m]? with | some j => Region.waitsFor .any ops j i | none => false) || leB (bks.getD k []) (qs.getD i [])
theorem envOf_congr' {σ0 : AEnv} {a b : List (Nat × AV)} {s : List (Nat × Nat)} : ∀ {ts : List Nat}, (∀ t ∈ ts, ∀ j, srcOf s t = some j → lookR a j = lookR b j) → envOf σ0 a s ts = envOf σ0 b s ts
  | [], _ => rfl
  | t :: ts, h => by
    simp only [envOf]
    have h1 := envOf_congr' (σ0 := σ0) (fun u hu => h u (List.mem_cons_of_mem _ hu))
    cases hs : srcOf s t with
    | none => simp only [h1]
    | some j => simp only [h t List.mem_cons_self j hs, h1]
def lateQ (P : Program) (N : Nat) (C : Ctx) (σ0 : AEnv) {ι : Type 1} (HT : ι → AHeap) (acc : List (Nat × AV)) (o : Oper) (s : List (Nat × Nat)) (r : AV) : Prop := ∀ Hp, OpP P N C o (envOf σ0 acc s (opTmps o)) (HT Hp) (fun r' => r' = r)
def prom (P : Program) (N : Nat) (C : Ctx) (σ0 : AEnv) {ι : Type 1} (HT : Nat → ι → AHeap) (accP : List (Nat × AV)) : List (Nat × Oper × List (Nat × Nat)) → List (Nat × AV) → (List (Nat × AV) → Prop) → Prop
  | [], c, K => K c
  | (i, o, s) :: rest, c, K => ∃ r, lateQ P N C σ0 (HT i) (c ++ accP) o s r ∧ prom P N C σ0 HT accP rest ((i, r) :: c) K
def srcFree (ss : List (List (Nat × Nat))) (i : Nat) (L : List Nat) : Bool := match ss[i]? with | some s => s.all (fun p => !(L.contains p.2)) | none => true
theorem srcFree_get {ss : List (List (Nat × Nat))} {i : Nat} {L : List Nat} {s : List (Nat × Nat)} (h : srcFree ss i L = true) (hs : ss[i]? = some s) {t j : Nat} (hj : srcOf s t = some j) : j ∉ L := by
  unfold srcFree at h
  rw [hs] at h
  have h2 := List.all_eq_true.1 h (t, j) (srcOf_mem hj)
  simpa using h2
def lateL (ss : List (List (Nat × Nat))) : List Nat → Bool
  | [] => true
  | i :: r => srcFree ss i (i :: r) && !(r.contains i) && lateL ss r
theorem clOf_mem {l : List Oper} {ss : List (List (Nat × Nat))} (L : List Nat) {i : Nat} {o : Oper} {s : List (Nat × Nat)} (hi : i ∈ L) (ho : l[i]? = some o) (hs : ss[i]? = some s) : (i, o, s) ∈ clOf l ss L := by
  induction L with
  | nil => cases hi
  | cons j L ih =>
    rcases List.mem_cons.1 hi with rfl | hi
    · simp only [clOf, ho, hs]; exact List.mem_cons_self
    · have := ih hi
      simp only [clOf]
      split
      · exact List.mem_cons_of_mem _ this
      · exact this
theorem prom_elim {P : Program} {N : Nat} {C : Ctx} {σ0 : AEnv} {ι : Type 1} {HT : Nat → ι → AHeap} {accP : List (Nat × AV)} {l : List Oper} {ss : List (List (Nat × Nat))} {K : List (Nat × AV) → Prop} : ∀ {L : List Nat} {c : List (Nat × AV)}, lateL ss L = true → prom P N C σ0 HT accP (clOf l ss L) c K →
    ∃ c', K c' ∧ (∀ j, j ∉ L → lookR c' j = lookR c j) ∧ ∀ i o s, i ∈ L → l[i]? = some o → ss[i]? = some s → ∃ r, lookR c' i = some r ∧ lateQ P N C σ0 (HT i) (c' ++ accP) o s r
  | [], c, _, h => ⟨c, h, fun _ _ => rfl, fun i o s hi => by cases hi⟩
  | i :: L, c, hL, h => by
    simp only [lateL, Bool.and_eq_true, Bool.not_eq_true', List.contains_eq_mem, decide_eq_false_iff_not] at hL
    obtain ⟨⟨h1, h2⟩, h3⟩ := hL
    cases ho : l[i]? with
    | none =>
      simp only [clOf, ho] at h
      obtain ⟨c', k1, k2, k3⟩ := prom_elim h3 h
      exact ⟨c', k1, fun j hj => k2 j (fun hx => hj (List.mem_cons_of_mem _ hx)), fun i' o s hi ho' hs => by
        rcases List.mem_cons.1 hi with rfl | hi
        · rw [ho] at ho'; cases ho'
        · exact k3 i' o s hi ho' hs⟩
    | some o =>
      cases hs : ss[i]? with
      | none =>
        simp only [clOf, ho, hs] at h
        obtain ⟨c', k1, k2, k3⟩ := prom_elim h3 h
        exact ⟨c', k1, fun j hj => k2 j (fun hx => hj (List.mem_cons_of_mem _ hx)), fun i' o s hi ho' hs' => by
          rcases List.mem_cons.1 hi with rfl | hi
          · rw [hs] at hs'; cases hs'
          · exact k3 i' o s hi ho' hs'⟩
      | some s =>
        simp only [clOf, ho, hs, prom] at h
        obtain ⟨r, hd, h⟩ := h
        obtain ⟨c', k1, k2, k3⟩ := prom_elim h3 h
        refine ⟨c', k1, fun j hj => ?_, fun i' o' s' hi ho' hs' => ?_⟩
        · rw [List.mem_cons, not_or] at hj
          rw [k2 j hj.2, lookR_cons, if_neg (Ne.symm hj.1)]
        · rcases List.mem_cons.1 hi with rfl | hi
          · rw [ho] at ho'; cases ho'
            rw [hs] at hs'; cases hs'
            refine ⟨r, by rw [k2 i' h2, lookR_cons, if_pos rfl], fun Hp => ?_⟩
            have he : envOf σ0 (c' ++ accP) s (opTmps o) = envOf σ0 (c ++ accP) s (opTmps o) := envOf_congr' fun t _ j hj => by
              have hj2 := srcFree_get h1 hs hj
              rw [List.mem_cons, not_or] at hj2
              rw [lookR_append, lookR_append, k2 j hj2.2, lookR_cons, if_neg (Ne.symm hj2.1)]
            rw [he]; exact hd Hp
          · exact k3 i' o' s' hi ho' hs'
section
variable (P : Program) (C : Ctx) (N : Nat) (σ0 : AEnv) (bs : Nat → List Bool) (HT : Nat → (AHeap × (Nat → Bool × Blk)) → AHeap) (lps : Nat → List (Nat × Oper × List (Nat × Nat))) (H0 : AHeap) (accP : List (Nat × AV)) (al : List (Nat × AT)) (F : List (Nat × AV) → AHeap → AHeap → Prop)
def planZ : List (Nat × Oper × List (Nat × Nat)) → Nat → List (Nat × AV) → AHeap → AHeap → Prop
  | [], k, cacc, Zs, Hr => (∃ f, Hr = famT (bs k) H0 f 0) ∧ ∀ ws : Nat → Nat, F (cacc ++ rA ws al) (Zs ++ (al.map fun p => p.2.blk (ws p.1))) Hr
  | (i, o, s) :: rest, k, cacc, Zs, Hr => (∃ f, Hr = famT (bs k) H0 f 0) ∧ ∀ Ys : AHeap,
    match lookR accP i with
    | none => OpH P C N o (envOf σ0 (cacc ++ accP) s (opTmps o)) (Zs ++ (Ys ++ Hr)) (fun r H' => ∃ Zs' Hr', H' = Zs' ++ (Ys ++ Hr') ∧ prom P N C σ0 HT accP (lps (k + 1)) ((i, r) :: cacc) (fun c => planZ rest (k + 1) c Zs' Hr'))
    | some r0 => OpH P C N o (envOf σ0 (cacc ++ accP) s (opTmps o)) (Zs ++ (Ys ++ Hr)) (fun r H' => r = r0 ∧ ∃ Zs' Hr', H' = Zs' ++ (Ys ++ Hr') ∧ prom P N C σ0 HT accP (lps (k + 1)) ((i, r0) :: cacc) (fun c => planZ rest (k + 1) c Zs' Hr'))
end
theorem planZ.fam {P : Program} {C : Ctx} {N : Nat} {σ0 : AEnv} {bs : Nat → List Bool} {HT : Nat → (AHeap × (Nat → Bool × Blk)) → AHeap} {lps : Nat → List (Nat × Oper × List (Nat × Nat))} {H0 : AHeap} {accP : List (Nat × AV)} {al : List (Nat × AT)} {F : List (Nat × AV) → AHeap → AHeap → Prop} {l : List (Nat × Oper × List (Nat × Nat))} {k : Nat} {cacc : List (Nat × AV)} {Zs Hr : AHeap}
    (h : planZ P C N σ0 bs HT lps H0 accP al F l k cacc Zs Hr) : ∃ f, Hr = famT (bs k) H0 f 0 := by
  cases l with
  | nil => exact h.1
  | cons p l => exact h.1
def guardless (ops : Array Oper) (i : Nat) : Bool := match ops[i]? with | some o => o.guard.isNone | none => false
def chainOkZ (ops : Array Oper) (n : Nat) (ss : List (List (Nat × Nat))) (ks ci : List Nat) (lps : List (List Nat)) (kA : Nat) : Bool :=
  chainOk ops n ss ci && ci.all (guardless ops) && ks.all (fun i => Nat.blt i n && !(ci.contains i)) && (ci.take kA).all (fun i => srcFree ss i ks) && (ci.drop kA).all (fun i => ks.all (fun j => Region.waitsFor .any ops i j)) &&
  (List.range (ci.length + 1)).all (fun m => (lps.getD m []).all (fun i => Nat.blt i n && !(ci.contains i) && !(ks.contains i) && guardless ops i && srcFree ss i ks &&
    (match m with | 0 => false | m' + 1 => (match ci[m']? with | some j => Region.waitsFor .any ops i j | none => false) || (lps.getD m []).any (fun j => Region.waitsFor .any ops i j)) &&
    (List.range (ci.length + 1)).all (fun m2 => Nat.ble m2 m || (match m2 with | 0 => true | m3 + 1 => match ci[m3]? with | some j => srcFree ss i [j] | none => true) && srcFree ss i (lps.getD m2 []) && !((lps.getD m2 []).contains i))) && lateL ss (lps.getD m []))
def lpMem (lps : List (List Nat)) (q i : Nat) : Prop := ∃ m, m ≤ q ∧ i ∈ lps.getD m []
structure InvZ (P : Program) (C : Ctx) (N : Nat) (σ : AEnv) (bs : Nat → List Bool) (HT : Nat → (AHeap × (Nat → Bool × Blk)) → AHeap) (l : List Oper) (ss : List (List (Nat × Nat))) (lps : List (List Nat)) (H0 : AHeap) (full : List (Nat × AV)) (F : List (Nat × AV) → AHeap → AHeap → Prop) (al : List (Nat × AT)) (ci : List Nat) (cp : List (Nat × Oper × List (Nat × Nat)))
    (k : Nat) (c1 : List (Nat × AV)) (Zs Hr : AHeap) (ws : Nat → Nat) (listed : Array Bool) (cacc : List (Nat × AV)) (H : AHeap) : Prop where
  w : ∀ j ∈ ci, listed.getD j false = true → ∀ i, Region.waitsFor .any l.toArray j i = true → listed.getD i false = true
  kle : k ≤ ci.length
  kp : k ≤ cp.length
  ch : ∀ m i, ci[m]? = some i → (listed.getD i false = true ↔ m < k)
  al0 : ∀ j, j ∈ al.map Prod.fst → lookR c1 j = none
  oth : ∀ j, j ∉ al.map Prod.fst → ¬ lpMem lps ci.length j → lookR cacc j = lookR c1 j
  al1 : ∀ j, j ∈ al.map Prod.fst → lookR cacc j = if listed.getD j false = true then lookR (rA ws al) j else none
  lp : ∀ j, lpMem lps ci.length j → lookR cacc j = (if listed.getD j false = true then lookR c1 j else none) ∧ (listed.getD j false = true → lpMem lps k j)
  due : ∀ m i o s, m ≤ k → i ∈ lps.getD m [] → l[i]? = some o → ss[i]? = some s → ∃ r, lookR c1 i = some r ∧ lateQ P N C σ (HT i) (c1 ++ full) o s r
  H : H = Zs ++ (hA (fun j => listed.getD j false) ws al ++ Hr)
  pl : planZ P C N σ bs HT (fun k => clOf l ss (lps.getD k [])) H0 full al F (cp.drop k) k c1 Zs Hr
theorem getD_mono' {listed : Array Bool} (i : Nat) {j : Nat} (h : listed.getD j false = true) : (listed.setIfInBounds i true).getD j false = true := by
  by_cases e : j = i
  · subst e
    rcases Nat.lt_or_ge j listed.size with h2 | h2
    · exact getD_set_true' h2
    · simp [Array.getElem?_eq_none h2] at h
  · rw [getD_set_ne false (Ne.symm e)]; exact h
section
variable {P : Program} {C : Ctx} {N n : Nat} {σ : AEnv} {bs : Nat → List Bool} {HT : Nat → (AHeap × (Nat → Bool × Blk)) → AHeap} {lps : List (List Nat)} {full : List (Nat × AV)} {F : List (Nat × AV) → AHeap → AHeap → Prop} {l : List Oper} {cp : List (Nat × Oper × List (Nat × Nat))} {kA : Nat} {ss : List (List (Nat × Nat))} {al : List (Nat × AT)} {ci : List Nat} {H0 : AHeap} {listed : Array Bool} {cacc c1 : List (Nat × AV)} {H Zs Hr : AHeap} {k : Nat} {ws : Nat → Nat}
structure OkZ (l : List Oper) (n : Nat) (ss : List (List (Nat × Nat))) (ks ci : List Nat) (lps : List (List Nat)) (kA : Nat) : Prop where
  chain : chainOk l.toArray n ss ci = true
  cg : ∀ i ∈ ci, guardless l.toArray i = true
  ksn : ∀ i ∈ ks, i < n ∧ i ∉ ci
  csrc : ∀ m i, m < kA → ci[m]? = some i → srcFree ss i ks = true
  calc_ : ∀ m i, kA ≤ m → ci[m]? = some i → ∀ j ∈ ks, Region.waitsFor .any l.toArray i j = true
  lp : ∀ m i, m ≤ ci.length → i ∈ lps.getD m [] → i < n ∧ i ∉ ci ∧ i ∉ ks ∧ guardless l.toArray i = true ∧ srcFree ss i ks = true ∧ (m ≠ 0 ∧ ∃ j, Region.waitsFor .any l.toArray i j = true ∧ ((∃ m', m = m' + 1 ∧ ci[m']? = some j) ∨ j ∈ lps.getD m [])) ∧
    ∀ m2, m < m2 → m2 ≤ ci.length → (∀ m3 j, m2 = m3 + 1 → ci[m3]? = some j → srcFree ss i [j] = true) ∧ srcFree ss i (lps.getD m2 []) = true ∧ i ∉ lps.getD m2 []
  late : ∀ m, m ≤ ci.length → lateL ss (lps.getD m []) = true
theorem okZ {ks : List Nat} (h : chainOkZ l.toArray n ss ks ci lps kA = true) : OkZ l n ss ks ci lps kA := by
  simp only [chainOkZ, Bool.and_eq_true] at h
  obtain ⟨⟨⟨⟨⟨h1, h2⟩, h3⟩, h4⟩, h4b⟩, h5⟩ := h
  refine ⟨h1, fun i hi => List.all_eq_true.1 h2 i hi, fun i hi => ?_, fun m i hm hi => List.all_eq_true.1 h4 i (List.mem_of_getElem? (i := m) (by rw [List.getElem?_take, if_pos hm]; exact hi)),
    fun m i hm hi j hj => List.all_eq_true.1 (List.all_eq_true.1 h4b i (List.mem_of_getElem? (i := m - kA) (by rw [List.getElem?_drop, show kA + (m - kA) = m by omega]; exact hi))) j hj, fun m i hm hi => ?_, fun m hm => ?_⟩
  · have := List.all_eq_true.1 h3 i hi
    simp only [Bool.and_eq_true, Bool.not_eq_true', List.contains_eq_mem, decide_eq_false_iff_not] at this
    exact ⟨by simpa [Nat.blt_eq] using this.1, this.2⟩
  · have h6 := List.all_eq_true.1 h5 m (List.mem_range.2 (by omega))
    rw [Bool.and_eq_true] at h6
    have h7 := List.all_eq_true.1 h6.1 i hi
    simp only [Bool.and_eq_true, Bool.not_eq_true', List.contains_eq_mem, decide_eq_false_iff_not] at h7
    obtain ⟨⟨⟨⟨⟨⟨a1, a2⟩, a3⟩, a4⟩, a5⟩, a6⟩, a7⟩ := h7
    refine ⟨by simpa [Nat.blt_eq] using a1, a2, a3, a4, a5, ?_, fun m2 hlt hle => ?_⟩
    · cases m with
      | zero => cases a6
      | succ m' =>
        simp only [Bool.or_eq_true] at a6
        refine ⟨by omega, ?_⟩
        rcases a6 with a6 | a6
        · cases hc : ci[m']? with
          | none => rw [hc] at a6; cases a6
          | some j => rw [hc] at a6; exact ⟨j, a6, .inl ⟨m', rfl, hc⟩⟩
        · obtain ⟨j, hj, hw⟩ := List.any_eq_true.1 a6
          exact ⟨j, hw, .inr hj⟩
    · have h8 := List.all_eq_true.1 a7 m2 (List.mem_range.2 (by omega))
      simp only [Bool.or_eq_true, Bool.and_eq_true, Bool.not_eq_true', decide_eq_false_iff_not] at h8
      rcases h8 with h8 | h8
      · have := Nat.le_of_ble_eq_true h8; omega
      · refine ⟨fun m3 j e hj => ?_, h8.1.2, h8.2⟩
        subst e
        have := h8.1.1
        simp only [hj] at this
        exact this
  · have h6 := List.all_eq_true.1 h5 m (List.mem_range.2 (by omega))
    rw [Bool.and_eq_true] at h6
    exact h6.2
theorem srcFree_nil (i : Nat) : srcFree ss i [] = true := by
  unfold srcFree
  cases ss[i]? with
  | none => rfl
  | some s => simp
theorem OkZ.zero {ks : List Nat} (h : OkZ l n ss ks ci lps kA) : OkZ l n ss (([] : List (Nat × AT)).map Prod.fst) ci lps ci.length := by
  refine ⟨h.chain, h.cg, fun i hi => (by cases hi), fun m i _ _ => srcFree_nil i, fun m i hm hi => ?_, fun m i hm hi => ?_, h.late⟩
  · have := (List.getElem?_eq_some_iff.1 hi).1; omega
  · obtain ⟨b1, b2, b3, b4, b5, b6, b7⟩ := h.lp m i hm hi
    exact ⟨b1, b2, by simp, b4, srcFree_nil i, b6, b7⟩
theorem lpMem_mono {q q' j : Nat} (h : lpMem lps q j) (hq : q ≤ q') : lpMem lps q' j := by obtain ⟨m, h1, h2⟩ := h; exact ⟨m, Nat.le_trans h1 hq, h2⟩
theorem lpMem_one (hz : OkZ l n ss (al.map Prod.fst) ci lps kA) {m q j : Nat} (hm : m ≤ ci.length) (hq : q ≤ ci.length) (h : j ∈ lps.getD m []) (hl : lpMem lps q j) : m ≤ q := by
  obtain ⟨m2, h1, h2⟩ := hl
  rcases Nat.lt_or_ge m2 m with h3 | h3
  · exact absurd h ((hz.lp m2 j (by omega) h2).2.2.2.2.2.2 m h3 hm).2.2
  · omega
theorem InvZ.pure (hz : OkZ l n ss (al.map Prod.fst) ci lps kA) {i : Nat} (h : InvZ P C N σ bs HT l ss lps H0 full F al ci cp k c1 Zs Hr ws listed cacc H) (h1 : i ∉ ci) (h2 : i ∉ al.map Prod.fst) (h3 : ¬ lpMem lps ci.length i) : InvZ P C N σ bs HT l ss lps H0 full F al ci cp k c1 Zs Hr ws (listed.setIfInBounds i true) cacc H := by
  have hput : ∀ j, j ≠ i → (listed.setIfInBounds i true).getD j false = listed.getD j false := fun j hj => getD_set_ne false (Ne.symm hj)
  refine ⟨fun j hj hl q hq => getD_mono' i (h.w j hj (by rwa [hput j (fun e => h1 (e ▸ hj))] at hl) q hq), h.kle, h.kp, fun m j hj => ?_, h.al0, h.oth, fun j hj => ?_, fun j hj => ?_, h.due, ?_, h.pl⟩
  · rw [hput j (fun e => h1 (e ▸ List.mem_of_getElem? hj))]; exact h.ch m j hj
  · rw [hput j (fun e => h2 (e ▸ hj))]; exact h.al1 j hj
  · rw [hput j (fun e => h3 (e ▸ hj))]; exact h.lp j hj
  · rw [h.H]
    congr 2
    exact hA_congr fun p hp => ⟨(hput p.1 (fun e => h2 (e ▸ List.mem_map_of_mem hp))).symm, rfl⟩
theorem InvZ.alloc (hz : OkZ l n ss (al.map Prod.fst) ci lps kA) {p : Nat × AT} (hn : (al.map Prod.fst).Nodup) (hp : p ∈ al) (h : InvZ P C N σ bs HT l ss lps H0 full F al ci cp k c1 Zs Hr ws listed cacc H) (hun : listed.getD p.1 false = false) (hlt : p.1 < listed.size) :
    ∃ F', Hole H hole0 F' ∧ ∀ b, InvZ P C N σ bs HT l ss lps H0 full F al ci cp k c1 Zs Hr (upd ws p.1 b) (listed.setIfInBounds p.1 true) ((p.1, p.2.res b) :: cacc) (F' (p.2.blk b)) := by
  have hput : ∀ j, j ≠ p.1 → (listed.setIfInBounds p.1 true).getD j false = listed.getD j false := fun j hj => getD_set_ne false (Ne.symm hj)
  have hset : (listed.setIfInBounds p.1 true).getD p.1 false = true := getD_set_true' hlt
  have hpm : p.1 ∈ al.map Prod.fst := List.mem_map_of_mem hp
  have hd : p.1 ∉ ci := (hz.ksn p.1 hpm).2
  have hlp : ¬ lpMem lps ci.length p.1 := fun ⟨m, hm, hx⟩ => (hz.lp m p.1 hm hx).2.2.1 hpm
  obtain ⟨F', h1, h2⟩ := hA_hole (f := fun j => listed.getD j false) (ws := ws) (H0 := Hr) hn hp hun
  have hH := h.H
  subst hH
  refine ⟨fun X => Zs ++ F' X, Hole.app h1, fun b => ⟨fun j hj hl q hq => getD_mono' p.1 (h.w j hj (by rwa [hput j (fun e => hd (e ▸ hj))] at hl) q hq), h.kle, h.kp, fun m j hj => ?_, h.al0, fun j hj hj2 => ?_, fun j hj => ?_, fun j hj => ?_, h.due, ?_, h.pl⟩⟩
  · rw [hput j (fun e => hd (e ▸ List.mem_of_getElem? hj))]; exact h.ch m j hj
  · rw [lookR_cons, if_neg (fun e : p.1 = j => hj (e ▸ hpm))]; exact h.oth j hj hj2
  · rw [lookR_cons]
    by_cases e : p.1 = j
    · subst e
      rw [if_pos rfl, if_pos hset, lookR_rA hn hp]
      simp [upd]
    · rw [if_neg e, hput j (Ne.symm e), h.al1 j hj, lookR_rA_congr (ws := ws) (ws' := upd ws p.1 b) (by simp [upd, Ne.symm e])]
  · have hne : p.1 ≠ j := fun e => hlp (e ▸ hj)
    rw [lookR_cons, if_neg hne, hput j (Ne.symm hne)]; exact h.lp j hj
  · show Zs ++ F' (p.2.blk b) = _
    rw [h2 b]
    congr 2
    refine hA_congr fun q hq => ⟨?_, rfl⟩
    by_cases e : q.1 = p.1
    · rw [e, if_pos rfl, hset]
    · rw [if_neg e, hput _ e]
/-- What an operation that is ready sees. -/
theorem InvZ.env (h : InvZ P C N σ bs HT l ss lps H0 full F al ci cp k c1 Zs Hr ws listed cacc H) {i : Nat} {o : Oper} {s : List (Nat × Nat)} (hok : opOkC l.toArray n ss i = true) (hol : l[i]? = some o) (hs : ss[i]? = some s) (hsf : srcFree ss i (al.map Prod.fst) = true) (hw : ∀ j, Region.waitsFor .any l.toArray i j = true → listed.getD j false = true) :
    envOf σ (cacc ++ full) s (opTmps o) = envOf σ (c1 ++ full) s (opTmps o) := envOf_congr' fun t ht j hj => by
  unfold opOkC at hok
  have ho' : l.toArray[i]? = some o := by simpa using hol
  simp only [ho', hs, Bool.and_eq_true] at hok
  have h6 := List.all_eq_true.1 hok.1 t ht
  unfold readOk at h6
  simp only [hj, Bool.and_eq_true] at h6
  have hlj := hw j h6.2
  rw [lookR_append, lookR_append]
  by_cases hjl : lpMem lps ci.length j
  · rw [(h.lp j hjl).1, if_pos hlj]
  · rw [h.oth j (srcFree_get hsf hs hj) hjl]
theorem InvZ.late (hz : OkZ l n ss (al.map Prod.fst) ci lps kA) (hok : ∀ i, i < n → opOkC l.toArray n ss i = true) {m i : Nat} {o : Oper} {s : List (Nat × Nat)} (hm : m ≤ ci.length) (him : i ∈ lps.getD m [])
    (h : InvZ P C N σ bs HT l ss lps H0 full F al ci cp k c1 Zs Hr ws listed cacc H) (hol : l[i]? = some o) (hs : ss[i]? = some s) (hw : ∀ j, Region.waitsFor .any l.toArray i j = true → listed.getD j false = true) (hlt : i < listed.size) (hfam : ∃ q, H = HT i q) (hnone : lookR full i = none) :
    o.guard = none ∧ OpH P C N o (envOf σ (cacc ++ full) s (opTmps o)) H (fun r H' => (∀ r0, lookR full i = some r0 → r = r0) ∧ InvZ P C N σ bs HT l ss lps H0 full F al ci cp k c1 Zs Hr ws (listed.setIfInBounds i true) ((i, r) :: cacc) H') := by
  obtain ⟨b1, b2, b3, b4, b5, ⟨hm0, j, hwj, hcase⟩, b7⟩ := hz.lp m i hm him
  have hmk : m ≤ k := by
    rcases hcase with ⟨m', e, hc⟩ | hj
    · have := (h.ch m' j hc).1 (hw j hwj); omega
    · exact lpMem_one hz hm h.kle hj ((h.lp j ⟨m, hm, hj⟩).2 (hw j hwj))
  obtain ⟨r, hr1, hr2⟩ := h.due m i o s hmk him hol hs
  have hg : o.guard = none := by
    unfold guardless at b4
    simp only [show l.toArray[i]? = some o by simpa using hol] at b4
    exact Option.isNone_iff_eq_none.1 b4
  refine ⟨hg, ?_⟩
  rw [h.env (hok i b1) hol hs b5 hw]
  obtain ⟨q, rfl⟩ := hfam
  have hput : ∀ j, j ≠ i → (listed.setIfInBounds i true).getD j false = listed.getD j false := fun j hj => getD_set_ne false (Ne.symm hj)
  have hset : (listed.setIfInBounds i true).getD i false = true := getD_set_true' hlt
  have hil : lpMem lps ci.length i := ⟨m, hm, him⟩
  refine OpH.ofP (fun ρ I L hs' a w ha hm' => (hr2 q ρ I L hs' a w ha hm').mono ?_)
  rintro v w' ⟨J, X, q1, q2, q3, q4, q5, rfl, r', q6, rfl⟩
  refine ⟨J, [], q1, q2, q3, q4, q5, rfl, r', q6, fun r0 h0 => (by rw [hnone] at h0; cases h0), ⟨fun j hj hl q hq => getD_mono' i (h.w j hj (by rwa [hput j (fun e => b2 (e ▸ hj))] at hl) q hq), h.kle, h.kp, fun m2 j hj => ?_, h.al0, fun j hj hj2 => ?_, fun j hj => ?_, fun j hj => ?_, h.due, ?_, h.pl⟩⟩
  · rw [hput j (fun e => b2 (e ▸ List.mem_of_getElem? hj))]; exact h.ch m2 j hj
  · rw [lookR_cons, if_neg (fun e : i = j => hj2 (e ▸ hil))]; exact h.oth j hj hj2
  · have hne : i ≠ j := fun e => b3 (e ▸ hj)
    rw [lookR_cons, if_neg hne, hput j (Ne.symm hne)]; exact h.al1 j hj
  · by_cases e2 : i = j
    · subst e2
      rw [lookR_cons, if_pos rfl, if_pos hset, hr1]
      exact ⟨rfl, fun _ => ⟨m, hmk, him⟩⟩
    · rw [lookR_cons, if_neg e2, hput j (Ne.symm e2)]; exact h.lp j hj
  · rw [h.H]
    congr 2
    exact hA_congr fun p hp => ⟨(hput p.1 (fun e => b3 (e ▸ List.mem_map_of_mem hp))).symm, rfl⟩
theorem InvZ.chain (hz : OkZ l n ss (al.map Prod.fst) ci lps kA) (hok : ∀ i, i < n → opOkC l.toArray n ss i = true) {i : Nat} {o : Oper} {s : List (Nat × Nat)} (hcl : ∀ (m i : Nat) (o : Oper) (s : List (Nat × Nat)), m < cp.length → ci[m]? = some i → l[i]? = some o → ss[i]? = some s → cp[m]? = some (i, o, s)) (hkA : cp.length ≤ kA ∨ kA = ci.length) (hkc : k < cp.length) (hnd : ci.Nodup) (hin : i < n)
    (h : InvZ P C N σ bs HT l ss lps H0 full F al ci cp k c1 Zs Hr ws listed cacc H) (hi : i ∈ ci) (hol : l[i]? = some o) (hs : ss[i]? = some s) (hun : listed.getD i false = false) (hw : ∀ j, Region.waitsFor .any l.toArray i j = true → listed.getD j false = true) (hlt : i < listed.size) :
    o.guard = none ∧ OpH P C N o (envOf σ (cacc ++ full) s (opTmps o)) H (fun r H' => (∀ r0, lookR full i = some r0 → r = r0) ∧ ∃ c1' Zs' Hr', InvZ P C N σ bs HT l ss lps H0 full F al ci cp (k + 1) c1' Zs' Hr' ws (listed.setIfInBounds i true) ((i, r) :: cacc) H') := by
  have hg : o.guard = none := by
    have := hz.cg i hi
    unfold guardless at this
    simp only [show l.toArray[i]? = some o by simpa using hol] at this
    exact Option.isNone_iff_eq_none.1 this
  have hia : i ∉ al.map Prod.fst := fun hx => (hz.ksn i hx).2 hi
  have hilp : ¬ lpMem lps ci.length i := fun ⟨m, hm, hx⟩ => (hz.lp m i hm hx).2.1 hi
  have hput : ∀ j, j ≠ i → (listed.setIfInBounds i true).getD j false = listed.getD j false := fun j hj => getD_set_ne false (Ne.symm hj)
  obtain ⟨m, hm⟩ := List.mem_iff_getElem?.1 hi
  have hml : m < ci.length := (List.getElem?_eq_some_iff.1 hm).1
  have hmk : ¬ m < k := fun hx => by have := (h.ch m i hm).2 hx; rw [hun] at this; cases this
  have hkm : m ≤ k := by
    have hch := hz.chain
    unfold chainOk at hch
    cases m with
    | zero => omega
    | succ mj =>
      have h1 := List.all_eq_true.1 hch (mj + 1) (List.mem_range.2 hml)
      simp only [hm, Bool.and_eq_true] at h1
      cases hj : ci[mj]? with
      | none => simp [hj] at h1
      | some j =>
        simp only [hj, Bool.and_eq_true] at h1
        have := (h.ch mj j hj).1 (hw j h1.2.2)
        omega
  obtain rfl : m = k := by omega
  have hcc := hcl m i o s hkc hm hol hs
  have hdrop : cp.drop m = (i, o, s) :: cp.drop (m + 1) := by
    have hlt := (List.getElem?_eq_some_iff.1 hcc).1
    rw [List.drop_eq_getElem_cons hlt]
    congr 1
    rw [List.getElem?_eq_getElem hlt] at hcc
    exact Option.some.inj hcc
  have hpl := h.pl
  rw [hdrop, planZ] at hpl
  replace hpl := hpl.2 (hA (fun j => listed.getD j false) ws al)
  refine ⟨hg, ?_⟩
  rw [h.env (hok i hin) hol hs (hz.csrc m i (by omega) hm) hw]
  have hnext : ∀ r Zs' Hr', prom P N C σ HT full (clOf l ss (lps.getD (m + 1) [])) ((i, r) :: c1) (fun c => planZ P C N σ bs HT (fun k => clOf l ss (lps.getD k [])) H0 full al F (cp.drop (m + 1)) (m + 1) c Zs' Hr') →
      ∃ c1' Zs'' Hr'', InvZ P C N σ bs HT l ss lps H0 full F al ci cp (m + 1) c1' Zs'' Hr'' ws (listed.setIfInBounds i true) ((i, r) :: cacc) (Zs' ++ (hA (fun j => listed.getD j false) ws al ++ Hr')) := fun r Zs' Hr' hq => by
    obtain ⟨c', k1, k2, k3⟩ := prom_elim (hz.late (m + 1) (by omega)) hq
    have hLlp : ∀ j, j ∈ lps.getD (m + 1) [] → lpMem lps ci.length j := fun j hj => ⟨m + 1, by omega, hj⟩
    refine ⟨c', Zs', Hr', fun j hj hl q hwq => ?_, by omega, by omega, fun m' i' hm' => ?_, fun j hj => ?_, fun j hj hj2 => ?_, fun j hj => ?_, fun j hj => ?_, fun m2 i2 o2 s2 hm2 hi2 ho2 hs2 => ?_, ?_, k1⟩
    · by_cases e : j = i
      · subst e; exact getD_mono' j (hw q hwq)
      · exact getD_mono' i (h.w j hj (by rwa [hput j e] at hl) q hwq)
    · by_cases e : i' = i
      · subst e
        have h1 := (List.getElem?_eq_some_iff.1 hm')
        have h2 := (List.getElem?_eq_some_iff.1 hm)
        have : m' = m := (List.getElem_inj (h₀ := h1.1) (h₁ := h2.1) hnd).1 (by rw [h1.2, h2.2])
        subst this
        exact ⟨fun _ => by omega, fun _ => getD_set_true' hlt⟩
      · rw [hput i' e, h.ch m' i' hm']
        have : m' ≠ m := by rintro rfl; rw [hm] at hm'; exact e (Option.some.inj hm').symm
        omega
    · rw [k2 j (fun hx => (hz.lp (m + 1) j (by omega) hx).2.2.1 hj), lookR_cons, if_neg (fun e => hia (by rw [e]; exact hj))]; exact h.al0 j hj
    · rw [k2 j (fun hx => hj2 (hLlp j hx)), lookR_cons, lookR_cons, h.oth j hj hj2]
    · have hji : j ≠ i := fun e => hia (e ▸ hj)
      rw [lookR_cons, if_neg (Ne.symm hji), hput j hji]; exact h.al1 j hj
    · have hji : j ≠ i := fun e => hilp (e ▸ hj)
      rw [lookR_cons, if_neg (Ne.symm hji), hput j hji, (h.lp j hj).1]
      refine ⟨?_, fun hl => lpMem_mono ((h.lp j hj).2 hl) (Nat.le_succ _)⟩
      split
      · rename_i hl
        have hkk := (h.lp j hj).2 hl
        rw [k2 j (fun hx => by have := lpMem_one hz (by omega) (by omega) hx hkk; omega), lookR_cons, if_neg (Ne.symm hji)]
      · rfl
    · rcases Nat.lt_or_ge m m2 with hlt2 | hge2
      · obtain rfl : m2 = m + 1 := by omega
        exact k3 i2 o2 s2 hi2 ho2 hs2
      · obtain ⟨r2, d1, d2⟩ := h.due m2 i2 o2 s2 hge2 hi2 ho2 hs2
        obtain ⟨e1, e2, e3⟩ := (hz.lp m2 i2 (by omega) hi2).2.2.2.2.2.2 (m + 1) (by omega) (by omega)
        have hi2i : i2 ≠ i := fun e => (hz.lp m2 i2 (by omega) hi2).2.1 (e ▸ hi)
        refine ⟨r2, by rw [k2 i2 e3, lookR_cons, if_neg (Ne.symm hi2i)]; exact d1, fun Hp => ?_⟩
        have he : envOf σ (c' ++ full) s2 (opTmps o2) = envOf σ (c1 ++ full) s2 (opTmps o2) := envOf_congr' fun t _ j hj => by
          have hj1 := srcFree_get (e1 m i rfl hm) hs2 hj
          have hj2 := srcFree_get e2 hs2 hj
          have hji : j ≠ i := fun e => hj1 (by simp [e])
          rw [lookR_append, lookR_append, k2 j hj2, lookR_cons, if_neg (Ne.symm hji)]
        rw [he]; exact d2 Hp
    · congr 2
      exact hA_congr fun p hp => ⟨(hput p.1 (fun e => hia (e ▸ List.mem_map_of_mem hp))).symm, rfl⟩
  have hH := h.H
  subst hH
  cases hr : lookR full i with
  | none =>
    rw [hr] at hpl
    exact hpl.mono fun r H' ⟨Zs', Hr', e, hq⟩ => ⟨fun r0 h0 => (by cases h0), e ▸ hnext r Zs' Hr' hq⟩
  | some r0 =>
    rw [hr] at hpl
    exact hpl.mono fun r H' ⟨er, Zs', Hr', e, hq⟩ => ⟨fun q h0 => by cases h0; exact er, by subst er; exact e ▸ hnext _ Zs' Hr' hq⟩
theorem InvZ.toB {F2 : List (Nat × AV) → AHeap → AHeap → Prop} {cp2 : List (Nat × Oper × List (Nat × Nat))} (hz : OkZ l n ss (al.map Prod.fst) ci lps kA) (hnal : (al.map Prod.fst).Nodup)
    (hF : ∀ c Zs Hr, F c Zs Hr → planZ P C N σ bs HT (fun k => clOf l ss (lps.getD k [])) H0 full [] F2 (cp2.drop cp.length) cp.length c Zs Hr)
    (h : InvZ P C N σ bs HT l ss lps H0 full F al ci cp k c1 Zs Hr ws listed cacc H) (hk : k = cp.length) (hcp : cp.length ≤ cp2.length) (hall : ∀ j ∈ al.map Prod.fst, listed.getD j false = true) :
    InvZ P C N σ bs HT l ss lps H0 full F2 [] ci cp2 k (c1 ++ rA ws al) (Zs ++ (al.map fun p => p.2.blk (ws p.1))) Hr ws listed cacc H := by
  subst hk
  have hpl := h.pl
  rw [List.drop_length, planZ] at hpl
  refine ⟨h.w, h.kle, hcp, h.ch, fun j hj => (by cases hj), fun j _ hj2 => ?_, fun j hj => (by cases hj), fun j hj => ?_, fun m i o s hm hi ho hs => ?_, ?_, hF _ _ _ (hpl.2 ws)⟩
  · rw [lookR_append]
    by_cases hja : j ∈ al.map Prod.fst
    · rw [h.al0 j hja, h.al1 j hja, if_pos (hall j hja)]
    · rw [h.oth j hja hj2, lookR_rA_none hja]
      cases lookR c1 j <;> rfl
  · have hja : j ∉ al.map Prod.fst := fun hx => by
      obtain ⟨m, hm, hi⟩ := hj
      exact (hz.lp m j hm hi).2.2.1 hx
    rw [lookR_append, (h.lp j hj).1, lookR_rA_none hja]
    refine ⟨?_, (h.lp j hj).2⟩
    cases lookR c1 j <;> rfl
  · obtain ⟨r, d1, d2⟩ := h.due m i o s hm hi ho hs
    have hsf := (hz.lp m i (Nat.le_trans hm h.kle) hi).2.2.2.2.1
    refine ⟨r, by rw [lookR_append, d1], fun Hp => ?_⟩
    have he : envOf σ ((c1 ++ rA ws al) ++ full) s (opTmps o) = envOf σ (c1 ++ full) s (opTmps o) := envOf_congr' fun t _ j hj => by
      have hj2 := srcFree_get hsf hs hj
      rw [lookR_append, lookR_append, lookR_append, lookR_rA_none hj2]
      cases lookR c1 j <;> rfl
    rw [he]; exact d2 Hp
  · rw [h.H, hA_all fun p hp => hall p.1 (List.mem_map_of_mem hp), List.append_assoc]
    rfl
theorem InvZ.famI {bks qs : List (List Bool)} {ks : List Nat} {i : Nat} (hq : famOk l.toArray n ks ci bks qs = true) (h : InvZ P C N σ (fun k => bks.getD k []) HT l ss lps H0 full F al ci cp k c1 Zs Hr ws listed cacc H) (hin : i < n) (hna1 : i ∉ ks) (hnc : i ∉ ci) (hun : listed.getD i false = false) :
    ∃ q : AHeap × (Nat → Bool × Blk), H = q.1 ++ famT (qs.getD i []) H0 q.2 0 := by
  obtain ⟨f, hf⟩ := h.pl.fam
  have hk := h.kle
  have hle : leB (bks.getD k []) (qs.getD i []) = true := by
    have h1 := List.all_eq_true.1 hq i (List.mem_range.2 hin)
    simp only [Bool.or_eq_true, List.contains_eq_mem, decide_eq_true_eq] at h1
    rcases h1 with (h1 | h1) | h1
    · exact absurd h1 hna1
    · exact absurd h1 hnc
    · have h2 := List.all_eq_true.1 h1 k (List.mem_range.2 (by omega))
      simp only [Bool.or_eq_true] at h2
      rcases h2 with h2 | h2
      · obtain ⟨m, hm, hw⟩ := List.any_eq_true.1 h2
        have hmk := List.mem_range.1 hm
        cases hci : ci[m]? with
        | none => rw [hci] at hw; cases hw
        | some j =>
          rw [hci] at hw
          have h3 := h.w j (List.mem_of_getElem? hci) ((h.ch m j hci).2 hmk) i hw
          rw [hun] at h3; cases h3
      · exact h2
  obtain ⟨f', hf'⟩ := famT_le hle H0 f 0
  exact ⟨(Zs ++ hA (fun j => listed.getD j false) ws al, f'), by rw [h.H, hf, hf', List.append_assoc]⟩
theorem clOf_append (a b : List Nat) : clOf l ss (a ++ b) = clOf l ss a ++ clOf l ss b := by
  induction a with
  | nil => rfl
  | cons i a ih =>
    simp only [List.cons_append, clOf, ih]
    split <;> rfl
theorem clOf_length : ∀ (c : List Nat), (∀ i ∈ c, i < l.length ∧ i < ss.length) → (clOf l ss c).length = c.length
  | [], _ => rfl
  | i :: c, h => by
    obtain ⟨h1, h2⟩ := h i List.mem_cons_self
    simp only [clOf, List.getElem?_eq_getElem h1, List.getElem?_eq_getElem h2, List.length_cons]
    rw [clOf_length c (fun j hj => h j (List.mem_cons_of_mem _ hj))]
end
theorem wpA.drawZ {P : Program} {C : Ctx} {N : Nat} {Q : Exit → AEnv → AHeap → Prop} {σ : AEnv} {H : AHeap} {id : Nat} {l : List Oper} (bks : List (List Bool)) (qs : List (List Bool)) (lps : List (List Nat)) (al : List (Nat × AT)) (kA : Nat) (hm : P.follows .mixedOrders = true) (n : Nat) (ss : List (List (Nat × Nat))) (ci : List Nat)
    (hN : dstOk N l = true) (hB : phiOkC l.toArray n ss = true) (hss : Nat.ble n ss.length = true) (hC : chainOkZ l.toArray n ss (al.map Prod.fst) ci lps kA = true) (hkA : Nat.ble kA ci.length = true) (hnd : ci.Nodup) (hna : (al.map Prod.fst).Nodup)
    (hal : ∀ p ∈ al, ∀ o, l[p.1]? = some o → o.guard = none ∧ ∀ σ' H', OpH P C N o σ' H' (fun r H'' => ∃ b, r = p.2.res b ∧ H'' = p.2.blk b :: H'))
    (hq : famOk l.toArray n (al.map Prod.fst) ci bks qs = true) (hlen : Nat.ble lps.length (ci.length + 1) = true)
    (h : chainQ P N C σ (fun i (q : AHeap × (Nat → Bool × Blk)) => q.1 ++ famT (qs.getD i []) H q.2 0) (al.map Prod.fst ++ (lps.flatten ++ ci)) (fun accP => ((al.map Prod.fst ++ lps.flatten).all fun i => (lookR accP i).isNone) = true ∧
      planZ P C N σ (fun k => bks.getD k []) (fun i (q : AHeap × (Nat → Bool × Blk)) => q.1 ++ famT (qs.getD i []) H q.2 0) (fun k => clOf l ss (lps.getD k [])) H accP al
        (planZ P C N σ (fun k => bks.getD k []) (fun i (q : AHeap × (Nat → Bool × Blk)) => q.1 ++ famT (qs.getD i []) H q.2 0) (fun k => clOf l ss (lps.getD k [])) H accP []
          (fun cacc Zs Hr => wpB P C N l.toArray Q (l.drop n) (finA (cacc ++ accP) (l.take n) 0 σ) (Zs ++ Hr)) (clOf l ss (ci.drop kA)) kA) (clOf l ss (ci.take kA)) 0 [] [] H) (l.take n) ss 0 []) :
    wpA P C N (.region id l.toArray true) Q σ H := .padN (al := al) (by
  have hB0 := hB
  simp only [phiOkC, Bool.and_eq_true, Bool.or_eq_true] at hB
  obtain ⟨⟨⟨⟨⟨hle, hback⟩, hok⟩, hdst⟩, htail⟩, hseq⟩ := hB
  have hle' : n ≤ l.length := by simpa using Nat.le_of_ble_eq_true hle
  have hok' : ∀ i, i < n → opOkC l.toArray n ss i = true := fun i hi => List.all_eq_true.1 hok i (List.mem_range.2 hi)
  have hssl := Nat.le_of_ble_eq_true hss
  obtain ⟨full, ⟨hnone, hF⟩, _, hd⟩ := chainQ_elim (l.take n) ss 0 [] (fun j r hj => by simp [lookR] at hj) h
  have hz := okZ hC
  have hC' := hz.chain
  unfold chainOk at hC'
  have hcin : ∀ i ∈ ci, i < n := fun i hi => by
    obtain ⟨m, hm⟩ := List.mem_iff_getElem?.1 hi
    have h1 := List.all_eq_true.1 hC' m (List.mem_range.2 (List.getElem?_eq_some_iff.1 hm).1)
    simp only [hm, Bool.and_eq_true] at h1
    simpa [Nat.blt_eq] using h1.1
  have hlpf : ∀ i, i ∈ lps.flatten ↔ lpMem lps ci.length i := fun i => by
    have hll := Nat.le_of_ble_eq_true hlen
    constructor
    · intro hi
      obtain ⟨L, hL, hi⟩ := List.mem_flatten.1 hi
      obtain ⟨m, hm, rfl⟩ := List.getElem_of_mem hL
      exact ⟨m, by omega, by simpa [List.getD, hm] using hi⟩
    · rintro ⟨m, _, hi⟩
      by_cases hm2 : m < lps.length
      · simp [List.getD, hm2] at hi
        exact List.mem_flatten.2 ⟨_, List.getElem_mem hm2, hi⟩
      · simp [List.getD, hm2] at hi
  have hcl := clOf_get (l := l) (ss := ss) ci (fun i hi => ⟨_, _, List.getElem?_eq_getElem (Nat.lt_of_lt_of_le (hcin i hi) hle'), List.getElem?_eq_getElem (Nat.lt_of_lt_of_le (hcin i hi) hssl)⟩)
  have hp : ∀ i o s, i < n → i ∉ al.map Prod.fst ++ (lps.flatten ++ ci) → l[i]? = some o → ss[i]? = some s → ∃ r, lookR full i = some r ∧ dutyQ P N C σ (fun q : AHeap × (Nat → Bool × Blk) => q.1 ++ famT (qs.getD i []) H q.2 0) full o s r := fun i o s hi hic ho hsi => by
    obtain ⟨r, acc', h1, h2, h3⟩ := hd i o s (by rw [List.getElem?_take, if_pos hi]; exact ho) hsi (by simpa using hic)
    rw [Nat.zero_add] at h1 h2 h3
    refine ⟨r, h1, fun H' => ?_⟩
    have hoi := hok' i hi
    unfold opOkC at hoi
    have ho' : l.toArray[i]? = some o := by simpa using ho
    simp only [ho', hsi, Bool.and_eq_true] at hoi
    have hback' : ∀ j, Region.waitsFor .any l.toArray i j = true → j < i := fun j hw => by
      obtain ⟨e, he, hb, heq⟩ := waits_mem ho' hw
      have hil : i < l.toArray.size := (Array.getElem?_eq_some_iff.1 ho').1
      have h4 := List.all_eq_true.1 hback i (List.mem_range.2 hil)
      simp only [ho', Array.all_eq_true_iff_forall_mem] at h4
      have h5 := h4 e he
      rw [hb] at h5
      have : e.on < i := by simpa [Nat.blt_eq] using h5
      omega
    have henv : ∀ t ∈ opTmps o, ∀ j, srcOf s t = some j → lookR acc' j = lookR full j := fun t ht j hj => by
      have h6 := List.all_eq_true.1 hoi.1 t ht
      unfold readOk at h6
      simp only [hj, Bool.and_eq_true] at h6
      exact h3 j (hback' j h6.2)
    have hdd := h2 H'
    unfold dutyA at hdd ⊢
    rw [← envOf_congr' henv]
    cases hg : o.guard with
    | none => rw [hg] at hdd; exact hdd
    | some p =>
      obtain ⟨g, want⟩ := p
      rw [hg] at hdd
      have h6 := hoi.2
      rw [hg] at h6
      simp only [Bool.and_eq_true] at h6
      simp only at hdd ⊢
      rw [← h3 g (hback' g h6.1.2)]; exact hdd
  have hkA' := Nat.le_of_ble_eq_true hkA
  have hvalid : ∀ c : List Nat, (∀ i ∈ c, i ∈ ci) → ∀ i ∈ c, i < l.length ∧ i < ss.length := fun c hc i hi => ⟨Nat.lt_of_lt_of_le (hcin i (hc i hi)) hle', Nat.lt_of_lt_of_le (hcin i (hc i hi)) hssl⟩
  have hlA : (clOf l ss (ci.take kA)).length = kA := by
    rw [clOf_length _ (hvalid _ (fun i hi => List.mem_of_mem_take hi)), List.length_take]; omega
  have hlB : (clOf l ss ci).length = ci.length := clOf_length _ (hvalid _ (fun i hi => hi))
  have hdrop : (clOf l ss ci).drop (clOf l ss (ci.take kA)).length = clOf l ss (ci.drop kA) := by
    have := clOf_append (l := l) (ss := ss) (ci.take kA) (ci.drop kA)
    rw [List.take_append_drop] at this
    rw [this, List.drop_left]
  have hclA : ∀ (m i : Nat) (o : Oper) (s : List (Nat × Nat)), m < (clOf l ss (ci.take kA)).length → ci[m]? = some i → l[i]? = some o → ss[i]? = some s → (clOf l ss (ci.take kA))[m]? = some (i, o, s) := fun m i o s hm hi ho hs =>
    clOf_get (ci.take kA) (fun i hi => by
      obtain ⟨h1, h2⟩ := hvalid _ (fun i hi => List.mem_of_mem_take hi) i hi
      exact ⟨_, _, List.getElem?_eq_getElem h1, List.getElem?_eq_getElem h2⟩) m i o s (by rw [List.getElem?_take, if_pos (by omega)]; exact hi) ho hs
  have hzB := hz.zero
  let FB : List (Nat × AV) → AHeap → AHeap → Prop := fun cacc Zs Hr => wpB P C N l.toArray Q (l.drop n) (finA (cacc ++ full) (l.take n) 0 σ) (Zs ++ Hr)
  let FA : List (Nat × AV) → AHeap → AHeap → Prop := planZ P C N σ (fun k => bks.getD k []) (fun i (q : AHeap × (Nat → Bool × Blk)) => q.1 ++ famT (qs.getD i []) H q.2 0) (fun k => clOf l ss (lps.getD k [])) H full [] FB (clOf l ss (ci.drop kA)) kA
  have htoB : ∀ {k c1 Zs Hr ws listed cacc H'}, InvZ P C N σ (fun k => bks.getD k []) (fun i (q : AHeap × (Nat → Bool × Blk)) => q.1 ++ famT (qs.getD i []) H q.2 0) l ss lps H full FA al ci (clOf l ss (ci.take kA)) k c1 Zs Hr ws listed cacc H' → k = kA → (∀ j ∈ al.map Prod.fst, listed.getD j false = true) →
      InvZ P C N σ (fun k => bks.getD k []) (fun i (q : AHeap × (Nat → Bool × Blk)) => q.1 ++ famT (qs.getD i []) H q.2 0) l ss lps H full FB [] ci (clOf l ss ci) k (c1 ++ rA ws al) (Zs ++ (al.map fun p => p.2.blk (ws p.1))) Hr ws listed cacc H' := fun {k c1 Zs Hr ws listed cacc H'} hiv hk hall =>
    hiv.toB hz hna (fun c Zs Hr h => by rw [hdrop, hlA]; exact h) (by rw [hlA]; exact hk) (by rw [hlA, hlB]; exact hkA') hall
  refine wpA.drawG' (fun i (q : AHeap × (Nat → Bool × Blk)) => q.1 ++ famT (qs.getD i []) H q.2 0) hm n ss (al.map Prod.fst ++ (lps.flatten ++ ci)) hN hB0 full
    (fun listed cacc H' => (∃ k c1 Zs Hr ws, InvZ P C N σ (fun k => bks.getD k []) (fun i (q : AHeap × (Nat → Bool × Blk)) => q.1 ++ famT (qs.getD i []) H q.2 0) l ss lps H full FA al ci (clOf l ss (ci.take kA)) k c1 Zs Hr ws listed cacc H') ∨
      ((∀ j ∈ al.map Prod.fst, listed.getD j false = true) ∧ ∃ k c1 Zs Hr ws, InvZ P C N σ (fun k => bks.getD k []) (fun i (q : AHeap × (Nat → Bool × Blk)) => q.1 ++ famT (qs.getD i []) H q.2 0) l ss lps H full FB [] ci (clOf l ss ci) k c1 Zs Hr ws listed cacc H')) ?_ hp ?_ ?_ ?_ ?_
  · refine .inl ⟨0, [], [], H, fun _ => 0, fun j _ hl => (by rw [getD_replicate_false] at hl; cases hl), Nat.zero_le _, Nat.zero_le _, fun m i hi => ⟨fun hl => ?_, fun h => by omega⟩, fun j _ => rfl, fun j _ _ => rfl, fun j _ => ?_, fun j _ => ⟨?_, fun hl => ?_⟩, fun m i o s hm hi => ?_, ?_, hF⟩
    · rw [getD_replicate_false] at hl; cases hl
    · rw [if_neg (by rw [getD_replicate_false]; decide)]; rfl
    · rw [if_neg (by rw [getD_replicate_false]; decide)]; rfl
    · rw [getD_replicate_false] at hl; cases hl
    · obtain ⟨_, _, _, _, _, ⟨hm0, _⟩, _⟩ := hz.lp m i (by omega) hi
      omega
    · rw [List.nil_append]
      congr 1
      exact (List.map_congr_left fun p _ => by simp only [getD_replicate_false]; rfl)
  · rintro listed cacc H' i hiv hin hnc hun
    rw [List.mem_append, List.mem_append, not_or, not_or] at hnc
    rcases hiv with ⟨k, c1, Zs, Hr, ws, hiv⟩ | ⟨_, k, c1, Zs, Hr, ws, hiv⟩
    · exact hiv.famI hq hin hnc.1 hnc.2.2 hun
    · exact hiv.famI hq hin hnc.1 hnc.2.2 hun
  · rintro listed cacc H' i hiv hni
    rw [List.mem_append, List.mem_append, not_or, not_or] at hni
    rcases hiv with ⟨k, c1, Zs, Hr, ws, hiv⟩ | ⟨hall, k, c1, Zs, Hr, ws, hiv⟩
    · exact .inl ⟨k, c1, Zs, Hr, ws, hiv.pure hz hni.2.2 hni.1 (fun hx => hni.2.1 ((hlpf i).2 hx))⟩
    · exact .inr ⟨fun j hj => getD_mono' i (hall j hj), k, c1, Zs, Hr, ws, hiv.pure hzB hni.2.2 (by simp) (fun hx => hni.2.1 ((hlpf i).2 hx))⟩
  · rintro listed cacc H' i o s hiv hic hol hs hun hw hlt
    rcases List.mem_append.1 hic with hk | hc
    · obtain ⟨p, hp, rfl⟩ := List.mem_map.1 hk
      obtain ⟨hg, hop⟩ := hal p hp o hol
      rcases hiv with ⟨k, c1, Zs, Hr, ws, hiv⟩ | ⟨hall, _⟩
      · obtain ⟨F', h1, h2⟩ := hiv.alloc hz hna hp hun hlt
        refine ⟨hg, OpH.into h1 ((hop _ _).mono fun r H'' ⟨b, hr, hH⟩ => ⟨_, hH, fun r0 h0 => ?_, by rw [hr]; exact .inl ⟨k, c1, Zs, Hr, _, h2 b⟩⟩)⟩
        have h3 := List.all_eq_true.1 hnone p.1 (List.mem_append_left _ hk)
        rw [h0] at h3; cases h3
      · rw [hall p.1 hk] at hun; cases hun
    · rcases List.mem_append.1 hc with hlp | hc
      · obtain ⟨m, hm, him⟩ := (hlpf i).1 hlp
        have hlz := hz.lp m i hm him
        have h3 := List.all_eq_true.1 hnone i (List.mem_append_right _ hlp)
        rcases hiv with ⟨k, c1, Zs, Hr, ws, hiv⟩ | ⟨hall, k, c1, Zs, Hr, ws, hiv⟩
        · obtain ⟨hg, hop⟩ := hiv.late hz hok' hm him hol hs hw hlt (hiv.famI hq hlz.1 hlz.2.2.1 hlz.2.1 hun) (Option.isNone_iff_eq_none.1 h3)
          exact ⟨hg, hop.mono fun r H' ⟨q1, q2⟩ => ⟨q1, .inl ⟨k, c1, Zs, Hr, ws, q2⟩⟩⟩
        · obtain ⟨hg, hop⟩ := hiv.late hzB hok' hm him hol hs hw hlt (hiv.famI hq hlz.1 hlz.2.2.1 hlz.2.1 hun) (Option.isNone_iff_eq_none.1 h3)
          exact ⟨hg, hop.mono fun r H' ⟨q1, q2⟩ => ⟨q1, .inr ⟨fun j hj => getD_mono' i (hall j hj), k, c1, Zs, Hr, ws, q2⟩⟩⟩
      · obtain ⟨m, hm⟩ := List.mem_iff_getElem?.1 hc
        have hml : m < ci.length := (List.getElem?_eq_some_iff.1 hm).1
        have hstepB : (∀ j ∈ al.map Prod.fst, listed.getD j false = true) → ∀ {k c1 Zs Hr ws}, InvZ P C N σ (fun k => bks.getD k []) (fun i (q : AHeap × (Nat → Bool × Blk)) => q.1 ++ famT (qs.getD i []) H q.2 0) l ss lps H full FB [] ci (clOf l ss ci) k c1 Zs Hr ws listed cacc H' →
            o.guard = none ∧ OpH P C N o (envOf σ (cacc ++ full) s (opTmps o)) H' (fun r H' => (∀ r0, lookR full i = some r0 → r = r0) ∧ ((∃ k c1 Zs Hr ws, InvZ P C N σ (fun k => bks.getD k []) (fun i (q : AHeap × (Nat → Bool × Blk)) => q.1 ++ famT (qs.getD i []) H q.2 0) l ss lps H full FA al ci (clOf l ss (ci.take kA)) k c1 Zs Hr ws (listed.setIfInBounds i true) ((i, r) :: cacc) H') ∨
              ((∀ j ∈ al.map Prod.fst, (listed.setIfInBounds i true).getD j false = true) ∧ ∃ k c1 Zs Hr ws, InvZ P C N σ (fun k => bks.getD k []) (fun i (q : AHeap × (Nat → Bool × Blk)) => q.1 ++ famT (qs.getD i []) H q.2 0) l ss lps H full FB [] ci (clOf l ss ci) k c1 Zs Hr ws (listed.setIfInBounds i true) ((i, r) :: cacc) H'))) := fun hall {k c1 Zs Hr ws} hiv => by
          have hkc : k < (clOf l ss ci).length := by
            rw [hlB]
            rcases Nat.lt_or_ge k ci.length with h | h
            · exact h
            · have := (hiv.ch m i hm).2 (by omega)
              rw [hun] at this; cases this
          obtain ⟨hg, hop⟩ := hiv.chain hzB hok' (fun m i o s _ => hcl m i o s) (.inr rfl) hkc hnd (hcin i hc) hc hol hs hun hw hlt
          exact ⟨hg, hop.mono fun r H' ⟨q1, c1', Zs', Hr', q2⟩ => ⟨q1, .inr ⟨fun j hj => getD_mono' i (hall j hj), k + 1, c1', Zs', Hr', ws, q2⟩⟩⟩
        rcases hiv with ⟨k, c1, Zs, Hr, ws, hiv⟩ | ⟨hall, k, c1, Zs, Hr, ws, hiv⟩
        · rcases Nat.lt_or_ge k (clOf l ss (ci.take kA)).length with hkc | hkc
          · obtain ⟨hg, hop⟩ := hiv.chain hz hok' hclA (.inl (Nat.le_of_eq hlA)) hkc hnd (hcin i hc) hc hol hs hun hw hlt
            exact ⟨hg, hop.mono fun r H' ⟨q1, c1', Zs', Hr', q2⟩ => ⟨q1, .inl ⟨k + 1, c1', Zs', Hr', ws, q2⟩⟩⟩
          · have hke : k = kA := by have := hiv.kp; omega
            have hmk : kA ≤ m := by
              rcases Nat.lt_or_ge m k with h | h
              · have := (hiv.ch m i hm).2 h
                rw [hun] at this; cases this
              · omega
            have hall : ∀ j ∈ al.map Prod.fst, listed.getD j false = true := fun j hj => hw j (hz.calc_ m i hmk hm j hj)
            exact hstepB hall (htoB hiv hke hall)
        · exact hstepB hall hiv
  · rintro listed cacc H' hiv hall
    have hlist : ∀ j ∈ al.map Prod.fst, listed.getD j false = true := fun j hj => hall j (hz.ksn j hj).1
    have hend : ∀ {k c1 Zs Hr ws}, InvZ P C N σ (fun k => bks.getD k []) (fun i (q : AHeap × (Nat → Bool × Blk)) => q.1 ++ famT (qs.getD i []) H q.2 0) l ss lps H full FB [] ci (clOf l ss ci) k c1 Zs Hr ws listed cacc H' → wpB P C N l.toArray Q (l.drop n) (finA (cacc ++ full) (l.take n) 0 σ) H' := fun {k c1 Zs Hr ws} hiv => by
      have hk := hiv.kle
      have hk' : k = ci.length := by
        rcases Nat.lt_or_ge k ci.length with h | h
        · have := (hiv.ch k _ (List.getElem?_eq_getElem h)).1 (hall _ (hcin _ (List.getElem_mem h)))
          omega
        · omega
      have hpl := hiv.pl
      rw [hk', List.drop_eq_nil_of_le (Nat.le_of_eq hlB), planZ] at hpl
      have h2 : wpB P C N l.toArray Q (l.drop n) (finA ((c1 ++ rA ws []) ++ full) (l.take n) 0 σ) ((Zs ++ []) ++ Hr) := hpl.2 ws
      rw [hiv.H]
      rw [List.append_nil] at h2
      rw [finA_congr (b := (c1 ++ rA ws []) ++ full) fun j => ?_]
      · exact h2
      · rw [lookR_append, lookR_append, lookR_append]
        by_cases hjl : lpMem lps ci.length j
        · obtain ⟨m, hm, him⟩ := hjl
          rw [(hiv.lp j ⟨m, hm, him⟩).1, if_pos (hall j (hz.lp m j hm him).1)]
          cases lookR c1 j <;> rfl
        · rw [hiv.oth j (by simp) hjl]
          cases lookR c1 j <;> rfl
    rcases hiv with ⟨k, c1, Zs, Hr, ws, hiv⟩ | ⟨_, k, c1, Zs, Hr, ws, hiv⟩
    · have hk' : k = kA := by
        have h1 := hiv.kp
        rw [hlA] at h1
        rcases Nat.lt_or_ge k kA with h | h
        · have hkl : k < ci.length := by omega
          have := (hiv.ch k _ (List.getElem?_eq_getElem hkl)).1 (hall _ (hcin _ (List.getElem_mem hkl)))
          omega
        · omega
      exact hend (htoB hiv hk' hlist)
    · exact hend hiv)
end Go.Ab
/- More rules: zeros appended to a slice without spare room, a whole array as such a slice, calls that are lent memory and return memory of their own. -/
set_option linter.unusedVariables false
namespace Go.Ab
open Go.Fl Go.RowKit
open Rep (rep)
section rules
variable {P : Program} {C : Ctx} {N : Nat} {σ : AEnv} {H : AHeap} {d : Option Nat} {ty : TypeId} {ps : String} {af : Array Edge} {g : Option (Nat × Bool)} {K : AV → Prop} {KH : AV → AHeap → Prop} {x y z : Operand} {T T2 E S D U : TypeId} {o : Oper}
/-- arr[:] of an array that does not turn. -/
theorem OpP.slArrPC {β : Type} {n : Nat} {s : Rep β} {ag : Bool} {a : Arr n β} (hn : n ≤ 9223372036854775807) (hf : elemOff P T = some (n, Rep.size β, ag)) (hx : EvA C σ H x (.p a)) (k : K (.vc a.l)) : OpP P N C ⟨d, .slice T x none none none, ty, ps, af, g⟩ σ H K :=
  .vk k (fun ρ I L hs => by
    obtain ⟨u, h2, b, o, cs, rfl, h3, h4⟩ := hx ρ I L hs
    refine .sliceArr hf h2 ⟨⟨some ⟨b, o, none⟩, by rw [a.h]⟩, cs, ?_, h3⟩
    have hl := h3.len
    rw [a.h] at hl ⊢
    exact Sl.of_cells h4 hl (Nat.le_refl _) (by unfold maxLen; omega))
theorem appendXZ {m n by_ : Nat} {ρ : Env} {I : Im} {L : Lh} {zv : Value} {xs : List Value} {a0 : Option Addr} (hT : P.underlying T = some (.slice E)) (h1 : OneT P E by_ zv) (hz1 : zv.cells = #[zv]) (hone : zv.oneCell' = true) (hU : P.underlying U = some (.int .i64))
    (hx : ev ρ x = some (.slice a0 n n)) (hsl : Sl I 1 (.slice a0 n n) n xs) (hy : ev ρ y = some (i64 (m : Int))) (hb : (n + m) * by_ ≤ 140737488355328) (hn : n + m ≤ 9223372036854775807) :
    OpX P N ⟨d, .call ⟨.builtin .append, #[x, y], #[T, U]⟩, ty, ps, af, g⟩ ρ I L (fun v' J X => J = I ∧ ((X = [] ∧ m = 0 ∧ v' = .slice a0 n n) ∨ ∃ Y, X = [Y] ∧ OwnG E 1 v' (n + m) (xs ++ List.replicate m zv) Y)) := by
  obtain ⟨inf, hi, hz, hsz, hs2⟩ := h1.get
  refine OpX.push fun a w ha hm => ?_
  have hzc : ∀ q, Builtin.zeroCells zv.cells q = (List.replicate q zv).toArray := fun q => by
    apply Array.ext'
    simp [Builtin.zeroCells, hz1, Nat.mod_one]
    rw [List.map_const']
    simp
  have hw : IntKind.wrap .i64 (m : Int) = (m : Int) := wrap_i64 (by omega) (by omega)
  have hm00 : ¬ ((m : Int) < 0) := by omega
  have hw0 : IntKind.wrap .i64 0 = 0 := wrap_i64 (by omega) (by omega)
  rw [← hs2] at hb
  have hmb : ¬ ((m : Int) * (inf.bytes : Int) > 281474976710656) := by
    have : m * inf.bytes ≤ (n + m) * inf.bytes := Nat.mul_le_mul_right _ (by omega)
    have h2 : ((m * inf.bytes : Nat) : Int) ≤ 140737488355328 := Int.ofNat_le.2 (Nat.le_trans this hb)
    rw [Int.natCast_mul] at h2
    omega
  have hmb' : ¬ (281474976710656 < (m : Int) * (inf.bytes : Int)) := hmb
  have hop : ∀ r, (Builtin.append_ #[T, U] ty #[.slice a0 n n, i64 (m : Int)]).run P w = r → (execOp a.eval ⟨d, .call ⟨.builtin .append, #[x, y], #[T, U]⟩, ty, ps, af, g⟩).run P w = r.andThen fun v w' => .ok (.value v) w' := fun r hr => by
    simp [execOp, resolve, invoke, builtin, ha.ev hx, ha.ev hy, hr]
  by_cases hm0 : m = 0
  · left
    subst hm0
    refine ⟨.slice a0 n n, ?_, rfl, .inl ⟨rfl, rfl, rfl⟩⟩
    rw [hop (.ok (.slice a0 n n) w)]
    · rfl
    · cases a0 <;> simp [Builtin.append_, run_underlying hT, run_underlying hU, sizeOf, typeInfo, zeroValue, hi, hz, asInt, asIntOf, hw0, storeCells]
  · right
    have hlt : n < n + m := by omega
    have hold : (Builtin.firstCells 1 n (.slice a0 n n)).run P w.drew = .ok xs.toArray w.drew := by
      have hm' : Mem I L w.drew := ⟨hm.im, hm.loc, hm.sep, hm.nodup⟩
      have := (Src.sl (P := P) (L := L) hsl).cells w.drew hm' n (Nat.le_refl _)
      rw [← hsl.len, List.take_length] at this; exact this
    have hge := grownCap_ge w (n + m) n E
    have hcm : grownCap w (n + m) n E ≤ maxLen := grownCap_le_maxLen w _ _ E (by unfold maxLen; omega)
    have hfit : ¬ (281474976710656 < Builtin.nextslicecap (n + m) n * inf.bytes) := by have := growslice_fits hlt hb; omega
    have hnle : ¬ (n + m ≤ n) := by omega
    have h63' : ¬ (9223372036854775807 < ((n : Int) + (m : Int))) := by omega
    have hr : (Builtin.append_ #[T, U] ty #[.slice a0 n n, i64 (m : Int)]).run P w = .ok (.slice (some ⟨w.heap.size, 0, none⟩) (n + m) (grownCap w (n + m) n E))
        (w.drew.alloc (.cells (xs.toArray ++ (List.replicate m zv).toArray ++ Builtin.zeroCells zv.cells (grownCap w (n + m) n E - (n + m))) E)) := by
      simp [Builtin.append_, run_underlying hT, run_underlying hU, sizeOf, typeInfo, zeroValue, hi, hz, asInt, asIntOf, hw, hm00, hmb', hnle, h63', hfit, Question.forced, newRow, grownCap, hold, hsz, hzc, hm0]
    refine ⟨.slice (some ⟨w.heap.size, 0, none⟩) (n + m) (grownCap w (n + m) n E), w.drew.alloc (.cells (xs.toArray ++ (List.replicate m zv).toArray ++ Builtin.zeroCells zv.cells (grownCap w (n + m) n E - (n + m))) E),
      .cells (xs.toArray ++ (List.replicate m zv).toArray ++ Builtin.zeroCells zv.cells (grownCap w (n + m) n E - (n + m))) E, by rw [hop _ hr]; rfl, rfl, rfl, rfl, rfl, rfl, .inr ⟨_, rfl, ?_⟩⟩
    have hxl : xs.length = n * 1 := hsl.len
    refine .inr ⟨w.heap.size, grownCap w (n + m) n E, (Builtin.zeroCells zv.cells (grownCap w (n + m) n E - (n + m))).toList, (0, 0), rfl, ?_, ?_, ?_, hge, hcm, .inl rfl⟩
    · congr 3
      apply Array.ext'; simp
    · rw [List.length_append, hxl, List.length_replicate, Nat.add_mul]; omega
    · rw [hzc]
      simp only [List.length_append, hxl, List.length_replicate]
      omega
theorem OpP.appendZC {α : Type} {r : Rep α} {i0 : Inhabited α} {by_ : Nat} {l : List α} {m : Int} {zv : Value} (hT : P.underlying T = some (.slice E)) (h1 : OneT P E by_ zv) (hz1 : zv.cells = #[zv]) (hone : zv.oneCell' = true) (hsz : Rep.size α = 1)
    (hz : ∀ I, rep I (default : α) [zv]) (hU : P.underlying U = some (.int .i64)) (hx : EvA C σ H x (.vc l)) (hy : EvA C σ H y (.v m)) (h0 : 0 ≤ m) (hb : (l.length + m.toNat) * by_ ≤ 140737488355328) (hn : l.length + m.toNat ≤ 9223372036854775807)
    (k : K (.v (l ++ List.replicate m.toNat (default : α)))) : OpP P N C ⟨d, .call ⟨.builtin .append, #[x, y], #[T, U]⟩, ty, ps, af, g⟩ σ H K := fun ρ I L hs => by
  obtain ⟨u, h2, ⟨a0, rfl⟩, xs, hsl, hrl⟩ := hx ρ I L hs
  obtain ⟨h3, _⟩ := hy.int hs
  have hm : m = ((m.toNat : Nat) : Int) := by omega
  rw [hm] at h3
  rw [hsz] at hsl
  refine OpX.frz fun a w ha hmm => (appendXZ hT h1 hz1 hone hU h2 hsl h3 hb hn a w ha hmm).mono ?_
  rintro v' w' ⟨J, X, q1, q2, q3, q4, q5, rfl, hq⟩
  have hrz : ∀ J', repL J' (List.replicate m.toNat (default : α)) (List.replicate m.toNat zv) := fun J' => by
    have := repL_replicate (hz J') m.toNat
    have e : ∀ n, (List.replicate n [zv]).flatten = List.replicate n zv := fun n => by
      induction n with
      | zero => rfl
      | succ n ih => rw [List.replicate_succ, List.flatten_cons, ih, List.replicate_succ]; rfl
    rwa [e] at this
  refine ⟨J, X, q1, q2, q3, q4, q5, fun J' hle hp => ⟨rfl, .v (l ++ List.replicate m.toNat default), ?_, k⟩⟩
  rcases hq with ⟨rfl, hm0, rfl⟩ | ⟨Y, rfl, hown⟩
  · rw [hm0, List.replicate_zero, List.append_nil]
    exact ⟨_, ⟨_, rfl, xs, by rw [hsz]; exact hsl.mono hle, hrl.mono hle⟩, rfl⟩
  · have hown' : (Blk.own E v' (l ++ List.replicate m.toNat (default : α))).brep J Y := ⟨_, by rw [List.length_append, List.length_replicate, hsz]; exact hown, hrl.append (hrz J)⟩
    exact freeze_own hown' hle (fun p hq => hp p (by simp [hq]))
/-- make of a slice that does not turn. -/
theorem OpP.makeF {α : Type} {r : Rep α} {i0 : Inhabited α} {by_ : Nat} {i : Int} (st : SlT P T E α by_) (hx : EvA C σ H x (.v i)) (h0 : 0 ≤ i) (hb : (by_ : Int) * i ≤ 281474976710656) (hn : i ≤ 9223372036854775807)
    (k : K (.vc (List.replicate i.toNat (default : α)))) : OpP P N C ⟨d, .makeSlice T x x, ty, ps, af, g⟩ σ H K := fun ρ I L hs => by
  obtain ⟨inf, zv, h1, h2, h3, h4, h5⟩ := st.elt.info
  obtain ⟨zs, hz1, hz2⟩ := st.ty.zero
  have hze : zs = zv.cells.toList := by
    have : zerosOf P E = some zv.cells.toList := by simp [zerosOf, h1, h2]
    rw [this] at hz1; exact (Option.some.inj hz1).symm
  have hzl : zs.length = Rep.size α := Rep.len (hz2 I)
  obtain ⟨hxi, _⟩ := hx.int hs
  refine OpX.frz (opx_new (v := fun b => slc b 0 i.toNat i.toNat) (cs := (List.replicate i.toNat zs).flatten) (e := E) (fun a w ha hm => ?_)
    fun b J' hle hpp => ⟨rfl, .vc (List.replicate i.toNat (default : α)), ⟨⟨some ⟨b, 0, none⟩, by rw [List.length_replicate]⟩, (List.replicate i.toNat zs).flatten, ?_, repL_replicate (hz2 J') i.toNat⟩, k⟩)
  · have h := run_make (P := P) w T E inf zv st.elt.und h1 h2 .i64 .i64 i i h0 (Int.le_refl _) (by rw [h4]; exact hb) hn
    simp only [execOp, Sem.run_bind, ha.ev hxi, h, Result.andThen_ok, Sem.run_pure]
    have e1 : madeCells zv.cells (i.toNat * inf.size) = (List.replicate i.toNat zs).flatten.toArray := by
      have := madeCells_gen (zs := zs) (n := i.toNat) (by rw [hzl]; exact st.ty.pos)
      rw [hze] at this ⊢
      rw [← this, h3, ← hzl, hze]
    rw [e1]
  · rw [List.length_replicate]
    have := Own.made (e := E) (s := Rep.size α) (b := b) (n := i.toNat) (xs := (List.replicate i.toNat zs).flatten) (by simp [hzl]) (by unfold maxLen; omega)
    exact this.sl (fun p hp => hpp p (by simpa using hp))
end rules
section forget
variable {P : Program} {C : Ctx} {N : Nat} {σ : AEnv} {H : AHeap}
/-- A chunk of which nothing more is said. -/
theorem wpA.forget {Q : Exit → AEnv → AHeap → Prop} {B : Blk} {b : Bool} {c : Code} {F : Bool × Blk → AHeap} (hH : Hole H (b, B) F) (k : wpA P C N c Q σ (F (b, .none_))) : wpA P C N c Q σ H := fun ρ I L hs => by
  obtain ⟨i, X, h2, h3, h4⟩ := hH.get hs.heap
  have hset : L.set i X = L := by
    obtain ⟨hi, e⟩ := List.getElem?_eq_some_iff.1 h2
    rw [← e, List.set_getElem_self]
  have := h4 I (b, .none_) X (Le.refl I) ⟨trivial, h3.2⟩
  rw [hset] at this
  exact k ρ I L ⟨hs.env, this, hs.im0⟩
theorem wpB.forget {ops : Array Oper} {Q : Exit → AEnv → AHeap → Prop} {B : Blk} {b : Bool} {os : List Oper} {F : Bool × Blk → AHeap} (hH : Hole H (b, B) F) (k : wpB P C N ops Q os σ (F (b, .none_))) : wpB P C N ops Q os σ H := fun ρ I L hs => by
  obtain ⟨i, X, h2, h3, h4⟩ := hH.get hs.heap
  have hset : L.set i X = L := by
    obtain ⟨hi, e⟩ := List.getElem?_eq_some_iff.1 h2
    rw [← e, List.set_getElem_self]
  have := h4 I (b, .none_) X (Le.refl I) ⟨trivial, h3.2⟩
  rw [hset] at this
  exact k ρ I L ⟨hs.env, this, hs.im0⟩
end forget
/-- Memory that holds nothing but itself. -/
def FlatH (r : AV) (Hs : List Blk) : Prop := FlatV r ∧ ∀ I J L, repK I Hs L → repK J Hs L
theorem FlatV.raw {u : Value} : FlatV (.raw u) := fun I J v h => h
theorem FlatH.own {E : TypeId} {α : Type} [Rep α] [RepF α] {u : Value} {l : List α} : FlatH (.raw u) [.own E u l] := ⟨.raw, fun I J L h => by
  obtain ⟨X, R, rfl, ⟨xs, h1, h2⟩, h3⟩ := h
  exact ⟨X, R, rfl, ⟨xs, h1, h2.any⟩, h3⟩⟩
section calls
variable {P : Program} {C : Ctx} {N : Nat} {σ : AEnv} {H : AHeap} {G : Gl} (hG : G.p C.I0) {f : FuncId} {d : Option Nat} {args : Array Operand} {tys : Array TypeId} {ty : TypeId} {ps : String} {af : Array Edge} {g : Option (Nat × Bool)} {as : List AV}
include hG
/-- A call that is lent the call's own memory and may return memory of its own. -/
theorem OpH.lend0 {post : AV → List Blk → Prop} {K : AV → AHeap → Prop} (h : FunH G P f as [] post) (hv : EvLs C σ H args.toList as) (hf : ∀ r Hs, post r Hs → FlatH r Hs) (k : ∀ r Hs, post r Hs → K r (Hs.map (fun B => (true, B)) ++ H)) :
    OpH P C N ⟨d, .call ⟨.value (.func f), args, tys⟩, ty, ps, af, g⟩ σ H K := fun ρ I L hs => by
  obtain ⟨vs, h1, h2⟩ := hv.get hs
  intro a w ha hst
  have hm := hst.mem
  have hcs : ∀ p ∈ L.flatten, I p.1 = none := hm.sep
  have hle0 : Le I (I.with L.flatten) := Im.with_le hcs
  have hM := h (I.with L.flatten) [] vs (G.mono (hs.im0.trans hle0) hG) (h2 _ hle0 (fun p hp => Im.with_mem hm.nodup hp)) rfl
  have hm2 : Mem (I.with L.flatten) [] w := ⟨fun b o hb => by
    rcases Im.with_some hb with h | h
    · exact hm.loc (b, o) h
    · exact hm.im b o h, by simp, by simp, by simp⟩
  rw [run_callOp hM.ok rfl (ha.ev (x := .func f) rfl) (ha.evL h1)]
  refine (hM.run w hm2).mono ?_
  rintro e w' ⟨v, J, L', rfl, hc, hle, hn, hm', hown, r, Hs', q1, q2, q3⟩
  obtain ⟨f1, f2⟩ := hf r Hs' q3
  have hlt : ∀ p ∈ L.flatten, p.1 < w.heap.size := fun p hp => lt_of_get (hm.loc p hp)
  have hnew : ∀ p ∈ L'.flatten, w.heap.size ≤ p.1 := fun p hp => by simpa using hown p hp
  have hmem : Mem I (L' ++ L) w' := by
    refine ⟨fun b o hb => (hc.block b (lt_of_get (hm.im b o hb)) (by simp)).trans (hm.im b o hb), fun p hp => ?_, fun p hp => ?_, ?_⟩
    · simp only [List.flatten_append, List.mem_append] at hp
      rcases hp with hp | hp
      · exact hm'.loc p hp
      · exact (hc.block p.1 (hlt p hp) (by simp)).trans (hm.loc p hp)
    · simp only [List.flatten_append, List.mem_append] at hp
      rcases hp with hp | hp
      · cases hj : I p.1 with
        | none => rfl
        | some o => have := lt_of_get (hm.im p.1 o hj); have := hnew p hp; omega
      · exact hm.sep p hp
    · simp only [List.flatten_append, List.map_append]
      refine List.nodup_append.2 ⟨hm'.nodup, hm.nodup, ?_⟩
      rintro x hx y hy rfl
      obtain ⟨p, hp, rfl⟩ := List.mem_map.1 hx
      obtain ⟨q, hq, hqe⟩ := List.mem_map.1 hy
      have := hnew p hp
      have := hlt q hq
      omega
  refine ⟨v, rfl, I, L' ++ L, hst.step (by simpa using hc) (Le.refl I) (fun b h0 h1 => absurd h0 h1) hmem hnew, Le.refl I, r, _, f1 _ _ _ q1, ?_, k r Hs' q3⟩
  exact ((f2 J I L' q2).toT (fun p hp => Nat.le_trans hst.chg.size (hnew p hp))).append hs.heap
end calls
end Go.Ab
/- Arguments that come in, as typed values. -/
set_option linter.unusedVariables false
namespace Go.Ab
open Go.Fl Go.RowKit Go.ChangeShapes Go.WideShapes Go.ChangeAt
open Rep (rep)
/-- What comes in at a type stands as a value of the Lean type does. -/
def Opens (P : Program) (T : TypeId) (α : Type) [Rep α] : Prop := P.cellsOf T = Rep.size α ∧
  ∀ (H : Type) (enc : TypeId × Value → H) (W : World) (base : Nat) (spare : Nat → Bool) (held : Bool) (fuel : Nat) (cs : List Value) (x : DataW H × List MemPlace), DataW.trod enc P W base spare held fuel T cs = some x → ∃ a : α, rep (imOf W) a cs
variable {P : Program} {T E : TypeId}
theorem Opens.i64 (hT : P.underlying T = some (.int .i64)) (hc : P.cellsOf T = 1) : Opens P T Int := ⟨hc, fun H enc W base spare held fuel cs x h => by
  obtain ⟨n, rfl, _, hw⟩ := DataW.trod_int hT h
  simp [Lit.wf, IntKind.min, IntKind.max, IntKind.signed, IntKind.bits] at hw
  exact ⟨n, rfl, by omega, by omega⟩⟩
theorem Opens.u8 (hT : P.underlying T = some (.int .u8)) (hc : P.cellsOf T = 1) : Opens P T UInt8 := ⟨hc, fun H enc W base spare held fuel cs x h => by
  obtain ⟨n, rfl, _, hw⟩ := DataW.trod_int hT h
  simp [Lit.wf, IntKind.min, IntKind.max, IntKind.signed, IntKind.bits] at hw
  refine ⟨UInt8.ofNat n.toNat, ?_⟩
  show [Value.int .u8 n] = [Fl.u8 _]
  unfold Fl.u8
  congr 2; simp; omega⟩
theorem Opens.u16 (hT : P.underlying T = some (.int .u16)) (hc : P.cellsOf T = 1) : Opens P T UInt16 := ⟨hc, fun H enc W base spare held fuel cs x h => by
  obtain ⟨n, rfl, _, hw⟩ := DataW.trod_int hT h
  simp [Lit.wf, IntKind.min, IntKind.max, IntKind.signed, IntKind.bits] at hw
  refine ⟨UInt16.ofNat n.toNat, ?_⟩
  show [Value.int .u16 n] = [Ab.u16 _]
  unfold Ab.u16
  congr 2; simp; omega⟩
theorem Opens.u32 (hT : P.underlying T = some (.int .u32)) (hc : P.cellsOf T = 1) : Opens P T UInt32 := ⟨hc, fun H enc W base spare held fuel cs x h => by
  obtain ⟨n, rfl, _, hw⟩ := DataW.trod_int hT h
  simp [Lit.wf, IntKind.min, IntKind.max, IntKind.signed, IntKind.bits] at hw
  refine ⟨UInt32.ofNat n.toNat, ?_⟩
  show [Value.int .u32 n] = [Fl.u32 _]
  unfold Fl.u32
  congr 2; simp; omega⟩
theorem Opens.u64 (hT : P.underlying T = some (.int .u64)) (hc : P.cellsOf T = 1) : Opens P T UInt64 := ⟨hc, fun H enc W base spare held fuel cs x h => by
  obtain ⟨n, rfl, _, hw⟩ := DataW.trod_int hT h
  simp [Lit.wf, IntKind.min, IntKind.max, IntKind.signed, IntKind.bits] at hw
  refine ⟨UInt64.ofNat n.toNat, ?_⟩
  show [Value.int .u64 n] = [Fl.u64 _]
  unfold Fl.u64
  congr 2; simp; omega⟩
theorem Opens.bool (hT : P.underlying T = some .bool) (hc : P.cellsOf T = 1) : Opens P T Bool := ⟨hc, fun H enc W base spare held fuel cs x h => by
  obtain ⟨n, rfl, _⟩ := DataW.trod_bool hT h
  exact ⟨n, rfl⟩⟩
theorem Opens.str (hT : P.underlying T = some .string) (hc : P.cellsOf T = 1) : Opens P T Str := ⟨hc, fun H enc W base spare held fuel cs x h => by
  obtain ⟨s, rfl, _, hs⟩ := DataW.trod_string hT h
  refine ⟨⟨s.data.toList⟩, ⟨s, rfl, rfl⟩, ?_⟩
  show s.data.toList.length ≤ _
  have : s.data.toList.length = s.size := rfl
  unfold maxLen at hs
  omega⟩
theorem add_add (a : Addr) (i j : Nat) : (a.add i).add j = a.add (i + j) := by
  unfold Addr.add
  rcases a with ⟨b, o, _ | s⟩ <;> by_cases hi : i = 0 <;> by_cases hj : j = 0 <;> simp [hi, hj, Nat.add_assoc]
theorem Opens.slice {α : Type} {r : Rep α} (hT : P.underlying T = some (.slice E)) (hc : P.cellsOf T = 1) (hE : Opens P E α) (hp : 0 < Rep.size α) : Opens P T (List α) := ⟨hc, fun H enc W base spare held fuel cs x h => by
  rcases DataW.trod_slice hT h with ⟨rfl, _⟩ | ⟨a, len, cap, elems, rest, n, _, rfl, _, hb, hl, hm, hel, hget, _⟩
  · exact ⟨[], _, rfl, [], Sl.nil _ _, rfl⟩
  · have key : ∀ k, k ≤ len → ∃ (l : List α) (xs : List Value), l.length = k ∧ repL (imOf W) l xs ∧ ∀ i v, xs[i]? = some v → W.cell? (a.add i) = some v := by
      intro k
      induction k with
      | zero => exact fun _ => ⟨[], [], rfl, rfl, fun i v hv => by simp at hv⟩
      | succ k ih =>
        intro hk
        obtain ⟨l, xs, h1, h2, h3⟩ := ih (by omega)
        have hg := hget k (by omega)
        rw [List.getElem?_eq_getElem (by omega)] at hg
        obtain ⟨c, hc1, hc2⟩ := Option.bind_eq_some_iff.1 hg
        obtain ⟨_, hcl, hcell⟩ := World.cells?_some hc1
        obtain ⟨y, hy⟩ := hE.2 H enc W base spare held n c _ hc2
        refine ⟨l ++ [y], xs ++ c, by simp [h1], h2.append (.one hy), fun i v hv => ?_⟩
        have hxl : xs.length = k * Rep.size α := by rw [h2.len, h1]
        by_cases hi : i < xs.length
        · rw [List.getElem?_append_left hi] at hv; exact h3 i v hv
        · rw [List.getElem?_append_right (by omega)] at hv
          have hj := (List.getElem?_eq_some_iff.1 hv).1
          have := hcell (i - xs.length) (by omega)
          rw [hv, hE.1, add_add, ← hxl, show xs.length + (i - xs.length) = i by omega] at this
          exact this
    obtain ⟨l, xs, h1, h2, h3⟩ := key len (Nat.le_refl _)
    have hxl := h2.len
    refine ⟨l, _, rfl, xs, ⟨_, _, by rw [h1], h2.len, by omega, hm, (fun h => by cases h), fun hne => ?_⟩, h2⟩
    rcases a with ⟨ab, ao, as⟩
    obtain ⟨v0, hv0⟩ : ∃ v, xs[0]? = some v := ⟨_, List.getElem?_eq_getElem (List.length_pos_iff.2 hne)⟩
    have hc0 := h3 0 v0 hv0
    obtain ⟨hsp, cs, e, fr, hob, _⟩ := cell_plain hc0
    have hsp2 : as = none := by
      cases as with
      | none => rfl
      | some q =>
        unfold Addr.add at hsp
        simp at hsp
    subst hsp2
    rw [Addr.add_plain] at hob
    have hob : W.heap[ab]? = some (Obj.cells cs e fr) := hob
    refine ⟨ab, ao, rfl, cs, e, fr, hob, fun i v hv => ?_⟩
    have hcv := h3 i v hv
    rw [Addr.add_plain] at hcv
    obtain ⟨_, cs2, e2, fr2, hob2, hv2⟩ := cell_plain hcv
    have : Obj.cells cs e fr = Obj.cells cs2 e2 fr2 := Option.some.inj (hob.symm.trans hob2)
    cases this
    exact hv2⟩
theorem Opens.array {α : Type} {r : Rep α} {n : Nat} (hT : P.underlying T = some (.array n E)) (hc : P.cellsOf T = n * Rep.size α) (hE : Opens P E α) : Opens P T (Arr n α) := ⟨hc, fun H enc W base spare held fuel cs x h => by
  obtain ⟨xs, m, _, _, hlen, hxl, hel⟩ := DataW.trod_array hT h
  have key : ∀ k, k ≤ n → ∃ l : List α, l.length = k ∧ repL (imOf W) l (cs.take (k * Rep.size α)) := by
    intro k
    induction k with
    | zero => exact fun _ => ⟨[], rfl, by simp [repL]⟩
    | succ k ih =>
      intro hk
      obtain ⟨l, h1, h2⟩ := ih (by omega)
      have hg := hel k (by omega)
      rw [List.getElem?_eq_getElem (by omega), hE.1] at hg
      obtain ⟨y, hy⟩ := hE.2 H enc W base spare held m _ _ hg
      refine ⟨l ++ [y], by simp [h1], ?_⟩
      have e : cs.take ((k + 1) * Rep.size α) = cs.take (k * Rep.size α) ++ (cs.drop (k * Rep.size α)).take (Rep.size α) := by
        rw [Nat.succ_mul, List.take_add]
      rw [e]
      exact h2.append (.one hy)
  obtain ⟨l, h1, h2⟩ := key n (Nat.le_refl _)
  refine ⟨⟨l, h1⟩, ?_⟩
  show repL (imOf W) l cs
  rwa [List.take_of_length_le (by rw [hlen, hc]; exact Nat.le_refl _)] at h2⟩
/-- The fields of a structure, from an offset on. -/
inductive OpensF (P : Program) : List Field → Nat → (β : Type) → Rep β → Prop
  | nil {off : Nat} : OpensF P [] off Unit inferInstance
  | cons {f : Field} {fs : List Field} {off : Nat} {α β : Type} {r : Rep α} {s : Rep β} (h1 : f.offset = off) (h2 : Opens P f.type α) (t : OpensF P fs (off + Rep.size α) β s) : OpensF P (f :: fs) off (α × β) inferInstance
theorem OpensF.run {fs : List Field} {off : Nat} {β : Type} {s : Rep β} (h : OpensF P fs off β s) {H : Type} {enc : TypeId × Value → H} {W : World} {base : Nat} {spare : Nat → Bool} {held : Bool} {n : Nat} {cs : List Value} (hl : cs.length = off + Rep.size β)
    (hg : ∀ (i : Nat) (f : Field), fs[i]? = some f → ∃ x, DataW.trod enc P W base spare held n f.type ((cs.drop f.offset).take (P.cellsOf f.type)) = some x) : ∃ b : β, rep (imOf W) b (cs.drop off) := by
  induction h with
  | nil => exact ⟨(), List.drop_eq_nil_of_le (by rw [hl]; exact Nat.le_refl _)⟩
  | @cons f fs off α β r s h1 h2 t ih =>
    obtain ⟨x, hx⟩ := hg 0 f rfl
    rw [h1, h2.1] at hx
    obtain ⟨y, hy⟩ := h2.2 H enc W base spare held n _ _ hx
    obtain ⟨b, hb⟩ := ih (by rw [hl]; show off + (Rep.size α + Rep.size β) = _; omega) (fun i f' hf => hg (i + 1) f' (by simpa using hf))
    refine ⟨(y, b), _, _, ?_, hy, hb⟩
    rw [← List.drop_drop, List.take_append_drop]
theorem Opens.struct {S β : Type} [s : Rep β] {fs : Array Field} (f : S → β) (g : β → S) (hfg : ∀ b, f (g b) = b) (hT : P.underlying T = some (.struct fs)) (hc : P.cellsOf T = Rep.size β) (h : OpensF P fs.toList 0 β s) : @Opens P T S (Rep.via f) :=
  letI : Rep S := Rep.via f
  ⟨hc, fun H enc W base spare held fuel cs x hx => by
    obtain ⟨xs, n, _, _, hlen, hxl, hel⟩ := DataW.trod_struct hT hx
    obtain ⟨b, hb⟩ := h.run (W := W) (enc := enc) (base := base) (spare := spare) (held := held) (n := n) (cs := cs) (by rw [hlen, hc]; omega) (fun i f hf => by
      have hf' : fs[i]? = some f := by simpa using hf
      have := hel i f hf'
      have hi := (Array.getElem?_eq_some_iff.1 hf').1
      exact ⟨_, this.trans (List.getElem?_eq_getElem (by omega))⟩)
    exact ⟨g b, by show rep (imOf W) (f (g b)) cs; rw [hfg]; simpa using hb⟩⟩
/-- A value that comes in. -/
theorem Opens.val {α : Type} {r : Rep α} (h : Opens P T α) {H : Type} {enc : TypeId × Value → H} {W : World} {base : Nat} {spare : Nat → Bool} {held : Bool} {v : Value} {d : DataW H} {p : List MemPlace} (ht : DataW.Trod enc P W base spare held T v d p)
    (hv : ∀ cs : List Value, v.cells.toList = cs → v = asV (Rep.agg α) cs) : ∃ a : α, RepV (imOf W) (.v a) v := by
  obtain ⟨fuel, hf⟩ := ht
  obtain ⟨a, ha⟩ := h.2 H enc W base spare held fuel _ _ hf
  exact ⟨a, _, ha, hv _ rfl⟩
theorem FunA.calls {G : Gl} {f : FuncId} {as : List AV} {vs : List Value} {W : World} (h : FunA G P f as (fun r => r = .v true)) (hG : G.p (imOf W)) (hv : RepVs (imOf W) as vs) :
    Calls P f vs.toArray W (fun e W' => e = .returned (.bool true) ∧ Below W.heap.size W W') :=
  Fun.calls ((h (imOf W) vs hG hv).mono fun v J _ ⟨r, h1, h2⟩ => by
    subst h2
    obtain ⟨cs, rfl, rfl⟩ := h1
    rfl)
theorem okWide_agg {dd : TypeDesc} (hT : P.underlying T = some dd) (hr : isRow dd = true) {W : World} {r : Reach} {base : Nat} {v : Value} (h : Value.okWide P W r base T v) : ∃ cs, v = .agg cs := by
  unfold Value.okWide at h
  rw [hT] at h
  cases dd <;> first | (simp [isRow] at hr; done) | (obtain ⟨cs, h1, _⟩ := h; exact ⟨cs, h1⟩)
theorem form_one {v : Value} (h : v.cells = #[v]) : ∀ cs : List Value, v.cells.toList = cs → v = asV false cs := fun cs hc => by
  rw [h] at hc; subst hc; rfl
theorem form_agg {xs : Array Value} : ∀ cs : List Value, (Value.agg xs).cells.toList = cs → Value.agg xs = asV true cs := fun cs hc => by
  subst hc; simp [asV, Value.cells]
end Go.Ab
