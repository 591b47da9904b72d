import Derived.Test.YtlohppddhbimnaaDoorAbE
/- Rules for memory over typed values: addresses, loads, stores, new memory. -/
set_option linter.unusedVariables false
namespace Go.Ab
open Go.Fl Go.RowKit
open Rep (rep)
variable {P : Program} {C : Ctx} {N : Nat} {σ : AEnv} {H : AHeap} {K : AV → Prop} {KH : AV → AHeap → Prop} {d : Option Nat} {ty : TypeId} {ps : String} {af : Array Edge} {g : Option (Nat × Bool)}
variable {x y z : Operand} {T T2 E S D : TypeId}
/-! addresses -/
theorem OpP.idxL {α β : Type} {r : Rep α} {s : Rep β} {n : Nat} {ag : Bool} {w : Value} {l : Lens α (Arr n β)} {i : Int} (hf : elemOff P T = some (n, Rep.size β, ag)) (hx : EvA C σ H x (.ln w l)) (hy : EvA C σ H y (.v i)) (h0 : 0 ≤ i) (h1 : i < n)
    (k : K (.ln w (l.comp (Lens.idx i.toNat (by omega))))) : OpP P N C ⟨d, .indexAddr T x y, ty, ps, af, g⟩ σ H K :=
  .vk k (fun ρ I L hs => by
    obtain ⟨u, h2, b, h3, rfl⟩ := hx ρ I L hs
    exact .indexAddrA hf h2 (hy.int hs).1 h0 h1 ⟨b, h3, rfl⟩)
theorem OpP.idxP {β : Type} {s : Rep β} {n : Nat} {ag : Bool} {a : Arr n β} {i : Int} (hf : elemOff P T = some (n, Rep.size β, ag)) (hx : EvA C σ H x (.p a)) (hy : EvA C σ H y (.v i)) (h0 : 0 ≤ i) (h1 : i < n)
    (k : K (.p (a.l[i.toNat]'(by rw [a.h]; omega)))) : OpP P N C ⟨d, .indexAddr T x y, ty, ps, af, g⟩ σ H K :=
  .vk k (fun ρ I L hs => by
    obtain ⟨u, h2, b, o, cs, rfl, h3, h4⟩ := hx ρ I L hs
    exact .indexAddrA hf h2 (hy.int hs).1 h0 h1 ⟨b, _, _, rfl, repL.get h3 i.toNat (by rw [a.h]; omega), h4.sub (i.toNat * Rep.size β) (fun j v hv => segGet_get hv)⟩)
theorem OpP.idxOwn {β : Type} {s : Rep β} {ib : Inhabited β} {t : Nat} {w : Value} {l : List β} {i : Int} {bb : Bool} {E' : TypeId} {F : Bool × Blk → AHeap} (tE : TyIs P E β) (hT : P.underlying T = some (.slice E)) (hx : lookA σ t = some (.raw w)) (hH : Hole H (bb, .own E' w l) F)
    (hy : EvA C σ H y (.v i)) (h0 : 0 ≤ i) (h1 : i < l.length) (k : K (.el w i.toNat (Lens.id (α := β)))) : OpP P N C ⟨d, .indexAddr T (.tmp t) y, ty, ps, af, g⟩ σ H K :=
  .vk k (fun ρ I L hs => by
    obtain ⟨u, h2, rfl⟩ := hs.env t _ hx
    obtain ⟨j, X, h3, h4, _⟩ := hH.get hs.heap
    obtain ⟨xs, ho, hl⟩ := h4.1
    rcases ho with ⟨_, h, _⟩ | ⟨b, c, sp, q, rfl, _⟩
    · omega
    · refine .indexAddrS hT tE.size h2 (hy.int hs).1 h0 h1 ⟨b, rfl, ?_⟩
      simp [Lens.id])
theorem OpP.fldL {α β γ : Type} {r : Rep α} {s : Rep β} {q : Rep γ} {i off sz : Nat} {ag : Bool} {w : Value} {l : Lens α β} (m : Lens β γ) (hf : fieldOff P T i = some (off, sz + 1, ag)) (ho : off = m.off) (hx : EvA C σ H x (.ln w l)) (k : K (.ln w (l.comp m))) :
    OpP P N C ⟨d, .fieldAddr T x i, ty, ps, af, g⟩ σ H K :=
  .vk k (fun ρ I L hs => by
    obtain ⟨u, h2, b, h3, rfl⟩ := hx ρ I L hs
    subst ho
    exact .fieldAddr hf h2 ⟨b, h3, rfl⟩)
theorem OpP.fldE {α β γ : Type} {r : Rep α} {s : Rep β} {q : Rep γ} {i off sz kk : Nat} {ag : Bool} {w : Value} {l : Lens α β} (m : Lens β γ) (hf : fieldOff P T i = some (off, sz + 1, ag)) (ho : off = m.off) (hx : EvA C σ H x (.el w kk l)) (k : K (.el w kk (l.comp m))) :
    OpP P N C ⟨d, .fieldAddr T x i, ty, ps, af, g⟩ σ H K :=
  .vk k (fun ρ I L hs => by
    obtain ⟨u, h2, b, h3, rfl⟩ := hx ρ I L hs
    subst ho
    exact .fieldAddr hf h2 ⟨b, h3, by simp [Lens.comp, Nat.add_assoc]⟩)
theorem OpP.fldP {β γ : Type} {s : Rep β} {q : Rep γ} {i off sz : Nat} {ag : Bool} {a : β} (m : Lens β γ) (hf : fieldOff P T i = some (off, sz + 1, ag)) (ho : off = m.off) (hx : EvA C σ H x (.p a)) (k : K (.p (m.get a))) :
    OpP P N C ⟨d, .fieldAddr T x i, ty, ps, af, g⟩ σ H K :=
  .vk k (fun ρ I L hs => by
    obtain ⟨u, h2, b, o, cs, rfl, h3, h4⟩ := hx ρ I L hs
    subst ho
    exact .fieldAddr hf h2 ⟨b, _, _, rfl, m.gets h3, h4.sub m.off (fun j v hv => segGet_get hv)⟩)
/-! loads -/
theorem OpV.loadAny {ρ : Env} {I : Im} {L : Lh} {φ : Value → Prop} {α : Type} [Rep α] [Inhabited α] {I' : Im} {a : α} {vs : List Value} {b off : Nat} (tT : TyIs P T α) (hx : ev ρ x = some (ptr b off)) (hr : rep I' a vs)
    (hc : ∀ w, Mem I L w → ∀ j v, vs[j]? = some v → w.cell? ⟨b, off + j, none⟩ = some v) (k : φ (asV (Rep.agg α) vs)) : OpV P N ⟨d, .load T x, ty, ps, af, g⟩ ρ I L φ := .mk k fun ac w ha hm => by
  obtain ⟨dd, hd1, hd2⟩ := tT.kind
  cases hag : Rep.agg α with
  | true =>
    have hs : SizeIs P T vs.length := by rw [Rep.len hr]; exact tT.size
    simp [execOp, ha.ev hx, Fl.run_loadA hd1 (hd2.trans hag) hs (hc w hm), asV]
  | false =>
    obtain ⟨v, rfl, hv⟩ := asV_one hr hag
    simp [execOp, ha.ev hx, Fl.run_load hd1 (hd2.trans hag) (show w.cell? ⟨b, off, none⟩ = some v by simpa using hc w hm 0 v rfl), asV]
theorem OpP.ldP {α : Type} {r : Rep α} {i : Inhabited α} {a : α} (tT : TyIs P T α) (hx : EvA C σ H x (.p a)) (k : K (.v a)) : OpP P N C ⟨d, .load T x, ty, ps, af, g⟩ σ H K :=
  .vk k (fun ρ I L hs => by
    obtain ⟨u, h2, b, o, cs, rfl, h3, h4⟩ := hx ρ I L hs
    exact OpV.loadAny tT h2 h3 (fun w hm j v hv => h4.cell hm hv) ⟨cs, h3, rfl⟩)
theorem OpP.ldL {α β : Type} {r : Rep α} {s : Rep β} {i : Inhabited β} {w : Value} {l : Lens α β} {a : α} {bb : Bool} {F : Bool × Blk → AHeap} (tT : TyIs P T β) (hx : EvA C σ H x (.ln w l)) (hH : Hole H (bb, .ob w a) F) (k : K (.v (l.get a))) :
    OpP P N C ⟨d, .load T x, ty, ps, af, g⟩ σ H K :=
  .vk k (fun ρ I L hs => by
    obtain ⟨u, h2, b, h3, rfl⟩ := hx ρ I L hs
    obtain ⟨j, X, h4, h5, _⟩ := hH.get hs.heap
    obtain ⟨b2, T', cs, rfl, rfl, h6⟩ := h5.1
    cases h3
    exact OpV.loadAny tT h2 (l.gets h6) (fun w hm j v hv => by rw [chunk_cell hm h4]; exact segGet_get hv) ⟨_, l.gets h6, rfl⟩)
theorem OpP.ldE {α β : Type} {r : Rep α} {s : Rep β} {i : Inhabited β} {w : Value} {l : Lens α β} {as : List α} {kk : Nat} {bb : Bool} {E' : TypeId} {F : Bool × Blk → AHeap} (tT : TyIs P T β) (hx : EvA C σ H x (.el w kk l)) (hH : Hole H (bb, .own E' w as) F) (hk : kk < as.length)
    (k : K (.v (l.get as[kk]))) : OpP P N C ⟨d, .load T x, ty, ps, af, g⟩ σ H K :=
  .vk k (fun ρ I L hs => by
    obtain ⟨u, h2, b, h3, rfl⟩ := hx ρ I L hs
    obtain ⟨j, X, h4, h5, _⟩ := hH.get hs.heap
    obtain ⟨xs, ho, h6⟩ := h5.1
    rcases ho with ⟨_, h, _⟩ | ⟨b2, c, sp, q, rfl, rfl, _⟩
    · omega
    · cases h3
      have hg := l.gets (h6.get kk hk)
      rw [segGet_segGet l.fits] at hg
      exact OpV.loadAny tT h2 hg (fun w hm j v hv => by
        rw [chunk_cellG hm h4]
        have := segGet_get hv
        rw [List.getElem?_append_left (List.getElem?_eq_some_iff.1 this).1]; exact this) ⟨_, hg, rfl⟩)
/-! stores -/
theorem cells_asV {α : Type} [Rep α] {I : Im} {a : α} {vs : List Value} (h : rep I a vs) : (asV (Rep.agg α) vs).cells.toList = vs := by
  cases hag : Rep.agg α with
  | true => simp [asV, Value.cells]
  | false =>
    obtain ⟨v, rfl, hv⟩ := asV_one h hag
    have h1 := Rep.flat h
    simp only [ones, List.all_cons, List.all_nil, Bool.and_true] at h1
    simp only [asV, List.headD_cons]
    cases v <;> first | rfl | (simp [Value.oneCell'] at h1)
theorem OpH.stL {α β : Type} {r : Rep α} {s : Rep β} {i : Inhabited β} {w : Value} {l : Lens α β} {a : α} {c : β} {bb : Bool} {F : Bool × Blk → AHeap} (tT : TyIs P T β) (hx : EvA C σ H x (.ln w l)) (hy : EvA C σ H y (.v c)) (hH : Hole H (bb, .ob w a) F)
    (k : KH .any (F (bb, .ob w (l.set c a)))) : OpH P C N ⟨d, .store T x y, ty, ps, af, g⟩ σ H KH := fun ρ I L hs => by
  obtain ⟨u, h2, b, h3, rfl⟩ := hx ρ I L hs
  obtain ⟨u, h7, vs, h8, rfl⟩ := hy ρ I L hs
  obtain ⟨j, X, h4, h5, h6⟩ := hH.get hs.heap
  obtain ⟨b2, T', cs, rfl, rfl, h9⟩ := h5.1
  cases h3
  refine .store j (by rw [Rep.len h8]; exact tT.size) h2 h7 (cells_asV h8) (Rep.flat h8) h4 (by rw [Rep.len h8, Rep.len h9]; exact l.fits) ⟨Le.refl I, .any, _, trivial, h6 I (bb, .ob (ptr b 0) (l.set c a)) [(b, row (segSet cs l.off vs) T')] (Le.refl I) ⟨⟨b, T', _, rfl, rfl, l.sets h9 h8⟩, fun hb p hp => ?_⟩, k⟩
  have := h5.2 hb (b, row cs T') (by simp)
  simp only [List.mem_singleton] at hp
  subst hp; exact this
theorem OpH.stW {α : Type} {r : Rep α} {i : Inhabited α} {w : Value} {a c : α} {bb : Bool} {F : Bool × Blk → AHeap} (tT : TyIs P T α) (hx : EvA C σ H x (.ln w (Lens.id (α := α)))) (hy : EvA C σ H y (.v c)) (hH : Hole H (bb, .ob w a) F)
    (k : KH .any (F (bb, .ob w c))) : OpH P C N ⟨d, .store T x y, ty, ps, af, g⟩ σ H KH := .stL tT hx hy hH k
theorem OpP.ldW {α : Type} {r : Rep α} {i : Inhabited α} {w : Value} {a : α} {bb : Bool} {F : Bool × Blk → AHeap} (tT : TyIs P T α) (hx : EvA C σ H x (.ln w (Lens.id (α := α)))) (hH : Hole H (bb, .ob w a) F) (k : K (.v a)) :
    OpP P N C ⟨d, .load T x, ty, ps, af, g⟩ σ H K := .ldL tT hx hH k
theorem OpS.storeG {ρ : Env} {I : Im} {L : Lh} {K : Value → Im → Lh → Prop} (i : Nat) {b off : Nat} {v : Value} {cs vs : List Value} {e : TypeId} {q : Nat × Nat} (hs : SizeIs P T vs.length) (hx : ev ρ x = some (ptr b off)) (hy : ev ρ y = some v) (hv : v.cells.toList = vs) (h1 : ones vs = true)
    (hL : L[i]? = some [(b, .cells cs.toArray e q)]) (hq : ∀ j, j < cs.length → ¬ (q.1 ≤ j ∧ j < q.2)) (hle : off + vs.length ≤ cs.length) (k : K undef I (L.set i [(b, .cells (segSet cs off vs).toArray e q)])) :
    OpS P C N ⟨d, .store T x y, ty, ps, af, g⟩ ρ I L K := fun a w ha hst => by
  have hb := hst.mem.loc (b, .cells cs.toArray e q) (mem_chunk hL (by simp))
  have hvs : v.cells.size = vs.length := by rw [← hv]; simp
  have hall : ∀ u ∈ vs, u.oneCell' = true := fun u hu => List.all_eq_true.1 h1 u hu
  have hrun := run_storeCells_fr P b off e q vs 0 cs.toArray w hb (by simpa using hle) hall (by simpa using hq)
  have hr : (execOp a.eval ⟨d, .store T x y, ty, ps, af, g⟩).run P w = .ok .skip (w.setRow b (segSet cs off vs).toArray) := by
    simp only [Nat.add_zero] at hrun
    simp [execOp, ha.ev hx, ha.ev hy, Instr.storeAt, Instr.sureAddr, storeVar, hs.run, hvs, hv, hrun, segSet]
  rw [hr]
  exact ⟨I, _, setRowG hst hL _, k⟩
theorem OpH.stE {α β : Type} {r : Rep α} {s : Rep β} {i : Inhabited β} {w : Value} {l : Lens α β} {as : List α} {c : β} {kk : Nat} {bb : Bool} {E' : TypeId} {F : Bool × Blk → AHeap} (tT : TyIs P T β) (hx : EvA C σ H x (.el w kk l)) (hy : EvA C σ H y (.v c))
    (hH : Hole H (bb, .own E' w as) F) (hk : kk < as.length) (k : KH .any (F (bb, .own E' w (as.set kk (l.set c as[kk]))))) : OpH P C N ⟨d, .store T x y, ty, ps, af, g⟩ σ H KH := fun ρ I L hs => by
  obtain ⟨u, h2, b, h3, rfl⟩ := hx ρ I L hs
  obtain ⟨u, h7, vs, h8, rfl⟩ := hy ρ I L hs
  obtain ⟨j, X, h4, h5, h6⟩ := hH.get hs.heap
  obtain ⟨xs, ho, h9⟩ := h5.1
  rcases ho with ⟨_, h, _⟩ | ⟨b2, cc, sp, q, rfl, rfl, e1, e2, e3, e4, e5⟩
  · omega
  · cases h3
    have hfit : kk * Rep.size α + l.off + vs.length ≤ xs.length := by
      rw [Rep.len h8, h9.len]
      have := l.fits
      have h10 := Nat.mul_le_mul_right (Rep.size α) (Nat.succ_le_of_lt hk)
      rw [Nat.succ_mul] at h10
      omega
    have hset : repL I (as.set kk (l.set c as[kk])) (segSet xs (kk * Rep.size α + l.off) vs) := by
      have h10 := h9.set kk hk (l.sets (h9.get kk hk) h8)
      rw [segSet_segSet (by rw [Rep.len h8]; exact l.fits) (by
        rw [h9.len]
        have h11 := Nat.mul_le_mul_right (Rep.size α) (Nat.succ_le_of_lt hk)
        rw [Nat.succ_mul] at h11
        omega)] at h10
      exact h10
    refine OpS.storeG j (by rw [Rep.len h8]; exact tT.size) h2 h7 (cells_asV h8) (Rep.flat h8) h4 (fun i hi => by rcases e5 with rfl | rfl <;> simp at hi ⊢ <;> omega) (by rw [List.length_append]; omega) ?_
    have hseg : segSet (xs ++ sp) (kk * Rep.size α + l.off) vs = segSet xs (kk * Rep.size α + l.off) vs ++ sp := segSet_append xs sp _ vs hfit
    have hlen : (segSet xs (kk * Rep.size α + l.off) vs).length = xs.length := segSet_length _ _ _ hfit
    refine ⟨Le.refl I, .any, _, trivial, h6 I (bb, .own E' _ (as.set kk (l.set c as[kk]))) _ (Le.refl I) ⟨⟨segSet xs (kk * Rep.size α + l.off) vs, .inr ⟨b, cc, sp, q, ?_, by rw [hseg], by rw [hlen, List.length_set]; exact e1, by rw [List.length_append, hlen, ← List.length_append]; exact e2, by rw [List.length_set]; exact e3, e4, ?_⟩, hset⟩, fun hb p hp => ?_⟩, k⟩
    · rw [List.length_set]
    · rw [List.length_append, hlen, ← List.length_append]; exact e5
    · have := h5.2 hb (b, .cells (xs ++ sp).toArray E' q) (by simp)
      simp only [List.mem_singleton] at hp
      subst hp; exact this
/-! new memory -/
theorem OpH.ofX {o : Oper} (h : ∀ ρ I L, RSt C I L σ H ρ → OpX P N o ρ I L (fun v J X => ∃ r B Xc, X = [Xc] ∧ RepV J r v ∧ Blk.brep J B Xc ∧ KH r ((true, B) :: H))) : OpH P C N o σ H KH := fun ρ I L hs a w ha hst =>
  (h ρ I L hs a w ha hst.mem).mono fun v w' ⟨J, X, hc, hle, hn, hm, hX, r, B, Xc, e, h1, h2, h3⟩ => by
    subst e
    exact ⟨J, [Xc] ++ L, hst.step hc hle hn hm hX, hle, r, (true, B) :: H, h1, ⟨Xc, L, rfl, ⟨h2, fun _ p hp => Nat.le_trans hst.chg.size (hX p (by simpa using hp))⟩, hs.heap.mono hle⟩, h3⟩
theorem OpH.alloc {α : Type} {r : Rep α} {i : Inhabited α} (tT : TyIs P T α) (k : ∀ b, KH (.ln (ptr b 0) (Lens.id (α := α))) ((true, .ob (ptr b 0) (default : α)) :: H)) : OpH P C N ⟨d, .alloc T, ty, ps, af, g⟩ σ H KH :=
  .ofX fun ρ I L hs => by
    obtain ⟨zs, h1, h2⟩ := tT.zero
    exact .alloc h1 fun b => ⟨.ln (ptr b 0) (Lens.id (α := α)), .ob (ptr b 0) (default : α), _, rfl, ⟨b, rfl, rfl⟩, ⟨b, T, zs, rfl, rfl, h2 I⟩, k b⟩
theorem OpH.box {α : Type} {r : Rep α} {a : α} (hx : EvA C σ H x (.v a)) (k : ∀ b, KH (.ln (ptr b 0) (Lens.id (α := α))) ((true, .ob (ptr b 0) a) :: H)) : OpH P C N ⟨d, .box T x, ty, ps, af, g⟩ σ H KH :=
  .ofX fun ρ I L hs => by
    obtain ⟨u, h1, cs, h2, rfl⟩ := hx ρ I L hs
    exact .box h1 (cells_asV h2) fun b => ⟨.ln (ptr b 0) (Lens.id (α := α)), .ob (ptr b 0) a, _, rfl, ⟨b, rfl, rfl⟩, ⟨b, T, cs, rfl, rfl, h2⟩, k b⟩
/-! parts of values -/
theorem OpP.fld {β γ : Type} {s : Rep β} {q : Rep γ} {i off sz : Nat} {ag : Bool} {a : β} (m : Lens β γ) (hf : fieldOff P T i = some (off, sz, ag)) (ho : off = m.off) (hz : sz = Rep.size γ) (hg : ag = Rep.agg γ) (hb : Rep.agg β = true) (hx : EvA C σ H x (.v a)) (k : K (.v (m.get a))) :
    OpP P N C ⟨d, .field T x i, ty, ps, af, g⟩ σ H K :=
  .vk k (fun ρ I L hs => by
    obtain ⟨u, h2, cs, h3, rfl⟩ := hx ρ I L hs
    subst ho; subst hz; subst hg
    have hgs := m.gets h3
    rw [hb] at h2
    cases hag : Rep.agg γ with
    | true =>
      rw [hag] at hf
      exact .fieldA hf h2 rfl ⟨_, hgs, by rw [hag]; rfl⟩
    | false =>
      rw [hag] at hf
      obtain ⟨v, hv, hv2⟩ := asV_one hgs hag
      refine .fieldS hf h2 (v := v) ?_ ⟨_, hgs, hv2.symm⟩
      have : (segGet cs m.off (Rep.size γ))[0]? = some v := by rw [hv]; rfl
      simpa using segGet_get this)
/-- An element of an array's value. -/
theorem OpP.ix {β : Type} {s : Rep β} {n : Nat} {a : Arr n β} {i : Int} (hf : elemOff P T = some (n, Rep.size β, false)) (hb : Rep.agg β = false) (hx : EvA C σ H x (.v a)) (hy : EvA C σ H y (.v i)) (h0 : 0 ≤ i) (h1 : i < n)
    (k : K (.v (a.l[i.toNat]'(by rw [a.h]; omega)))) : OpP P N C ⟨d, .index T x y, ty, ps, af, g⟩ σ H K :=
  .vk k (fun ρ I L hs => by
    obtain ⟨u, h2, cs, h3, rfl⟩ := hx ρ I L hs
    have hgs := repL.get h3 i.toNat (by rw [a.h]; omega)
    obtain ⟨v, hv, hv2⟩ := asV_one hgs hb
    refine .indexS hf h2 (hy.int hs).1 h0 h1 (v := v) ?_ ⟨_, hgs, hv2.symm⟩
    have : (segGet cs (i.toNat * Rep.size β) (Rep.size β))[0]? = some v := by rw [hv]; rfl
    simpa using segGet_get this)
theorem OpP.ixStr {s : Str} {i : Int} (hT : P.underlying T = some .string) (hx : EvA C σ H x (.v s)) (hy : EvA C σ H y (.v i)) (h0 : 0 ≤ i) (h1 : i < s.l.length) (k : K (.v (s.l[i.toNat]'(by omega)))) : OpP P N C ⟨d, .index T x y, ty, ps, af, g⟩ σ H K :=
  .vk k (fun ρ I L hs => by
    obtain ⟨b, h2, h3⟩ := hx.str hs
    obtain ⟨h4, _⟩ := hy.int hs
    obtain ⟨m, rfl⟩ := Int.eq_ofNat_of_zero_le h0
    refine .indexStr hT h2 h4 (c := s.l[m]'(by omega)) ?_ ⟨_, rfl, rfl⟩
    rw [h3]
    exact List.getElem?_eq_getElem _)
/-! slices of slices -/
theorem repL.cut {α : Type} [Rep α] {I : Im} {l : List α} {xs : List Value} (h : repL I l xs) (a b : Nat) (hb : b ≤ l.length) : repL I ((l.take b).drop a) ((xs.take (b * Rep.size α)).drop (a * Rep.size α)) := by
  have h1 : repL I (l.take b) (xs.take (b * Rep.size α)) := by
    have h2 := h
    rw [← List.take_append_drop b l] at h2
    have := h2.split.1
    rwa [List.length_take, Nat.min_eq_left hb] at this
  by_cases ha : a ≤ b
  · have h2 := h1
    rw [← List.take_append_drop a (l.take b)] at h2
    have := h2.split.2
    rwa [List.length_take, List.length_take, Nat.min_eq_left hb, Nat.min_eq_left ha] at this
  · have e : (l.take b).drop a = [] := List.drop_eq_nil_of_le (by rw [List.length_take]; omega)
    have e2 : (xs.take (b * Rep.size α)).drop (a * Rep.size α) = [] := List.drop_eq_nil_of_le (by
      rw [List.length_take]
      exact Nat.le_trans (Nat.min_le_left _ _) (Nat.mul_le_mul_right _ (by omega)))
    rw [e, e2]; rfl
theorem OpP.sl {α : Type} {r : Rep α} {i0 : Inhabited α} {l : List α} {lo hi : Option Operand} (a b : Nat) (tE : TyIs P E α) (hT : P.underlying T = some (.slice E)) (hx : EvA C σ H x (.v l))
    (hlo : (lo = none ∧ a = 0) ∨ ∃ o, lo = some o ∧ EvA C σ H o (.v (a : Int))) (hhi : (hi = none ∧ b = l.length) ∨ ∃ o, hi = some o ∧ EvA C σ H o (.v (b : Int))) (h1 : a ≤ b) (h2 : b ≤ l.length)
    (k : K (.v ((l.take b).drop a))) : OpP P N C ⟨d, .slice T x lo hi none, ty, ps, af, g⟩ σ H K :=
  .vk k (fun ρ I L hs => by
    obtain ⟨u, hu, xs, hsl, hl⟩ := hx.sl hs
    refine .slice hT tE.size hu hsl (l := a) (h := b) ?_ ?_ h1 h2 (fun v' hv' => ?_)
    · rcases hlo with ⟨rfl, rfl⟩ | ⟨o, rfl, ho⟩
      · exact .inl ⟨rfl, rfl⟩
      · exact .inr ⟨_, o, rfl, (ho.int hs).1⟩
    · rcases hhi with ⟨rfl, rfl⟩ | ⟨o, rfl, ho⟩
      · exact .inl ⟨rfl, rfl⟩
      · exact .inr ⟨_, o, rfl, (ho.int hs).1⟩
    · refine ⟨_, ⟨v', rfl, _, ?_, hl.cut a b h2⟩, rfl⟩
      have e : ((l.take b).drop a).length = b - a := by simp [Nat.min_eq_left h2]
      rw [e]; exact hv')
section sl
variable {α : Type} {r : Rep α} {i0 : Inhabited α} {l : List α} {i j : Int} (tE : TyIs P E α) (hT : P.underlying T = some (.slice E)) (hx : EvA C σ H x (.v l))
include tE hT hx
theorem OpP.slLo (hy : EvA C σ H y (.v i)) (h0 : 0 ≤ i) (h1 : i ≤ l.length) (k : K (.v (l.drop i.toNat))) : OpP P N C ⟨d, .slice T x (some y) none none, ty, ps, af, g⟩ σ H K :=
  .sl i.toNat l.length tE hT hx (.inr ⟨y, rfl, by rw [Int.toNat_of_nonneg h0]; exact hy⟩) (.inl ⟨rfl, rfl⟩) (by omega) (Nat.le_refl _) (by rw [List.take_length]; exact k)
theorem OpP.slHi (hz : EvA C σ H z (.v j)) (h0 : 0 ≤ j) (h1 : j ≤ l.length) (k : K (.v (l.take j.toNat))) : OpP P N C ⟨d, .slice T x none (some z) none, ty, ps, af, g⟩ σ H K :=
  .sl 0 j.toNat tE hT hx (.inl ⟨rfl, rfl⟩) (.inr ⟨z, rfl, by rw [Int.toNat_of_nonneg h0]; exact hz⟩) (by omega) (by omega) (by rw [List.drop_zero]; exact k)
theorem OpP.slLH (hy : EvA C σ H y (.v i)) (hz : EvA C σ H z (.v j)) (h0 : 0 ≤ i) (h1 : i ≤ j) (h2 : j ≤ l.length) (k : K (.v ((l.take j.toNat).drop i.toNat))) : OpP P N C ⟨d, .slice T x (some y) (some z) none, ty, ps, af, g⟩ σ H K :=
  .sl i.toNat j.toNat tE hT hx (.inr ⟨y, rfl, by rw [Int.toNat_of_nonneg h0]; exact hy⟩) (.inr ⟨z, rfl, by rw [Int.toNat_of_nonneg (by omega)]; exact hz⟩) (by omega) (by omega) k
theorem OpP.slAll (k : K (.v l)) : OpP P N C ⟨d, .slice T x none none none, ty, ps, af, g⟩ σ H K :=
  .sl 0 l.length tE hT hx (.inl ⟨rfl, rfl⟩) (.inl ⟨rfl, rfl⟩) (by omega) (Nat.le_refl _) (by rw [List.take_length, List.drop_zero]; exact k)
end sl
/-- All of an array of the call's own. -/
theorem OpP.slArrL {α β : Type} {n : Nat} {r : Rep α} {s : Rep β} {ag : Bool} {w : Value} {l : Lens α (Arr n β)} (hf : elemOff P T = some (n, Rep.size β, ag)) (hx : EvA C σ H x (.ln w l)) (k : K (.sv w l)) : OpP P N C ⟨d, .slice T x none none none, ty, ps, af, g⟩ σ H K :=
  .vk k (fun ρ I L hs => by
    obtain ⟨u, h2, b, h3, rfl⟩ := hx ρ I L hs
    exact .sliceArr hf h2 ⟨b, h3, rfl⟩)
theorem OpP.slArrP {β : Type} {n : Nat} {s : Rep β} {ag : Bool} {a : Arr n β} (hn : n ≤ 9223372036854775807) (hf : elemOff P T = some (n, Rep.size β, ag)) (hx : EvA C σ H x (.p a)) (k : K (.v a.l)) : OpP P N C ⟨d, .slice T x none none none, ty, ps, af, g⟩ σ H K :=
  .vk k (fun ρ I L hs => by
    obtain ⟨u, h2, b, o, cs, rfl, h3, h4⟩ := hx ρ I L hs
    refine .sliceArr hf h2 ⟨_, ⟨_, rfl, cs, ?_, h3⟩, rfl⟩
    have hl := h3.len
    rw [a.h] at hl ⊢
    exact Sl.of_cells h4 hl (Nat.le_refl _) (by unfold maxLen; omega))
theorem OpP.slStr {s : Str} {lo hi : Option Operand} (a b : Nat) (hT : P.underlying T = some .string) (hx : EvA C σ H x (.v s)) (hlo : (lo = none ∧ a = 0) ∨ ∃ o, lo = some o ∧ EvA C σ H o (.v (a : Int)))
    (hhi : (hi = none ∧ b = s.l.length) ∨ ∃ o, hi = some o ∧ EvA C σ H o (.v (b : Int))) (h1 : a ≤ b) (h2 : b ≤ s.l.length) (k : K (.v (Str.mk ((s.l.take b).drop a)))) : OpP P N C ⟨d, .slice T x lo hi none, ty, ps, af, g⟩ σ H K :=
  .vk k (fun ρ I L hs => by
    obtain ⟨ba, hu, he⟩ := hx.str hs
    have e : ba.size = s.l.length := by rw [← he]; rfl
    refine .sliceStr hT hu (l := a) (h := b) ?_ ?_ h1 (by omega) ⟨_, ⟨⟨_, rfl, ?_⟩, by have := hx.strLe hs; simp only [List.length_drop, List.length_take]; omega⟩, rfl⟩
    · rcases hlo with ⟨rfl, rfl⟩ | ⟨o, rfl, ho⟩
      · exact .inl ⟨rfl, rfl⟩
      · exact .inr ⟨_, o, rfl, (ho.int hs).1⟩
    · rcases hhi with ⟨rfl, rfl⟩ | ⟨o, rfl, ho⟩
      · exact .inl ⟨rfl, e.symm⟩
      · exact .inr ⟨_, o, rfl, (ho.int hs).1⟩
    · simp only [ByteArray.data_extract, Array.toList_extract]
      rw [← he, List.extract_eq_take_drop, List.drop_take])
end Go.Ab
