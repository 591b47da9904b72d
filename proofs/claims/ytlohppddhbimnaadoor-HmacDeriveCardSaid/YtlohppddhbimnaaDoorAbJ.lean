import Derived.Test.YtlohppddhbimnaaDoorAbI
/- New memory that is frozen at once; freezing ahead of an operation of a chain. -/
set_option linter.unusedVariables false
namespace Go.Ab
open Go.Fl Go.RowKit
open Rep (rep)
variable {P : Program} {C : Ctx} {N : Nat} {σ : AEnv} {H : AHeap} {K : AV → Prop} {KH : AV → AHeap → Prop} {d : Option Nat} {ty : TypeId} {ps : String} {af : Array Edge} {g : Option (Nat × Bool)}
variable {x y z : Operand} {T T2 E S D U : TypeId} {o : Oper}
theorem OpH.ofP (h : OpP P N C o σ H (fun r => KH r H)) : OpH P C N o σ H KH := fun ρ I L hs =>
  OpS.ofX (OpX.monoLe (h ρ I L hs) fun v J X hle ⟨hX, r, h1, h2⟩ => by subst hX; exact ⟨hle, r, H, h1, hs.heap.mono hle, h2⟩)
theorem OpH.frzOwn (hC : Ctx.Ok C) {E : TypeId} {α : Type} {r : Rep α} {w : Value} {l : List α} {F : Bool × Blk → AHeap} (h : Hole H (true, .own E w l) F) (k : OpH P C N o σ (F (true, .fz w (.v l))) KH) : OpH P C N o σ H KH := fun ρ I L hs a w0 ha hst => by
  obtain ⟨i, X, h1, h2, h3⟩ := h.get hs.heap
  have hst2 := hst.freeze h1 (frz_ok hC h2)
  have hle : Le I (I.with X) := Im.with_le (fun p hp => hst.mem.sep p (mem_chunk h1 hp))
  have hp : ∀ p ∈ X, I.with X p.1 = some p.2 := fun p hp => Im.with_mem (nodup_chunk hst.mem.nodup h1) hp
  refine Yld.mono (k ρ _ _ ⟨(hs.mono hle).env, h3 _ _ [] hle ⟨⟨rfl, freeze_own h2.1 hle hp⟩, by simp⟩, hs.im0.trans hle⟩ a w0 ha hst2) ?_
  rintro v w' ⟨J, L', q1, q2, q3⟩
  exact ⟨J, L', q1, hle.trans q2, q3⟩
theorem OpH.as (t : Nat) {w : Value} {a : AV} {b : Bool} {F : Bool × Blk → AHeap} (ht : lookA σ t = some (.raw w)) (h : Hole H (b, .fz w a) F) (k : OpH P C N o ((t, a) :: σ) H KH) : OpH P C N o σ H KH :=
  fun ρ I L hs => k ρ I L (hs.as t ht h)
theorem OpP.buildSliceF {α : Type} {r : Rep α} {i0 : Inhabited α} {n : Nat} {l : List α} {parts : Array (Nat × Operand)} (tE : TyIs P E α) (hT : P.underlying T = some (.slice E)) (hp : Elems C σ H 0 parts.toList l) (hn : l.length = n) (hb : n * Rep.size α ≤ 16777216) (k : K (.vc l)) :
    OpP P N C ⟨d, .buildSlice T n parts, ty, ps, af, g⟩ σ H K := fun ρ I L hs => by
  obtain ⟨zs, hz1, hz2⟩ := tE.zero
  obtain ⟨pv, vs, h1, h2, h3⟩ := hp.run hs
  subst hn
  have hl := h3.len
  refine OpX.frz (.buildSlice hT tE.size hz1 (Rep.len (hz2 I)) h1 h2 hl hb fun b J' hle hpp => ⟨rfl, .vc l, ⟨⟨_, rfl⟩, vs, ?_, h3.mono hle⟩, k⟩)
  refine (Own.made (e := E) hl ?_).sl (fun p hp => hpp p (by simpa using hp))
  have : 1 ≤ Rep.size α := Nat.one_le_iff_ne_zero.2 tE.pos
  have := Nat.mul_le_mul_left l.length this
  unfold maxLen; omega
theorem OpP.strBytesF {s : Str} (hS : P.underlying S = some .string) (hD : P.underlying D = some (.slice E)) (hE : P.underlying E = some (.int .u8)) (hx : EvA C σ H x (.v s)) (k : K (.v s.l)) :
    OpP P N C ⟨d, .convert S D x, ty, ps, af, g⟩ σ H K := fun ρ I L hs => by
  obtain ⟨b, h1, h2⟩ := hx.str hs
  have hb := hx.strLe hs
  refine OpX.frz (OpX.push fun a w ha hm => .inr ?_)
  have hsz : b.size = s.l.length := by rw [← h2]; rfl
  have hrun := run_bytes_of_string (P := P) w S D E b hS hD hE
  have hop : (execOp a.eval ⟨d, .convert S D x, ty, ps, af, g⟩).run P w = ((convert S D (.string b)).run P w).andThen fun v w' => .ok (.value v) w' := by
    simp [execOp, ha.ev h1]
  have hcap : grownCap w b.size 0 E ≥ b.size := grownCap_ge w b.size 0 E
  have hcapm : grownCap w b.size 0 E ≤ maxLen := grownCap_le_maxLen w b.size 0 E (by rw [hsz]; unfold maxLen; omega)
  refine ⟨.slice (some ⟨w.heap.size, 0, none⟩) b.size (grownCap w b.size 0 E), w.drew.alloc (.cells (bytesRow b (grownCap w b.size 0 E)) E ((bytesRow b (grownCap w b.size 0 E)).size, (bytesRow b (grownCap w b.size 0 E)).size + 1)),
    .cells (bytesRow b (grownCap w b.size 0 E)) E ((bytesRow b (grownCap w b.size 0 E)).size, (bytesRow b (grownCap w b.size 0 E)).size + 1), by rw [hop, hrun]; rfl, rfl, rfl, rfl, rfl, fun J' hle hp => ⟨rfl, .v s.l, ⟨_, ⟨_, rfl, bytesV s.l, ?_, repL_u8.2 rfl⟩, rfl⟩, k⟩⟩
  have hob := hp (w.heap.size, _) (List.mem_singleton.2 rfl)
  rw [← hsz]
  refine Sl.of_cells ⟨_, _, _, hob, fun i q hq => ?_⟩ (by simp [bytesV, hsz]; exact (Nat.mul_one _).symm) hcap hcapm
  have hi := (List.getElem?_eq_some_iff.1 hq).1
  rw [Nat.zero_add]
  have hR : bytesRow b (grownCap w b.size 0 E) = (bytesV s.l ++ List.replicate (grownCap w b.size 0 E - b.size) (Value.int .u8 0)).toArray := by
    apply Array.ext'
    rw [← h2]
    simp [bytesRow, bytesV, Fl.u8]
  rw [hR, List.getElem?_toArray, List.getElem?_append_left hi]; exact hq
theorem wpB.drop {ops : Array Oper} {Q : Exit → AEnv → AHeap → Prop} {os : List Oper} {B : Bool × Blk} (k : wpB P C N ops Q os σ H) : wpB P C N ops Q os σ (B :: H) := fun ρ I L hs => by
  obtain ⟨X, R, rfl, h1, h2⟩ := hs.heap
  exact wpL.forget (X := [X]) (k ρ I R ⟨hs.env, h2, hs.im0⟩)
theorem wpA.drop {Q : Exit → AEnv → AHeap → Prop} {c : Code} {B : Bool × Blk} (k : wpA P C N c Q σ H) : wpA P C N c Q σ (B :: H) := fun ρ I L hs => by
  obtain ⟨X, R, rfl, h1, h2⟩ := hs.heap
  exact wpS.forget (X := [X]) (k ρ I R ⟨hs.env, h2, hs.im0⟩)
theorem OpP.nilCheckL {α β : Type} {r : Rep α} {s : Rep β} {w : Value} {l : Lens α β} (hx : EvA C σ H x (.ln w l)) (k : K (.ln w l)) : OpP P N C ⟨d, .nilCheck x, ty, ps, af, g⟩ σ H K :=
  .vk k (fun ρ I L hs => by
    obtain ⟨u, h2, b, h3, rfl⟩ := hx ρ I L hs
    exact .mk ⟨b, h3, rfl⟩ fun a w ha hm => by simp [execOp, ha.ev h2])
theorem OpP.nilCheckP {β : Type} {s : Rep β} {a : β} (hx : EvA C σ H x (.p a)) (k : K (.p a)) : OpP P N C ⟨d, .nilCheck x, ty, ps, af, g⟩ σ H K :=
  .vk k (fun ρ I L hs => by
    obtain ⟨u, h2, b, o, cs, rfl, h3⟩ := hx ρ I L hs
    exact .mk ⟨b, o, cs, rfl, h3⟩ fun a w ha hm => by simp [execOp, ha.ev h2])
/-- A guarded operation whose guard is known to let it pass. -/
theorem wpB.gk {ops : Array Oper} {Q : Exit → AEnv → AHeap → Prop} {rest : List Oper} {d : Nat} {op : Op} {ty : TypeId} {ps : String} {af : Array Edge} {j : Nat} {want : Bool} (dj : Nat) (hj : (ops[j]?).bind (·.dst) = some dj) {b : Bool} (hb : EvA C σ H (.tmp dj) (.v b)) (e : b = want)
    (h : OpH P C N ⟨some d, op, ty, ps, af, none⟩ σ H (fun r H' => wpB P C N ops Q rest ((d, r) :: σ) H')) : wpB P C N ops Q (⟨some d, op, ty, ps, af, some (j, want)⟩ :: rest) σ H := fun ρ I L hs => by
  refine .gt dj hj (by rw [← e]; exact hb.bool hs) (OpS.mono' (h ρ I L hs) fun v J L' ⟨hle, r, H', hr, hH, hk⟩ => hk _ _ _ (hs.put hle hr hH))
section slStr
variable {s : Str} {i j : Int} (hT : P.underlying T = some .string) (hx : EvA C σ H x (.v s))
include hT hx
theorem OpP.slStrLo (hy : EvA C σ H y (.v i)) (h0 : 0 ≤ i) (h1 : i ≤ s.l.length) (k : K (.v (Str.mk (s.l.drop i.toNat)))) : OpP P N C ⟨d, .slice T x (some y) none none, ty, ps, af, g⟩ σ H K :=
  .slStr i.toNat s.l.length hT hx (.inr ⟨y, rfl, by rw [Int.toNat_of_nonneg h0]; exact hy⟩) (.inl ⟨rfl, rfl⟩) (by omega) (Nat.le_refl _) (by rw [List.take_length]; exact k)
theorem OpP.slStrHi (hz : EvA C σ H z (.v j)) (h0 : 0 ≤ j) (h1 : j ≤ s.l.length) (k : K (.v (Str.mk (s.l.take j.toNat)))) : OpP P N C ⟨d, .slice T x none (some z) none, ty, ps, af, g⟩ σ H K :=
  .slStr 0 j.toNat hT hx (.inl ⟨rfl, rfl⟩) (.inr ⟨z, rfl, by rw [Int.toNat_of_nonneg h0]; exact hz⟩) (by omega) (by omega) (by rw [List.drop_zero]; exact k)
theorem OpP.slStrLH (hy : EvA C σ H y (.v i)) (hz : EvA C σ H z (.v j)) (h0 : 0 ≤ i) (h1 : i ≤ j) (h2 : j ≤ s.l.length) (k : K (.v (Str.mk ((s.l.take j.toNat).drop i.toNat)))) : OpP P N C ⟨d, .slice T x (some y) (some z) none, ty, ps, af, g⟩ σ H K :=
  .slStr i.toNat j.toNat hT hx (.inr ⟨y, rfl, by rw [Int.toNat_of_nonneg h0]; exact hy⟩) (.inr ⟨z, rfl, by rw [Int.toNat_of_nonneg (by omega)]; exact hz⟩) (by omega) (by omega) k
end slStr
/-- What a string holds is no longer than a machine allows. -/
theorem strLe {s : Str} {n : Nat} (h : s.l.length ≤ n) : s.l.length ≤ n := h
end Go.Ab
