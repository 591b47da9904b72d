/- Plain Lean over any program, and walks of this seat's functions: contracts, each proved once (part 2). -/
import Derived.Test.YtdhfibhjfahdcaaDoorZ1
import Derived.Laws.BytesArg
set_option linter.unusedSimpArgs false
set_option maxRecDepth 1000000
set_option linter.unusedVariables false
namespace Go.Mac
open Go.Ab
structure G_api_Mac where
  Key : (Arr 32 UInt8)
  Message : (List UInt8)
  Tag : (Arr 32 UInt8)
def G_api_Mac.f (x : G_api_Mac) : (Arr 32 UInt8) × (List UInt8) × (Arr 32 UInt8) × Unit := (x.Key, x.Message, x.Tag, ())
instance : Inhabited G_api_Mac := ⟨⟨default, default, default⟩⟩
instance : Rep G_api_Mac := Rep.via G_api_Mac.f
instance : RepZ G_api_Mac := RepZ.via G_api_Mac.f rfl
def G_api_Mac.l0 : Lens G_api_Mac (Arr 32 UInt8) := Lens.via G_api_Mac.f Lens.fst (fun x => x.Key) (fun y x => { x with Key := y }) (fun _ => rfl) (fun _ _ => rfl)
def G_api_Mac.l1 : Lens G_api_Mac (List UInt8) := Lens.via G_api_Mac.f (Lens.snd.comp Lens.fst) (fun x => x.Message) (fun y x => { x with Message := y }) (fun _ => rfl) (fun _ _ => rfl)
def G_api_Mac.l2 : Lens G_api_Mac (Arr 32 UInt8) := Lens.via G_api_Mac.f (Lens.snd.comp (Lens.snd.comp Lens.fst)) (fun x => x.Tag) (fun y x => { x with Tag := y }) (fun _ => rfl) (fun _ _ => rfl)
structure G_api_Sealed where
  Key : (Arr 32 UInt8)
  Nonce : Int
  Plain : (List UInt8)
  Box : (List UInt8)
def G_api_Sealed.f (x : G_api_Sealed) : (Arr 32 UInt8) × Int × (List UInt8) × (List UInt8) × Unit := (x.Key, x.Nonce, x.Plain, x.Box, ())
instance : Inhabited G_api_Sealed := ⟨⟨default, default, default, default⟩⟩
instance : Rep G_api_Sealed := Rep.via G_api_Sealed.f
instance : RepZ G_api_Sealed := RepZ.via G_api_Sealed.f rfl
def G_api_Sealed.l0 : Lens G_api_Sealed (Arr 32 UInt8) := Lens.via G_api_Sealed.f Lens.fst (fun x => x.Key) (fun y x => { x with Key := y }) (fun _ => rfl) (fun _ _ => rfl)
def G_api_Sealed.l1 : Lens G_api_Sealed Int := Lens.via G_api_Sealed.f (Lens.snd.comp Lens.fst) (fun x => x.Nonce) (fun y x => { x with Nonce := y }) (fun _ => rfl) (fun _ _ => rfl)
def G_api_Sealed.l2 : Lens G_api_Sealed (List UInt8) := Lens.via G_api_Sealed.f (Lens.snd.comp (Lens.snd.comp Lens.fst)) (fun x => x.Plain) (fun y x => { x with Plain := y }) (fun _ => rfl) (fun _ _ => rfl)
def G_api_Sealed.l3 : Lens G_api_Sealed (List UInt8) := Lens.via G_api_Sealed.f (Lens.snd.comp (Lens.snd.comp (Lens.snd.comp Lens.fst))) (fun x => x.Box) (fun y x => { x with Box := y }) (fun _ => rfl) (fun _ _ => rfl)
structure G_api_Algebra where
  Free : Bool
  Seed : (Arr 32 UInt8)
  Fresh : Int
  Macs : (List G_api_Mac)
  Boxes : (List G_api_Sealed)
def G_api_Algebra.f (x : G_api_Algebra) : Bool × (Arr 32 UInt8) × Int × (List G_api_Mac) × (List G_api_Sealed) × Unit := (x.Free, x.Seed, x.Fresh, x.Macs, x.Boxes, ())
instance : Inhabited G_api_Algebra := ⟨⟨default, default, default, default, default⟩⟩
instance : Rep G_api_Algebra := Rep.via G_api_Algebra.f
instance : RepZ G_api_Algebra := RepZ.via G_api_Algebra.f rfl
def G_api_Algebra.l0 : Lens G_api_Algebra Bool := Lens.via G_api_Algebra.f Lens.fst (fun x => x.Free) (fun y x => { x with Free := y }) (fun _ => rfl) (fun _ _ => rfl)
def G_api_Algebra.l1 : Lens G_api_Algebra (Arr 32 UInt8) := Lens.via G_api_Algebra.f (Lens.snd.comp Lens.fst) (fun x => x.Seed) (fun y x => { x with Seed := y }) (fun _ => rfl) (fun _ _ => rfl)
def G_api_Algebra.l2 : Lens G_api_Algebra Int := Lens.via G_api_Algebra.f (Lens.snd.comp (Lens.snd.comp Lens.fst)) (fun x => x.Fresh) (fun y x => { x with Fresh := y }) (fun _ => rfl) (fun _ _ => rfl)
def G_api_Algebra.l3 : Lens G_api_Algebra (List G_api_Mac) := Lens.via G_api_Algebra.f (Lens.snd.comp (Lens.snd.comp (Lens.snd.comp Lens.fst))) (fun x => x.Macs) (fun y x => { x with Macs := y }) (fun _ => rfl) (fun _ _ => rfl)
def G_api_Algebra.l4 : Lens G_api_Algebra (List G_api_Sealed) := Lens.via G_api_Algebra.f (Lens.snd.comp (Lens.snd.comp (Lens.snd.comp (Lens.snd.comp Lens.fst)))) (fun x => x.Boxes) (fun y x => { x with Boxes := y }) (fun _ => rfl) (fun _ _ => rfl)
structure G_macaroonmade_Deck where
  L : (List Int)
  At : Int
def G_macaroonmade_Deck.f (x : G_macaroonmade_Deck) : (List Int) × Int × Unit := (x.L, x.At, ())
instance : Inhabited G_macaroonmade_Deck := ⟨⟨default, default⟩⟩
instance : Rep G_macaroonmade_Deck := Rep.via G_macaroonmade_Deck.f
instance : RepZ G_macaroonmade_Deck := RepZ.via G_macaroonmade_Deck.f rfl
def G_macaroonmade_Deck.l0 : Lens G_macaroonmade_Deck (List Int) := Lens.via G_macaroonmade_Deck.f Lens.fst (fun x => x.L) (fun y x => { x with L := y }) (fun _ => rfl) (fun _ _ => rfl)
def G_macaroonmade_Deck.l1 : Lens G_macaroonmade_Deck Int := Lens.via G_macaroonmade_Deck.f (Lens.snd.comp Lens.fst) (fun x => x.At) (fun y x => { x with At := y }) (fun _ => rfl) (fun _ _ => rfl)
structure G_algebra_Maker where
  a : G_api_Algebra
  e : Int
structure G_api_Hash where
  H : (Arr 8 UInt32)
  Rest : (List UInt8)
  Len : Int
def G_api_Hash.f (x : G_api_Hash) : (Arr 8 UInt32) × (List UInt8) × Int × Unit := (x.H, x.Rest, x.Len, ())
instance : Rep G_api_Hash := Rep.via G_api_Hash.f
end Go.Mac
set_option linter.unusedVariables false
namespace Go.Ab
open Go.Fl Go.RowKit
open Rep (rep)
def Clo (P : Program) {ι : Type} (ags : ι → List AV) (r : ι → AV) (I : Im) (u : Value) : Prop :=
  ∃ f fi ca, u = .func (.func f) fi ca ∧ ∀ J, Le I J → ∀ i vs, RepVs J (ags i) vs → Fun P f (fi ++ vs.toArray ++ ca) J (fun v K => RepV K (r i) v)
theorem Clo.mono {P : Program} {ι : Type} {ags : ι → List AV} {r : ι → AV} {I J : Im} {u : Value} (hle : Le I J) (h : Clo P ags r I u) : Clo P ags r J u := by
  obtain ⟨f, fi, ca, h1, h2⟩ := h
  exact ⟨f, fi, ca, h1, fun K hk => h2 K (hle.trans hk)⟩
def AV.clo (P : Program) {ι : Type} (ags : ι → List AV) (r : ι → AV) : AV := .pr (Clo P ags r) Clo.mono
def AV.clo1 (P : Program) {α β : Type} [Rep α] [Rep β] (g : α → β) : AV := .clo P (fun x : α => [.v x]) (fun x => .v (g x))
theorem run_callClo {P : Program} {f : FuncId} {fi ca : Array Value} (ok : CallOk P f) {a : Act} {w : World} {o : Oper} {F : Operand} {args : Array Operand} {tys : Array TypeId} (ho : o.op = .call ⟨.value F, args, tys⟩)
    (hF : a.eval F = .func (.func f) fi ca) {vs : List Value} (hv : args.toList.map a.eval = vs) : (execOp a.eval o).run P w = .ok (.enter f (fi ++ vs.toArray ++ ca)) w := by
  obtain ⟨fn, h1, h2, h3⟩ := ok.ok
  subst hv
  have hargs : args.map a.eval = (args.toList.map a.eval).toArray := by cases args; simp
  have h2' : ¬ fn.name = "runtime.NumGoroutine" := by simpa using h2
  have h3' : fn.body ≠ none := by intro e; simp [e] at h3
  simp [execOp, ho, resolve, Deferred.ofValue, hF, invoke, callFunc, program, Sem.run, h1, h2', h3', ← hargs]
theorem OpX.callC {P : Program} {N : Nat} {ρ : Env} {I : Im} {L : Lh} {f : FuncId} {fi ca : Array Value} {d : Option Nat} {F : Operand} {args : Array Operand} {tys : Array TypeId} {ty : TypeId} {ps : String} {af : Array Edge} {g : Option (Nat × Bool)} {vs : List Value}
    {post : Value → Im → Prop} {K : Value → Im → Lh → Prop} (hF : ev ρ F = some (.func (.func f) fi ca)) (hv : evL ρ args.toList = some vs) (h : Fun P f (fi ++ vs.toArray ++ ca) I post)
    (k : ∀ v J, Le I J → post v J → K v J []) : OpX P N ⟨d, .call ⟨.value F, args, tys⟩, ty, ps, af, g⟩ ρ I L K := fun a w ha hm => by
  rw [run_callClo h.ok rfl (ha.ev hF) (ha.evL hv)]
  refine (h.run w hm.drop).mono ?_
  rintro e w' ⟨v, J, rfl, hc, hle, hn, hm', hp⟩
  refine ⟨v, rfl, J, [], hc, hle, hn, ?_, by simp, k v J hle hp⟩
  have hlt : ∀ p ∈ L.flatten, p.1 < w.heap.size := fun p hp => lt_of_get (hm.loc p hp)
  refine ⟨hm'.im, fun p hp => (hc.block p.1 (hlt p hp) (by simp)).trans (hm.loc p hp), fun p hp => ?_, hm.nodup⟩
  cases hj : J p.1 with
  | none => rfl
  | some o => exact absurd (hn p.1 (hm.sep p hp) (by simp [hj])) (by have := hlt p hp; omega)
section clo
variable {P : Program} {C : Ctx} {N : Nat} {σ : AEnv} {H : AHeap} {G : Gl} {f : FuncId} {d : Option Nat} {args : Array Operand} {tys : Array TypeId} {ty : TypeId} {ps : String} {af : Array Edge} {g : Option (Nat × Bool)} {K : AV → Prop}
theorem OpP.callClo {ι : Type} {ags : ι → List AV} {r : ι → AV} {t : Nat} (i : ι) (ht : lookA σ t = some (.clo P ags r)) (hv : EvAs C σ H args.toList (ags i)) (k : K (r i)) :
    OpP P N C ⟨d, .call ⟨.value (.tmp t), args, tys⟩, ty, ps, af, g⟩ σ H K := fun ρ I L hs => by
  obtain ⟨u, h1, f, fi, ca, rfl, h2⟩ := hs.env t _ ht
  obtain ⟨vs, h3, h4⟩ := hv.get hs
  exact OpX.callC (F := .tmp t) h1 h3 (h2 I (Le.refl I) i vs h4) fun v J hle h5 => ⟨rfl, r i, h5, k⟩
theorem OpP.callClo1 {α β : Type} [Rep α] [Rep β] {g1 : α → β} {x : α} {t : Nat} {a : Operand} (ht : lookA σ t = some (.clo1 P g1)) (ha : EvA C σ H a (.v x)) (k : K (.v (g1 x))) :
    OpP P N C ⟨d, .call ⟨.value (.tmp t), #[a], tys⟩, ty, ps, af, g⟩ σ H K := .callClo (ags := fun x : α => [.v x]) (r := fun x => .v (g1 x)) x ht (.cons ha .nil) k
theorem RepVs.append {I : Im} : ∀ {ags bs : List AV} {vs ws : List Value}, RepVs I ags vs → RepVs I bs ws → RepVs I (ags ++ bs) (vs ++ ws)
  | [], _, _, _, h, k => by simp [RepVs] at h; subst h; simpa using k
  | a :: ags, _, _, _, h, k => by obtain ⟨v, r, rfl, h2, h3⟩ := h; exact ⟨v, r ++ _, rfl, h2, h3.append k⟩
theorem OpP.mkClo (hG : G.p C.I0) {ι : Type} {ags : ι → List AV} {r : ι → AV} {caps : List AV} (h : ∀ i, FunA G P f (ags i ++ caps) (fun x => x = r i)) (hv : EvAs C σ H args.toList caps) (k : K (.clo P ags r)) :
    OpP P N C ⟨d, .makeFunc (.func f) #[] args, ty, ps, af, g⟩ σ H K := .ofV (.clo P ags r) (fun ρ I L hs => fun a w ha hm => by
      obtain ⟨vs, h1, h2⟩ := hv.get hs
      have e := ha.evL h1
      have hargs : args.map a.eval = vs.toArray := by rw [← e]; cases args; simp
      refine ⟨.func (.func f) #[] vs.toArray, ⟨f, #[], vs.toArray, rfl, fun J hle i ws hw => ?_⟩, by simp [execOp, Instr.makeFunc, hargs]⟩
      have h3 := h i J (ws ++ vs) (G.mono (hs.im0.trans hle) hG) (hw.append (h2.mono hle))
      simp only [List.append_toArray]
      exact h3.mono fun v K _ ⟨x, h4, h5⟩ => h5 ▸ h4) k
theorem OpP.mkClo1 (hG : G.p C.I0) {α β : Type} [Rep α] [Rep β] {g1 : α → β} {caps : List AV} (h : ∀ x, FunA G P f (.v x :: caps) (fun r => r = .v (g1 x))) (hv : EvAs C σ H args.toList caps) (k : K (.clo1 P g1)) :
    OpP P N C ⟨d, .makeFunc (.func f) #[] args, ty, ps, af, g⟩ σ H K := .mkClo hG (ags := fun x : α => [.v x]) (r := fun x => .v (g1 x)) h hv k
end clo
end Go.Ab
set_option linter.unusedVariables false
namespace Go.Ab
open Go.Fl Go.RowKit
open Rep (rep)
section rules
variable {P : Program} {C : Ctx} {N : Nat} {σ : AEnv} {H : AHeap} {d : Option Nat} {ty : TypeId} {ps : String} {af : Array Edge} {g : Option (Nat × Bool)} {K : AV → Prop} {KH : AV → AHeap → Prop} {x y z : Operand} {T T2 E S D U : TypeId}
theorem foldl_bytes : ∀ (l : List UInt8) (s : ByteArray), (l.map (fun c => (c.toNat : Int))).foldl (fun r n => r.push (UInt8.ofNat n.toNat)) s = ⟨s.data ++ l.toArray⟩
  | [], s => by simp
  | c :: l, s => by
    rw [List.map_cons, List.foldl_cons, foldl_bytes l]
    simp [ByteArray.push]
theorem OpP.bytesStr {l : List UInt8} (hS : P.underlying S = some (.slice E)) (hE : P.underlying E = some (.int .u8)) (hD : P.underlying D = some .string) (hx : EvA C σ H x (.v l)) (k : K (.v (Str.mk l))) :
    OpP P N C ⟨d, .convert S D x, ty, ps, af, g⟩ σ H K :=
  .vk k (fun ρ I L hs => .mk ⟨[.string ⟨l.toArray⟩], ⟨⟨_, rfl, by simp⟩, by
      obtain ⟨u, h1, xs, ⟨a, c, rfl, h2, h3, h4, _⟩, _⟩ := hx.sl hs
      unfold maxLen at h4; show l.length ≤ _; omega⟩, rfl⟩ fun ac w ha hm => by
    obtain ⟨u, h1, xs, hsl, hl⟩ := hx.sl hs
    obtain rfl := repL_u8.1 hl
    obtain ⟨a, c, rfl, h2, h3, h4, h5, h6⟩ := hsl
    have hrun : (convert S D (.slice a l.length c)).run P w = .ok (.string ⟨l.toArray⟩) w := by
      rw [run_convert_bytes_string w S D E a l.length c hS hE hD]
      cases a with
      | none =>
        have hc := h5 rfl
        have : l = [] := List.eq_nil_of_length_eq_zero (by omega)
        subst this
        simp [Conv.bytesToString]; rfl
      | some ad =>
        have hload : (loadCells ad l.length).run P w = .ok ((l.map (fun c => (c.toNat : Int))).map (Value.int .u8)).toArray w := by
          have h7 := run_loadCells_list (P := P) w ad (bytesV l) (fun j v hj => by
            have hne : bytesV l ≠ [] := by intro e; simp [e] at hj
            obtain ⟨b, o, hab, hcl⟩ := h6 hne
            cases hab
            have := hcl.cell hm hj
            have hplain : (⟨b, o, none⟩ : Addr).add j = ⟨b, o + j, none⟩ := by unfold Addr.add; split <;> simp_all
            rw [hplain]; exact this)
          have e1 : (bytesV l).length = l.length := by simp [bytesV]
          have e2 : (l.map (fun c => (c.toNat : Int))).map (Value.int .u8) = bytesV l := by simp [bytesV, Fl.u8]
          rw [e1] at h7
          rw [e2]; exact h7
        rw [run_bytesToString w ad l.length c _ hload, foldl_bytes]
        simp [ByteArray.empty, ByteArray.emptyWithCapacity]
        rfl
    simp [execOp, ha.ev h1, hrun, asV, Rep.agg])
theorem OpP.eqNilS {α : Type} {r : Rep α} {l : List α} (hT : P.underlying T = some (.slice E)) (hx : EvA C σ H x (.v l)) (k : ∀ c : Bool, (c = true → l = []) → K (.v c)) :
    OpP P N C ⟨d, .binOp .eql T x (.const (.slice none 0 0)) T2, ty, ps, af, g⟩ σ H K := fun ρ I L hs => by
  obtain ⟨u, h1, xs, ⟨a, c, rfl, h2, h3, h4, h5, h6⟩, hl⟩ := hx.sl hs
  refine .ofV (OpV.eqlNilS hT h1 rfl ⟨rfl, .v a.isNone, ⟨_, rfl, rfl⟩, k _ fun e => ?_⟩)
  have := h5 (by simpa using e)
  exact List.eq_nil_of_length_eq_zero (by omega)
theorem OpP.slClip {α : Type} {r : Rep α} {i0 : Inhabited α} {l : List α} (tE : TyIs P E α) (hT : P.underlying T = some (.slice E)) (hx : EvA C σ H x (.v l)) (hy : EvA C σ H y (.v (l.length : Int))) (hz : EvA C σ H z (.v (l.length : Int)))
    (k : K (.vc l)) : OpP P N C ⟨d, .slice T x none (some y) (some z), ty, ps, af, g⟩ σ H K := fun ρ I L hs => by
  obtain ⟨u, h1, xs, ⟨a, c, rfl, h2, h3, h4, h5, h6⟩, hl⟩ := hx.sl hs
  have hv : ∀ a2 : Option Addr, (a2 = a ∨ (xs ≠ [] ∧ a2 = a)) → RepV I (.vc l) (.slice a2 l.length l.length) := fun a2 ha2 => by
    obtain rfl : a2 = a := ha2.elim id (·.2)
    exact ⟨⟨_, rfl⟩, xs, ⟨a2, l.length, rfl, h2, Nat.le_refl _, by omega, fun hn => by have := h5 hn; omega, h6⟩, hl⟩
  have hadd : ∀ sz : Nat, (if l.length = 0 then a else a.map (·.add (0 * sz))) = a := fun sz => by
    split
    · rfl
    · cases a with
      | none => rfl
      | some ad => cases ad; simp [Addr.add]
  refine .ofV (.mk (v := .slice a l.length l.length) ⟨rfl, .vc l, hv a (.inl rfl), k⟩ fun ac w ha hm => ?_)
  have e1 : (l.length : Int) ≤ (c : Int) := by omega
  have hsb : (Instr.sliceBounds true l.length c none (some (i64 l.length)) (some (i64 l.length))).run P w = .ok (0, l.length, l.length) w := by
    simp [Instr.sliceBounds, Instr.sliceBound, asIntOf, e1]
  have e2 := (hy.int hs).1
  have e3 := (hz.int hs).1
  have hrun : (Instr.sliceAt T (.slice a l.length c) none (some (i64 l.length)) (some (i64 l.length))).run P w = .ok (.slice a l.length l.length) w := by
    simp only [Instr.sliceAt, Instr.slice, Sem.run_bind, run_underlying hT, Result.andThen_ok, hsb, tE.size.run, Sem.run_pure, Nat.sub_zero, hadd]
  simp [execOp, ha.ev h1, ha.ev e2, ha.ev e3, hrun]
def arrCopy {n : Nat} {α : Type} (a : Arr n α) (m : List α) : Arr n α := ⟨m.take n ++ a.l.drop m.length, by simp; omega⟩
theorem OpH.copySv {α β : Type} {n : Nat} {r : Rep α} {s : Rep β} {i0 : Inhabited β} {w : Value} {l : Lens α (Arr n β)} {a : α} {m : List β} {bb : Bool} {F : Bool × Blk → AHeap} (tE : TyIs P E β) (hT : P.underlying T = some (.slice E)) (hx : EvA C σ H x (.sv w l))
    (hH : Hole H (bb, .ob w a) F) (hy : SrcA P C σ H y m) (hb : m.length ≤ 9223372036854775807) (k : KH (.v ((min m.length n : Nat) : Int)) (F (bb, .ob w (l.set (arrCopy (l.get a) m) a)))) :
    OpH P C N ⟨d, .call ⟨.builtin .copy, #[x, y], #[T, U]⟩, ty, ps, af, g⟩ σ H KH := fun ρ I L hs => by
  obtain ⟨u, h1, b, h0, rfl⟩ := hx ρ I L hs
  obtain ⟨v, news, h2, h3, h4⟩ := hy ρ I L hs
  obtain ⟨j, X, h5, h6, h7⟩ := hH.get hs.heap
  obtain ⟨b2, T', cs, rfl, rfl, h9⟩ := h6.1
  cases h0
  intro ac w0 ha hst
  have hmem := hst.mem
  generalize hmn : min m.length n = q at k
  have hsz := tE.size.run w0
  have hfc := h3.cells w0 hmem q (by omega)
  have hl4 := h4.len
  have hget := l.gets h9
  have hfits := l.fits
  have hfits2 : l.off + n * Rep.size β ≤ Rep.size α := hfits
  have hcl := Rep.len h9
  have hsegl : (segGet cs l.off (n * Rep.size β)).length = n * Rep.size β := by
    simp only [segGet, List.length_take, List.length_drop]; omega
  have hal : (l.get a).l.length = n := (l.get a).h
  have hlist : m.take n = m.take q := by rw [← hmn, List.take_eq_take_iff]; omega
  have hdrop : (l.get a).l.drop m.length = (l.get a).l.drop q := by
    by_cases h : m.length ≤ n
    · rw [← hmn, Nat.min_eq_left h]
    · rw [List.drop_eq_nil_of_le (by omega), List.drop_eq_nil_of_le (by omega)]
  have hnl : (news.take (q * Rep.size β)).length = q * Rep.size β := by
    rw [List.length_take, hl4]; exact Nat.min_eq_left (Nat.mul_le_mul_right _ (by omega))
  have hqn : q * Rep.size β ≤ n * Rep.size β := Nat.mul_le_mul_right _ (by omega)
  have hrep : repL I (m.take n ++ (l.get a).l.drop m.length) (segSet (segGet cs l.off (n * Rep.size β)) 0 (news.take (q * Rep.size β))) := by
    rw [hlist, hdrop]
    have h10 := h4.cut 0 q (by omega)
    have h11 := repL.cut (show repL I (l.get a).l _ from hget) q n (by omega)
    simp only [List.drop_zero, Nat.zero_mul] at h10 h11
    rw [List.take_of_length_le (show (l.get a).l.length ≤ n by omega)] at h11
    rw [List.take_of_length_le (show (segGet cs l.off (Rep.size (Arr n β))).length ≤ n * Rep.size β from Nat.le_of_eq hsegl)] at h11
    simp only [segSet, List.take_zero, List.nil_append, Nat.zero_add]
    rw [hnl]
    exact h10.append h11
  have hbh := hst.mem.loc (b, row cs T') (mem_chunk h5 (by simp))
  have hall : ∀ u ∈ news.take (q * Rep.size β), u.oneCell' = true := fun u hu => List.all_eq_true.1 h4.flat u (List.mem_of_mem_take hu)
  have hfit : l.off + (news.take (q * Rep.size β)).length ≤ cs.length := by rw [hnl, hcl]; omega
  have hst2 := run_storeCells_fr P b l.off T' (0, 0) (news.take (q * Rep.size β)) 0 cs.toArray w0 hbh (by simpa using hfit) hall (fun j hj => by omega)
  have hr : (execOp ac.eval ⟨d, .call ⟨.builtin .copy, #[x, y], #[T, U]⟩, ty, ps, af, g⟩).run P w0 = .ok (.value (goInt q)) (w0.setRow b (segSet cs l.off (news.take (q * Rep.size β))).toArray) := by
    simp [execOp, resolve, invoke, builtin, Builtin.copy_, run_underlying hT, h3.len w0, hsz, ha.ev h1, ha.ev h2, hmn, hfc]
    simp only [Nat.add_zero] at hst2
    simp [hst2, segSet]
  rw [hr]
  have hset : rep I (l.set (arrCopy (l.get a) m) a) (segSet cs l.off (news.take (q * Rep.size β))) := by
    have h12 := l.sets (y := arrCopy (l.get a) m) h9 (show rep I (arrCopy (l.get a) m) _ from hrep)
    rw [segSet_segSet (by rw [hnl, Nat.zero_add]; exact hqn) (by rw [hcl]; exact hfits2)] at h12
    exact h12
  refine ⟨I, _, setRowG hst h5 _, Le.refl I, .v ((q : Nat) : Int), _, ⟨_, ⟨rfl, by omega, by omega⟩, rfl⟩, h7 I (bb, .ob (ptr b 0) (l.set (arrCopy (l.get a) m) a)) [(b, row _ T')] (Le.refl I) ⟨⟨b, T', _, rfl, rfl, hset⟩, fun hbb p hp => ?_⟩, k⟩
  have := h6.2 hbb _ (List.mem_singleton.2 rfl)
  simp only [List.mem_singleton] at hp
  subst hp; exact this
end rules
end Go.Ab
set_option linter.unusedVariables false
namespace Go.Ab
open Go.Fl Go.RowKit
open Rep (rep)
structure GInv (P : Program) (C : Ctx) (N n : Nat) (l : List Oper) (ci : List Nat) (σ0 : AEnv) (accP : List (Nat × AV)) (Inv : Array Bool → List (Nat × AV) → AHeap → Prop) (ρ0 : Env) (I : Im)
    (listed : Array Bool) (cacc : List (Nat × AV)) (H : AHeap) (J : Im) (L : Lh) (vs : Nat → Value) (a : Act) (w : World) : Prop where
  head : HeadInv .any l.toArray n listed
  le : Le I J
  im0 : Le C.I0 J
  st : St C J L w
  heap : repH C.w0.heap.size J H L
  pl : Inv listed cacc H
  keys : ∀ j r, lookR cacc j = some r → j ∈ ci
  fresh : ∀ j r, lookR cacc j = some r → listed.getD j false = true
  prom : ∀ j r r0, lookR cacc j = some r → lookR accP j = some r0 → r = r0
  proL : ∀ j, j ∈ ci → listed.getD j false = true → ∃ r, lookR cacc j = some r
  val : ∀ j, j < n → listed.getD j false = true → ∃ r, lookR (cacc ++ accP) j = some r ∧ RepV J r (vs j)
  defers : a.defers = []
  size : a.tmps.size = N
  tmpI : ∀ j d, j < n → listed.getD j false = true → (l.toArray[j]?).bind (·.dst) = some d → a.tmps[d]? = some (vs j)
  tmpO : ∀ t v, Fl.look ρ0 t = some v → (∀ j, j < n → listed.getD j false = true → (l.toArray[j]?).bind (·.dst) ≠ some t) → a.tmps[t]? = some v
section
variable {P : Program} {C : Ctx} {N n : Nat} {l : List Oper} {ci : List Nat} {ss : List (List (Nat × Nat))} {σ0 : AEnv} {ι : Type 1} {HT : Nat → ι → AHeap} {accP : List (Nat × AV)} {Inv : Array Bool → List (Nat × AV) → AHeap → Prop} {ρ0 : Env} {I : Im} {L0 : Lh} {H0 : AHeap}
theorem GInv.step {listed : Array Bool} {cacc : List (Nat × AV)} {H : AHeap} {J : Im} {L : Lh} {vs : Nat → Value} {a : Act} {w : World} {Q' : Exit → Act → World → Prop}
    (h0 : RSt C I L0 σ0 H0 ρ0) (hN : dstOk N l = true) (hok : ∀ i, i < n → opOkC l.toArray n ss i = true) (hdst : dstsOkC l.toArray n = true)
    (hfam : ∀ listed cacc H i, Inv listed cacc H → i < n → i ∉ ci → listed.getD i false = false → ∃ q, H = HT i q) (hpure : ∀ listed cacc H i, Inv listed cacc H → i ∉ ci → Inv (listed.setIfInBounds i true) cacc H)
    (hstep : ∀ listed cacc H i o s, Inv listed cacc H → i ∈ ci → l[i]? = some o → ss[i]? = some s → listed.getD i false = false → (∀ j, Region.waitsFor .any l.toArray i j = true → listed.getD j false = true) → i < listed.size →
      o.guard = none ∧ OpH P C N o (envOf σ0 (cacc ++ accP) s (opTmps o)) H (fun r H' => (∀ r0, lookR accP i = some r0 → r = r0) ∧ Inv (listed.setIfInBounds i true) ((i, r) :: cacc) H'))
    (hp : ∀ i o s, i < n → i ∉ ci → l[i]? = some o → ss[i]? = some s → ∃ r, lookR accP i = some r ∧ dutyQ P N C σ0 (HT i) accP o s r)
    (inv : GInv P C N n l ci σ0 accP Inv ρ0 I listed cacc H J L vs a w) {i : Nat} (hr : i ∈ Region.ready .any l.toArray listed) (hin : i < n)
    {K : Act → World → Prop} (hK : ∀ cacc H J L vs a' w, GInv P C N n l ci σ0 accP Inv ρ0 I (listed.setIfInBounds i true) cacc H J L vs a' w → K a' w) :
    wpOpIn C.fen 0 P l.toArray Q' i K a w := by
  obtain ⟨hun, o, ho, hall⟩ := mem_ready.1 hr
  have hol : l[i]? = some o := by simpa using ho
  have hok' := hok i hin
  unfold opOkC at hok'
  simp only [ho] at hok'
  cases hs : ss[i]? with
  | none => simp [hs] at hok'
  | some s =>
  simp only [hs, Bool.and_eq_true] at hok'
  obtain ⟨hreads, hguard⟩ := hok'
  have hdN : ∀ d, o.dst = some d → d < N := fun d hod => by
    have := List.all_eq_true.1 hN o (List.mem_of_getElem? hol)
    rw [hod] at this
    simpa [Nat.blt_eq] using this
  have hlisted : ∀ j, Region.waitsFor .any l.toArray i j = true → listed.getD j false = true := fun j hw => by
    obtain ⟨e, he, hb, heq⟩ := waits_mem ho hw
    exact heq ▸ hall e he hb
  have hilt : i < listed.size := by
    rcases Nat.lt_or_ge i listed.size with h' | h'
    · exact h'
    · simp [Array.getElem?_eq_none h'] at hun
  have hiun : listed.getD i false = false := getD_both hun
  have hnot : ∀ j, Region.waitsFor .any l.toArray j i = true → listed.getD j false = true → False := fun j hw hl => by
    obtain ⟨oj, hoj, e, he, hb, heq⟩ := Region.waitsFor_spec hw
    have := inv.head.closed j oj hoj hl e he hb
    rw [heq, hiun] at this
    cases this
  let g : Nat → Option Value := fun t => match srcOf s t with | some j => some (vs j) | none => Fl.look ρ0 t
  have hsrcl : ∀ t ∈ opTmps o, ∀ j, srcOf s t = some j → j < n ∧ listed.getD j false = true ∧ (l.toArray[j]?).bind (·.dst) = some t := fun t ht j hj => by
    have hro := List.all_eq_true.1 hreads t ht
    unfold readOk at hro
    simp only [hj, Bool.and_eq_true, beq_iff_eq] at hro
    exact ⟨by simpa [Nat.blt_eq] using hro.1.1, hlisted j hro.2, hro.1.2⟩
  have hfits : Fits N (mkEnv g (opTmps o)) a := by
    refine ⟨inv.defers, inv.size, fun t v hv => ?_⟩
    obtain ⟨hmem, hg⟩ := look_mkEnv hv
    cases hsrc : srcOf s t with
    | some j =>
      obtain ⟨h1, h2, h3⟩ := hsrcl t hmem j hsrc
      have hgv : vs j = v := by simpa [g, hsrc] using hg
      rw [← hgv]
      exact inv.tmpI j t h1 h2 h3
    | none =>
      have hro := List.all_eq_true.1 hreads t hmem
      unfold readOk at hro
      simp only [hsrc] at hro
      refine inv.tmpO t v (by simpa [g, hsrc] using hg) fun j hj hl hdj => ?_
      have h1 := List.all_eq_true.1 hro j (List.mem_range.2 hj)
      simp only [hdj, beq_self_eq_true, Bool.not_true, Bool.false_or, Bool.or_eq_true, beq_iff_eq] at h1
      rcases h1 with h1 | h1
      · subst h1; rw [hiun] at hl; cases hl
      · exact hnot j h1 hl
  have henv : ∀ t b, lookA (envOf σ0 (cacc ++ accP) s (opTmps o)) t = some b → ∃ u, Fl.look (mkEnv g (opTmps o)) t = some u ∧ RepV J b u := fun t b hb => by
    obtain ⟨hmem, hb2⟩ := envOf_look hb
    cases hsrc : srcOf s t with
    | some j =>
      simp only [hsrc] at hb2
      obtain ⟨h1, h2, _⟩ := hsrcl t hmem j hsrc
      obtain ⟨r, h3, h4⟩ := inv.val j h1 h2
      rw [hb2] at h3
      cases h3
      exact ⟨vs j, by rw [look_mkEnv_mem hmem]; simp [g, hsrc], h4⟩
    | none =>
      simp only [hsrc] at hb2
      obtain ⟨u, h1, h2⟩ := h0.env t b hb2
      exact ⟨u, by rw [look_mkEnv_mem hmem]; simpa [g, hsrc] using h1, h2.mono inv.le⟩
  have hR : RSt C J L (envOf σ0 (cacc ++ accP) s (opTmps o)) H (mkEnv g (opTmps o)) := ⟨henv, inv.heap, inv.im0⟩
  have hput : ∀ j, j ≠ i → (listed.setIfInBounds i true).getD j false = listed.getD j false := fun j hj => getD_set_ne false (Ne.symm hj)
  have hdne : ∀ j, j < n → j ≠ i → ∀ d', (l.toArray[j]?).bind (·.dst) = some d' → o.dst ≠ some d' := by
    intro j hj hji d' hd' hod
    have hdi : (l.toArray[i]?).bind (·.dst) = some d' := by rw [ho]; exact hod
    rcases Nat.lt_or_gt_of_ne hji with h1 | h1
    · have := List.all_eq_true.1 (List.all_eq_true.1 hdst i (List.mem_range.2 hin)) j (List.mem_range.2 h1)
      rw [hdi, hd'] at this
      simp at this
    · have := List.all_eq_true.1 (List.all_eq_true.1 hdst j (List.mem_range.2 hj)) i (List.mem_range.2 h1)
      rw [hdi, hd'] at this
      simp at this
  -- what a finished operation does
  have fin : ∀ v J' L' H' cacc' w' r, Le J J' → St C J' L' w' → repH C.w0.heap.size J' H' L' → RepV J' r v → lookR (cacc' ++ accP) i = some r → (∀ j, j ≠ i → lookR (cacc' ++ accP) j = lookR (cacc ++ accP) j) →
      Inv (listed.setIfInBounds i true) cacc' H' → (∀ j r, lookR cacc' j = some r → j ∈ ci) → (∀ j r r0, lookR cacc' j = some r → lookR accP j = some r0 → r = r0) → (∀ j, j ∈ ci → (listed.setIfInBounds i true).getD j false = true → ∃ r, lookR cacc' j = some r) → (∀ j r, lookR cacc' j = some r → (listed.setIfInBounds i true).getD j false = true) → K (a.put o.dst v) w' := by
    intro v J' L' H' cacc' w' r hle hst hH hv hri hrj hpl hkeys hprom hproL hfresh
    refine hK cacc' H' J' L' (fun j => if j = i then v else vs j) _ _ ⟨inv.head.set hr hin, inv.le.trans hle, inv.im0.trans hle, hst, hH, hpl, hkeys, hfresh, hprom, hproL, fun j hj hl => ?_, ?_, ?_, fun j d' hj hl hd' => ?_, fun t u hu hno => ?_⟩
    · by_cases hji : j = i
      · subst hji
        exact ⟨r, hri, by simpa using hv⟩
      · rw [hput j hji] at hl
        obtain ⟨q, h1, h2⟩ := inv.val j hj hl
        exact ⟨q, (hrj j hji).trans h1, by simpa [hji] using h2.mono hle⟩
    · rw [put_defers]; exact inv.defers
    · rw [put_size]; exact inv.size
    · by_cases hji : j = i
      · subst hji
        have hod : o.dst = some d' := by rw [ho] at hd'; exact hd'
        rw [hod, put_eq _ _ (by rw [inv.size]; exact hdN d' hod), if_pos rfl]
      · rw [hput j hji] at hl
        rw [put_ne _ _ (hdne j hj hji d' hd'), if_neg hji]
        exact inv.tmpI j d' hj hl hd'
    · rw [put_ne _ _ (fun hod => hno i hin (getD_set_true' hilt) (by rw [ho]; exact hod))]
      refine inv.tmpO t u hu fun j hj hl => hno j hj ?_
      by_cases hji : j = i
      · subst hji; rw [hiun] at hl; cases hl
      · rw [hput j hji]; exact hl
  -- the guard
  have hgrd : ∀ gi want, o.guard = some (gi, want) → ∀ b, lookR accP gi = some (.v b) → yielded l.toArray a.tmps gi = some b := fun gi want hg b hb => by
    rw [hg] at hguard
    simp only [Bool.and_eq_true] at hguard
    have hgn : gi < n := by simpa [Nat.blt_eq] using hguard.1.1
    have hgl := hlisted gi hguard.1.2
    obtain ⟨r, h1, h2⟩ := inv.val gi hgn hgl
    have hr2 : r = .v b := by
      rw [lookR_append] at h1
      cases hc : lookR cacc gi with
      | some q =>
        rw [hc] at h1
        cases h1
        exact inv.prom gi _ _ hc hb
      | none =>
        rw [hc] at h1
        simp only at h1
        rw [hb] at h1
        exact (Option.some.inj h1).symm
    subst hr2
    obtain ⟨cs, rfl, hvs⟩ := h2
    obtain ⟨dg, hdg0⟩ := Option.isSome_iff_exists.1 hguard.2
    obtain ⟨og, hog, hdg⟩ := Option.bind_eq_some_iff.1 hdg0
    have htg := inv.tmpI gi dg hgn hgl (by rw [hog]; exact hdg)
    rw [hvs] at htg
    unfold yielded
    rw [hog]
    simp only [Option.bind_some, hdg, htg]
    rfl
  unfold wpOpIn
  simp only [ho]
  by_cases hic : i ∈ ci
  · obtain ⟨hgn, hop⟩ := hstep listed cacc H i o s inv.pl hic hol hs hiun hlisted hilt
    have hcn : lookR cacc i = none := by
      cases hc : lookR cacc i with
      | none => rfl
      | some q => exact absurd (inv.fresh i q hc) (by rw [hiun]; decide)
    have hself : ∀ r, lookR (((i, r) :: cacc) ++ accP) i = some r := fun r => by rw [lookR_append, lookR_cons, if_pos rfl]
    have hoth : ∀ r j, j ≠ i → lookR (((i, r) :: cacc) ++ accP) j = lookR (cacc ++ accP) j := fun r j hj => by rw [lookR_append, lookR_append, lookR_cons, if_neg (Ne.symm hj)]
    have hkeys : ∀ r, ∀ j q, lookR ((i, r) :: cacc) j = some q → j ∈ ci := fun r j q hq => by
      rw [lookR_cons] at hq
      by_cases e : i = j
      · subst e; exact hic
      · rw [if_neg e] at hq; exact inv.keys j q hq
    have hfresh : ∀ r, ∀ j q, lookR ((i, r) :: cacc) j = some q → (listed.setIfInBounds i true).getD j false = true := fun r j q hq => by
      rw [lookR_cons] at hq
      by_cases e : i = j
      · subst e; exact getD_set_true' hilt
      · rw [if_neg e] at hq; rw [hput j (Ne.symm e)]; exact inv.fresh j q hq
    have hprom : ∀ r, (∀ r0, lookR accP i = some r0 → r = r0) → ∀ j q r0, lookR ((i, r) :: cacc) j = some q → lookR accP j = some r0 → q = r0 := fun r hr0 j q r0 hq h0 => by
      rw [lookR_cons] at hq
      by_cases e : i = j
      · subst e; rw [if_pos rfl] at hq; cases hq; exact hr0 r0 h0
      · rw [if_neg e] at hq; exact inv.prom j q r0 hq h0
    have hproL : ∀ r, ∀ j, j ∈ ci → (listed.setIfInBounds i true).getD j false = true → ∃ q, lookR ((i, r) :: cacc) j = some q := fun r j hj hl => by
      by_cases e : i = j
      · subst e; exact ⟨r, by rw [lookR_cons, if_pos rfl]⟩
      · rw [hput j (Ne.symm e)] at hl
        obtain ⟨q, hq⟩ := inv.proL j hj hl
        exact ⟨q, by rw [lookR_cons, if_neg e]; exact hq⟩
    rw [if_pos (by simp [Region.wanted, hgn])]
    refine Yld.wp ((hop _ J L hR a w hfits inv.st).mono ?_)
    rintro v w' ⟨J', L', hst, hle, r, H', h1, h2, h3, h4⟩
    exact fin v J' L' H' ((i, r) :: cacc) w' r hle hst h2 h1 (hself r) (hoth r) h4 (hkeys r) (hprom r h3) (hproL r) (hfresh r)
  · obtain ⟨r, hri, hd⟩ := hp i o s hin hic hol hs
    have hcn : ∀ j, j ∉ ci → lookR cacc j = none := fun j hj => by
      cases hc : lookR cacc j with
      | none => rfl
      | some q => exact absurd (inv.keys j q hc) hj
    have hself : lookR (cacc ++ accP) i = some r := by rw [lookR_append, hcn i hic]; exact hri
    have hRq : RSt C J L (envOf σ0 accP s (opTmps o)) H (mkEnv g (opTmps o)) := hR.sub fun t b hb => by
      obtain ⟨hmem, hb2⟩ := envOf_look hb
      refine envOf_get ?_ hmem
      cases hsrc : srcOf s t with
      | none => simp only [hsrc] at hb2 ⊢; exact hb2
      | some j =>
        simp only [hsrc] at hb2 ⊢
        rw [lookR_append]
        cases hc : lookR cacc j with
        | none => exact hb2
        | some q => exact congrArg some (inv.prom j q b hc hb2)
    have hproL : ∀ j, j ∈ ci → (listed.setIfInBounds i true).getD j false = true → ∃ q, lookR cacc j = some q := fun j hj hl => by
      have : j ≠ i := by rintro rfl; exact hic hj
      rw [hput j this] at hl; exact inv.proL j hj hl
    have hfresh : ∀ j q, lookR cacc j = some q → (listed.setIfInBounds i true).getD j false = true := fun j q hq => by
      have : j ≠ i := by rintro rfl; exact hic (inv.keys j q hq)
      rw [hput j this]; exact inv.fresh j q hq
    obtain ⟨Hp, hHp⟩ := hfam _ _ _ i inv.pl hin hic hiun
    have hdH := hd Hp
    rw [← hHp] at hdH
    unfold dutyA at hdH
    have run : ∀ (c : AV), OpP P N C o (envOf σ0 accP s (opTmps o)) H (fun r' => r' = c) → (∀ J' u, RepV J' c u → RepV J' r u) → o.wpIn C.fen 0 P a w K Q' := fun c h hcr => by
      refine Yld.wp ((h _ J L hRq a w hfits inv.st.mem).mono ?_)
      rintro v w' ⟨J', X, hc, hle, hn, hm, hX, rfl, r', h1, rfl⟩
      have hst := (inv.st.step hc hle hn hm hX)
      rw [List.nil_append] at hst
      exact fin v J' L H cacc w' r hle hst (inv.heap.mono hle) (hcr _ _ h1) hself (fun j hj => rfl) (hpure _ _ _ i inv.pl hic) inv.keys inv.prom hproL hfresh
    cases hg : o.guard with
    | none =>
      rw [hg] at hdH
      rw [if_pos (by simp [Region.wanted, hg])]
      exact run r hdH (fun _ _ h => h)
    | some gw =>
      obtain ⟨gi, want⟩ := gw
      rw [hg] at hdH
      obtain ⟨b, c, hb, rfl, h2⟩ := hdH
      have hy := hgrd gi want hg b hb
      by_cases hbw : b = want
      · rw [if_pos (by simp [Region.wanted, hg, hy, hbw])]
        exact run c (h2 hbw) (fun _ _ h _ => h)
      · have hwf : ¬ Region.wanted o (yielded l.toArray a.tmps) = true := by simpa [Region.wanted, hg, hy] using hbw
        rw [if_neg hwf]
        refine ⟨fun _ _ => trivial, ?_⟩
        exact fin undef J L H cacc w (.opt (b == want) c) (Le.refl J) inv.st inv.heap (fun hc => absurd (by simpa using hc) hbw) hself (fun j hj => rfl) (hpure _ _ _ i inv.pl hic) inv.keys inv.prom hproL hfresh
theorem wpAny_G {Q' : Exit → Act → World → Prop} (h0 : RSt C I L0 σ0 H0 ρ0) (hN : dstOk N l = true) (hback : edgesBack l.toArray = true) (hok : ∀ i, i < n → opOkC l.toArray n ss i = true) (hdst : dstsOkC l.toArray n = true)
    (hfam : ∀ listed cacc H i, Inv listed cacc H → i < n → i ∉ ci → listed.getD i false = false → ∃ q, H = HT i q) (hpure : ∀ listed cacc H i, Inv listed cacc H → i ∉ ci → Inv (listed.setIfInBounds i true) cacc H)
    (hstep : ∀ listed cacc H i o s, Inv listed cacc H → i ∈ ci → l[i]? = some o → ss[i]? = some s → listed.getD i false = false → (∀ j, Region.waitsFor .any l.toArray i j = true → listed.getD j false = true) → i < listed.size →
      o.guard = none ∧ OpH P C N o (envOf σ0 (cacc ++ accP) s (opTmps o)) H (fun r H' => (∀ r0, lookR accP i = some r0 → r = r0) ∧ Inv (listed.setIfInBounds i true) ((i, r) :: cacc) H'))
    (hp : ∀ i o s, i < n → i ∉ ci → l[i]? = some o → ss[i]? = some s → ∃ r, lookR accP i = some r ∧ dutyQ P N C σ0 (HT i) accP o s r)
    (hle : n ≤ l.length) (htail : n = l.length ∨ (Region.sinkB .any l.toArray n = true ∧ Region.chainB .any l.toArray n = true)) (hseq : Region.seqB .any l.toArray (l.length - n) n (headAll l.length n) = true)
    (hfin : ∀ listed cacc H J L vs a w, GInv P C N n l ci σ0 accP Inv ρ0 I listed cacc H J L vs a w → (∀ j, j < n → listed.getD j false = true) → wpListIn C.fen 0 P l.toArray Q' (l.drop n) a w) :
    ∀ (m : Nat) (listed : Array Bool) cacc H J L vs a w, GInv P C N n l ci σ0 accP Inv ρ0 I listed cacc H J L vs a w → unl listed n = m → wpAnyIn C.fen 0 P .any l.toArray Q' (m + (l.length - n)) listed a w
  | 0, listed, cacc, H, J, L, vs, a, w, inv, hm => by
    have hsz : listed.size = l.length := by simpa using inv.head.size
    have hall : ∀ j, j < n → listed.getD j false = true := fun j hj => getD_both' (by omega) (unl_zero hm j hj)
    have heq : listed = headAll l.length n := by
      refine Array.ext (by simp [headAll, hsz]) fun j h1 h2 => ?_
      have e1 : (headAll l.length n)[j]'h2 = Nat.blt j n := by simp [headAll]
      rw [e1]
      by_cases hj : j < n
      · have := hall j hj
        simp [h1] at this
        rw [this]
        exact (Nat.blt_eq ▸ hj : Nat.blt j n = true).symm
      · have := inv.head.tail j (by omega) (by simp; omega)
        simp [h1] at this
        rw [this]
        cases hb : Nat.blt j n
        · rfl
        · exact absurd (Nat.blt_eq ▸ hb : j < n) hj
    have hw := hfin listed cacc H J L vs a w inv hall
    have h2 := wpAnyIn_of_seq (md := .any) (Q' := Q') (l.drop n) n listed a w (fun j => by simp [List.getElem?_drop]) (by rw [heq]; simpa using hseq) hw
    simpa using h2
  | m + 1, listed, cacc, H, J, L, vs, a, w, inv, hm => by
    have hsz : listed.size = l.length := by simpa using inv.head.size
    obtain ⟨i, hin, hi, hlt⟩ := unl_pos hm
    have hr := ready_of_least hback (by simpa using inv.head.size) hi hlt
    rw [show m + 1 + (l.length - n) = (m + (l.length - n)) + 1 by omega]
    refine ⟨fun h0 => (by rw [h0] at hr; cases hr), fun j hj => ?_⟩
    have hjn : j < n := by
      rcases Nat.lt_or_ge j n with h | h
      · exact h
      · rcases htail with ht | ⟨hs, hc⟩
        · obtain ⟨_, o, ho, _⟩ := mem_ready.1 hj
          have := (Array.getElem?_eq_some_iff.1 ho).1
          simp at this
          omega
        · have hnl : n < l.toArray.size := by
            obtain ⟨_, o, ho, _⟩ := mem_ready.1 hj
            have := (Array.getElem?_eq_some_iff.1 ho).1
            omega
          exact absurd hj (tail_waits hs hc hnl inv.head _ i rfl hin hi j h)
    refine inv.step h0 hN hok hdst hfam hpure hstep hp hj hjn fun cacc' H' J' L' vs' a' w' inv' => ?_
    refine wpAny_G h0 hN hback hok hdst hfam hpure hstep hp hle htail hseq hfin m _ cacc' H' J' L' vs' a' w' inv' ?_
    have hu := (mem_ready.1 hj).1
    have := unl_set hu hjn
    omega
end
theorem wpA.drawG' {P : Program} {C : Ctx} {N : Nat} {Q : Exit → AEnv → AHeap → Prop} {σ : AEnv} {H : AHeap} {id : Nat} {l : List Oper} {ι : Type 1} (HT : Nat → ι → AHeap) (hm : P.follows .mixedOrders = true) (n : Nat) (ss : List (List (Nat × Nat))) (ci : List Nat)
    (hN : dstOk N l = true) (hB : phiOkC l.toArray n ss = true) (full : List (Nat × AV)) (Inv : Array Bool → List (Nat × AV) → AHeap → Prop) (h00 : Inv (Array.replicate l.toArray.size false) [] H)
    (hp : ∀ i o s, i < n → i ∉ ci → l[i]? = some o → ss[i]? = some s → ∃ r, lookR full i = some r ∧ dutyQ P N C σ (HT i) full o s r)
    (hfam : ∀ listed cacc H i, Inv listed cacc H → i < n → i ∉ ci → listed.getD i false = false → ∃ q, H = HT i q) (hpure : ∀ listed cacc H i, Inv listed cacc H → i ∉ ci → Inv (listed.setIfInBounds i true) cacc H)
    (hstep : ∀ listed cacc H i o s, Inv listed cacc H → i ∈ ci → l[i]? = some o → ss[i]? = some s → listed.getD i false = false → (∀ j, Region.waitsFor .any l.toArray i j = true → listed.getD j false = true) → i < listed.size →
      o.guard = none ∧ OpH P C N o (envOf σ (cacc ++ full) s (opTmps o)) H (fun r H' => (∀ r0, lookR full i = some r0 → r = r0) ∧ Inv (listed.setIfInBounds i true) ((i, r) :: cacc) H'))
    (hfinal : ∀ listed cacc H', Inv listed cacc H' → (∀ j, j < n → listed.getD j false = true) → wpB P C N l.toArray Q (l.drop n) (finA (cacc ++ full) (l.take n) 0 σ) H') :
    wpA P C N (.region id l.toArray true) Q σ H := fun ρ I L hs a w ha hst => by
  have hB0 := hB
  simp only [phiOkC, Bool.and_eq_true, Bool.or_eq_true] at hB
  obtain ⟨⟨⟨⟨⟨hle, hback⟩, hok⟩, hdst⟩, htail⟩, hseq⟩ := hB
  have hle' : n ≤ l.length := by simpa using Nat.le_of_ble_eq_true hle
  have hok' : ∀ i, i < n → opOkC l.toArray n ss i = true := fun i hi => List.all_eq_true.1 hok i (List.mem_range.2 hi)
  have hs' : St C I L { w with drawn := w.drawn + 1 } := ⟨⟨hst.mem.im, hst.mem.loc, hst.mem.sep, hst.mem.nodup⟩, ⟨hst.chg.os, hst.chg.tape, hst.chg.output, hst.chg.size, hst.chg.block⟩, hst.own, hst.im0, hst.new⟩
  refine wpIn_region_any hm ?_
  have inv0 : GInv P C N n l ci σ full Inv ρ I (Array.replicate l.toArray.size false) [] H I L (fun _ => undef) a { w with drawn := w.drawn + 1 } := by
    have hnl : ∀ j, (Array.replicate l.toArray.size false).getD j false = true → False := fun j hl => by rw [getD_replicate_false] at hl; cases hl
    refine ⟨⟨by simp, fun j oj _ hl => (hnl j hl).elim, fun t _ ht => getD_in (by simpa using ht) (getD_replicate_false _ _)⟩, Le.refl _, hs.im0, hs', hs.heap, h00, fun j r hj => by simp [lookR] at hj, fun j r hj => by simp [lookR] at hj, fun j r r0 hj => by simp [lookR] at hj, fun j _ hl => (hnl j hl).elim, fun j _ hl => (hnl j hl).elim, ha.defers, ha.size, fun j d _ hl => (hnl j hl).elim, fun t v hv _ => ha.tmp t v hv⟩
  have hunl : unl (Array.replicate l.toArray.size false) n = n := by
    have key : ∀ k, k ≤ l.toArray.size → unl (Array.replicate l.toArray.size false) k = k := by
      intro k
      induction k with
      | zero => intro _; rfl
      | succ k ih =>
        intro hk
        rw [unl, ih (by omega), if_pos (getD_in (by simp at hk ⊢; omega) (getD_replicate_false _ _))]
    exact key n (by simpa using hle')
  have hmain := wpAny_G (Q' := liftQ C N (qA C Q)) hs hN hback hok' hdst hfam hpure hstep hp hle'
    (by rcases htail with h | h
        · exact .inl (by simpa using h)
        · exact .inr h) (by simpa using hseq)
    (fun listed cacc H' J L' vs a' w' inv hall => by
      have hpl := hfinal listed cacc H' inv.pl hall
      have hNd : dstOk N (l.drop n) = true := by
        simp only [dstOk, List.all_eq_true] at hN ⊢
        exact fun o ho => hN o (List.mem_of_mem_drop ho)
      have hR : RSt C J L' σ H' ρ := ⟨fun t b hb => by obtain ⟨u, h1, h2⟩ := hs.env t b hb; exact ⟨u, h1, h2.mono inv.le⟩, inv.heap, inv.im0⟩
      have hget : ∀ i o, (l.take n)[i]? = some o → i < n ∧ l[i]? = some o := fun i o ho => by
        have h1 := (List.getElem?_eq_some_iff.1 ho).1
        have hin : i < n := by rw [List.length_take] at h1; omega
        rw [List.getElem?_take, if_pos hin] at ho
        exact ⟨hin, ho⟩
      refine hpl (finV vs (l.take n) 0 ρ) J L' (finV_st (l.take n) 0 σ ρ hR fun i o ho => ?_) hNd a' w' (finV_fits inv.defers inv.size (l.take n) 0 ρ (fun i o d ho hdd => ?_) fun t v hv hno => inv.tmpO t v hv fun j hj _ hdj => ?_) inv.st
      · obtain ⟨hin, _⟩ := hget i o ho
        rw [Nat.zero_add]
        exact inv.val i hin (hall i hin)
      · obtain ⟨hin, ho2⟩ := hget i o ho
        rw [Nat.zero_add]
        exact inv.tmpI i d hin (hall i hin) (by simp [ho2, hdd])
      · have hjl : j < l.length := by omega
        have : (l.take n)[j]? = some l[j] := by rw [List.getElem?_take, if_pos hj]; exact List.getElem?_eq_getElem hjl
        refine hno j l[j] this ?_
        simpa [hjl] using hdj)
    n _ _ _ _ _ _ _ _ inv0 hunl
  rw [show n + (l.length - n) = l.toArray.size by simp; omega] at hmain
  exact hmain
theorem wpA.drawG {P : Program} {C : Ctx} {N : Nat} {Q : Exit → AEnv → AHeap → Prop} {σ : AEnv} {H : AHeap} {id : Nat} {l : List Oper} {ι : Type 1} (HT : ι → AHeap) (hm : P.follows .mixedOrders = true) (n : Nat) (ss : List (List (Nat × Nat))) (ci : List Nat)
    (hN : dstOk N l = true) (hB : phiOkC l.toArray n ss = true) (full : List (Nat × AV)) (Inv : Array Bool → List (Nat × AV) → AHeap → Prop) (h00 : Inv (Array.replicate l.toArray.size false) [] H)
    (hp : ∀ i o s, i < n → i ∉ ci → l[i]? = some o → ss[i]? = some s → ∃ r, lookR full i = some r ∧ dutyQ P N C σ HT full o s r)
    (hfam : ∀ listed cacc H, Inv listed cacc H → ∃ q, H = HT q) (hpure : ∀ listed cacc H i, Inv listed cacc H → i ∉ ci → Inv (listed.setIfInBounds i true) cacc H)
    (hstep : ∀ listed cacc H i o s, Inv listed cacc H → i ∈ ci → l[i]? = some o → ss[i]? = some s → listed.getD i false = false → (∀ j, Region.waitsFor .any l.toArray i j = true → listed.getD j false = true) → i < listed.size →
      o.guard = none ∧ OpH P C N o (envOf σ (cacc ++ full) s (opTmps o)) H (fun r H' => (∀ r0, lookR full i = some r0 → r = r0) ∧ Inv (listed.setIfInBounds i true) ((i, r) :: cacc) H'))
    (hfinal : ∀ listed cacc H', Inv listed cacc H' → (∀ j, j < n → listed.getD j false = true) → wpB P C N l.toArray Q (l.drop n) (finA (cacc ++ full) (l.take n) 0 σ) H') :
    wpA P C N (.region id l.toArray true) Q σ H :=
  wpA.drawG' (fun _ => HT) hm n ss ci hN hB full Inv h00 hp (fun listed cacc H i h _ _ _ => hfam listed cacc H h) hpure hstep hfinal
end Go.Ab
set_option linter.unusedVariables false
namespace Go.Ab
open Go.Fl Go.RowKit
open Rep (rep)
structure AT where
  α : Type
  r : Rep α
  d : α
def AT.res (t : AT) (b : Nat) : AV := @AV.ln t.α t.α t.r t.r (ptr b 0) (@Lens.id t.α t.r)
def AT.blk (t : AT) (b : Nat) : Bool × Blk := (true, @Blk.ob t.α t.r (ptr b 0) t.d)
def hole0 : Bool × Blk := (true, .fz undef .any)
def hA (listed : Nat → Bool) (ws : Nat → Nat) (al : List (Nat × AT)) : AHeap := al.map fun p => bif listed p.1 then p.2.blk (ws p.1) else hole0
theorem wpA.padE {P : Program} {C : Ctx} {N : Nat} {Q : Exit → AEnv → AHeap → Prop} {σ : AEnv} {H : AHeap} {c : Code} (k : wpA P C N c Q σ (hole0 :: H)) : wpA P C N c Q σ H := fun ρ I L hs =>
  wpS.pad (k ρ I ([] :: L) ⟨hs.env, ⟨[], L, rfl, ⟨⟨rfl, trivial⟩, fun _ p hp => by cases hp⟩, hs.heap⟩, hs.im0⟩)
theorem flatten_move {L : Lh} {i : Nat} (h : L[i]? = some []) (X : List (Nat × Obj)) : (L.set i X).flatten.Perm (X ++ L.flatten) := by
  obtain ⟨h1, h2⟩ := split_at L i [] h X
  rw [h1, h2, List.nil_append, ← List.append_assoc, ← List.append_assoc]
  exact List.Perm.append_right _ List.perm_append_comm
theorem stPerm {C : Ctx} {I : Im} {L M : Lh} {w : World} (h : St C I L w) (hp : M.flatten.Perm L.flatten) : St C I M w :=
  ⟨⟨h.mem.im, fun p hq => h.mem.loc p (hp.mem_iff.1 hq), fun p hq => h.mem.sep p (hp.mem_iff.1 hq), (hp.map Prod.fst).nodup_iff.2 h.mem.nodup⟩, h.chg, fun p hq => h.own p (hp.mem_iff.1 hq), h.im0, h.new⟩
theorem OpH.into {P : Program} {C : Ctx} {N : Nat} {o : Oper} {σ : AEnv} {H : AHeap} {K : AV → AHeap → Prop} {F : Bool × Blk → AHeap} (hh : Hole H hole0 F)
    (h : OpH P C N o σ H (fun r H' => ∃ B, H' = B :: H ∧ K r (F B))) : OpH P C N o σ H K := fun ρ I L hs a w ha hst => by
  refine (h ρ I L hs a w ha hst).mono ?_
  rintro v w' ⟨J, L', q1, q2, r, H', q3, q4, B, rfl, q5⟩
  obtain ⟨X, R, rfl, h1, h2⟩ := q4
  obtain ⟨j, Y, h3, h4, h5⟩ := hh.get h2
  have hY : Y = [] := h4.1.1
  subst hY
  exact ⟨J, R.set j X, stPerm q1 (flatten_move h3 X), q2, r, F B, q3, h5 J B X (Le.refl J) h1, q5⟩
def rA (ws : Nat → Nat) (al : List (Nat × AT)) : List (Nat × AV) := al.map fun p => (p.1, p.2.res (ws p.1))
def upd (ws : Nat → Nat) (i b : Nat) : Nat → Nat := fun j => if j = i then b else ws j
theorem lookR_rA {ws : Nat → Nat} : ∀ {al : List (Nat × AT)} {p : Nat × AT}, (al.map Prod.fst).Nodup → p ∈ al → lookR (rA ws al) p.1 = some (p.2.res (ws p.1))
  | q :: al, p, hn, hp => by
    rw [List.map_cons, List.nodup_cons] at hn
    show lookR ((q.1, q.2.res (ws q.1)) :: rA ws al) p.1 = _
    rw [lookR_cons]
    rcases List.mem_cons.1 hp with rfl | hp
    · rw [if_pos rfl]
    · rw [if_neg (fun e => hn.1 (by rw [e]; exact List.mem_map_of_mem hp))]
      exact lookR_rA hn.2 hp
theorem lookR_rA_none {ws : Nat → Nat} : ∀ {al : List (Nat × AT)} {j : Nat}, j ∉ al.map Prod.fst → lookR (rA ws al) j = none
  | [], j, _ => rfl
  | q :: al, j, h => by
    show lookR ((q.1, q.2.res (ws q.1)) :: rA ws al) j = _
    rw [List.map_cons, List.mem_cons, not_or] at h
    rw [lookR_cons, if_neg (fun e => h.1 e.symm)]
    exact lookR_rA_none h.2
theorem lookR_rA_congr {ws ws' : Nat → Nat} {j : Nat} (h : ws j = ws' j) : ∀ {al : List (Nat × AT)}, lookR (rA ws al) j = lookR (rA ws' al) j
  | [] => rfl
  | q :: al => by
    show lookR ((q.1, q.2.res (ws q.1)) :: rA ws al) j = lookR ((q.1, q.2.res (ws' q.1)) :: rA ws' al) j
    rw [lookR_cons, lookR_cons]
    by_cases e : q.1 = j
    · subst e; rw [if_pos rfl, if_pos rfl, h]
    · rw [if_neg e, if_neg e]; exact lookR_rA_congr h
theorem hA_cons {f : Nat → Bool} {ws : Nat → Nat} {q : Nat × AT} {al : List (Nat × AT)} : hA f ws (q :: al) = (bif f q.1 then q.2.blk (ws q.1) else hole0) :: hA f ws al := rfl
theorem hA_congr {f g : Nat → Bool} {ws ws' : Nat → Nat} : ∀ {al : List (Nat × AT)}, (∀ p ∈ al, f p.1 = g p.1 ∧ ws p.1 = ws' p.1) → hA f ws al = hA g ws' al
  | [], _ => rfl
  | q :: al, h => by
    have h1 := h q List.mem_cons_self
    show (bif f q.1 then q.2.blk (ws q.1) else hole0) :: hA f ws al = (bif g q.1 then q.2.blk (ws' q.1) else hole0) :: hA g ws' al
    rw [h1.1, h1.2, hA_congr fun p hp => h p (List.mem_cons_of_mem _ hp)]
theorem hA_all {f : Nat → Bool} {ws : Nat → Nat} {al : List (Nat × AT)} (h : ∀ p ∈ al, f p.1 = true) : hA f ws al = al.map fun p => p.2.blk (ws p.1) :=
  List.map_congr_left fun p hp => by rw [h p hp]; rfl
theorem hA_hole {f : Nat → Bool} {ws : Nat → Nat} {H0 : AHeap} {p : Nat × AT} : ∀ {al : List (Nat × AT)}, (al.map Prod.fst).Nodup → p ∈ al → f p.1 = false →
    ∃ F, Hole (hA f ws al ++ H0) hole0 F ∧ ∀ b, F (p.2.blk b) = hA (fun j => if j = p.1 then true else f j) (upd ws p.1 b) al ++ H0
  | q :: al, hn, hp, hf => by
    rw [List.map_cons, List.nodup_cons] at hn
    rcases List.mem_cons.1 hp with rfl | hp
    · refine ⟨fun X => X :: (hA f ws al ++ H0), ?_, fun b => ?_⟩
      · show Hole ((bif f p.1 then p.2.blk (ws p.1) else hole0) :: (hA f ws al ++ H0)) hole0 _
        rw [hf]; exact .z
      · rw [hA_cons, List.cons_append, if_pos rfl]
        show p.2.blk b :: (hA f ws al ++ H0) = _
        rw [hA_congr (g := fun j => if j = p.1 then true else f j) (ws' := upd ws p.1 b) fun q hq => ?_]
        · simp [upd]
        · have : q.1 ≠ p.1 := fun e => hn.1 (by rw [← e]; exact List.mem_map_of_mem hq)
          simp [upd, this]
    · obtain ⟨F, h1, h2⟩ := hA_hole (H0 := H0) (ws := ws) hn.2 hp hf
      have hne : q.1 ≠ p.1 := fun e => hn.1 (by rw [e]; exact List.mem_map_of_mem hp)
      refine ⟨fun X => (bif f q.1 then q.2.blk (ws q.1) else hole0) :: F X, .s h1, fun b => ?_⟩
      rw [hA_cons, List.cons_append, if_neg hne]
      show _ :: F (p.2.blk b) = _
      rw [h2 b]
      simp [upd, hne]
def chainOkA (ops : Array Oper) (n : Nat) (ss : List (List (Nat × Nat))) (ks ci : List Nat) : Bool :=
  chainOk ops n ss ci && ci.all (fun i => match ops[i]? with | some o => o.guard.isNone | none => false) && ks.all (fun i => Nat.blt i n && !(ci.contains i)) &&
  (match ci with | i :: _ => ks.all (fun j => Region.waitsFor .any ops i j) | [] => true)
def InvA (P : Program) (C : Ctx) (N : Nat) {ι : Type 1} (HT : ι → AHeap) (σ : AEnv) (full : List (Nat × AV)) (F : List (Nat × AV) → AHeap → Prop) (cl : List (Nat × Oper × List (Nat × Nat))) (al : List (Nat × AT)) (ci : List Nat) (H0 : AHeap)
    (listed : Array Bool) (cacc : List (Nat × AV)) (H : AHeap) : Prop :=
  ((∀ i ∈ ci, listed.getD i false = false) ∧ ∃ ws, (∀ j, lookR cacc j = if listed.getD j false = true then lookR (rA ws al) j else none) ∧ H = hA (fun j => listed.getD j false) ws al ++ H0) ∨
  ((∀ p ∈ al, listed.getD p.1 false = true) ∧ ∃ k c1, k ≤ ci.length ∧ (∀ m i, ci[m]? = some i → (listed.getD i false = true ↔ m < k)) ∧ (∀ j, lookR cacc j = lookR c1 j) ∧ planK P C N σ HT full F (cl.drop k) c1 H)
section
variable {P : Program} {C : Ctx} {N n : Nat} {ι : Type 1} {HT : ι → AHeap} {σ : AEnv} {full : List (Nat × AV)} {F : List (Nat × AV) → AHeap → Prop} {l : List Oper} {ss : List (List (Nat × Nat))} {al : List (Nat × AT)} {ci : List Nat} {H0 : AHeap} {listed : Array Bool} {cacc : List (Nat × AV)} {H : AHeap}
theorem InvA.pure {i : Nat} (h : InvA P C N HT σ full F (clOf l ss ci) al ci H0 listed cacc H) (h1 : i ∉ ci) (h2 : i ∉ al.map Prod.fst) : InvA P C N HT σ full F (clOf l ss ci) al ci H0 (listed.setIfInBounds i true) cacc H := by
  have hput : ∀ j, j ≠ i → (listed.setIfInBounds i true).getD j false = listed.getD j false := fun j hj => getD_set_ne false (Ne.symm hj)
  rcases h with ⟨ha, ws, hb, hc⟩ | ⟨ha, k, c1, hk, hb, hc, hd⟩
  · refine .inl ⟨fun j hj => by rw [hput j (fun e => h1 (e ▸ hj))]; exact ha j hj, ws, fun j => ?_, ?_⟩
    · by_cases e : j = i
      · subst e
        rw [hb j, lookR_rA_none h2]; simp
      · rw [hput j e]; exact hb j
    · rw [hc, hA_congr fun p hp => ⟨?_, rfl⟩]
      exact (hput p.1 (fun e => h2 (e ▸ List.mem_map_of_mem hp))).symm
  · refine .inr ⟨fun p hp => by rw [hput p.1 (fun e => h2 (e ▸ List.mem_map_of_mem hp))]; exact ha p hp, k, c1, hk, fun m j hj => ?_, hc, hd⟩
    rw [hput j (fun e => h1 (e ▸ List.mem_of_getElem? hj))]; exact hb m j hj
theorem InvA.chained {i : Nat} (hch : chainOkA l.toArray n ss (al.map Prod.fst) ci = true) (hplan : ∀ ws, planK P C N σ HT full F (clOf l ss ci) (rA ws al) ((al.map fun p => p.2.blk (ws p.1)) ++ H0))
    (h : InvA P C N HT σ full F (clOf l ss ci) al ci H0 listed cacc H) (hi : i ∈ ci) (hw : ∀ j, Region.waitsFor .any l.toArray i j = true → listed.getD j false = true) :
    (∀ p ∈ al, listed.getD p.1 false = true) ∧ ∃ k c1, k ≤ ci.length ∧ (∀ m i, ci[m]? = some i → (listed.getD i false = true ↔ m < k)) ∧ (∀ j, lookR cacc j = lookR c1 j) ∧ planK P C N σ HT full F ((clOf l ss ci).drop k) c1 H := by
  rcases h with ⟨ha, ws, hb, hc⟩ | h
  · simp only [chainOkA, Bool.and_eq_true] at hch
    obtain ⟨⟨⟨hch, _⟩, hks⟩, hfirst⟩ := hch
    obtain ⟨m, hm⟩ := List.mem_iff_getElem?.1 hi
    have hml : m < ci.length := (List.getElem?_eq_some_iff.1 hm).1
    unfold chainOk at hch
    cases m with
    | succ mj =>
      have h1 := List.all_eq_true.1 hch (mj + 1) (List.mem_range.2 hml)
      simp only [hm, Bool.and_eq_true] at h1
      cases hj : ci[mj]? with
      | none => simp [hj] at h1
      | some j =>
        simp only [hj, Bool.and_eq_true] at h1
        have h2 := hw j h1.2.2
        rw [ha j (List.mem_of_getElem? hj)] at h2; cases h2
    | zero =>
      cases hci : ci with
      | nil => rw [hci] at hml; exact absurd hml (by simp)
      | cons c r =>
        rw [hci] at hm hfirst
        have hci2 : c = i := by simpa using hm
        subst hci2
        have hall : ∀ p ∈ al, listed.getD p.1 false = true := fun p hp => hw p.1 (List.all_eq_true.1 hfirst p.1 (List.mem_map_of_mem hp))
        refine ⟨hall, 0, rA ws al, Nat.zero_le _, fun m j hj => ⟨fun hl => ?_, fun h => by omega⟩, fun j => ?_, ?_⟩
        · rw [ha j (by rw [hci]; exact List.mem_of_getElem? hj)] at hl; cases hl
        · rw [hb j]
          split
          · rfl
          · rename_i hn
            refine (lookR_rA_none fun hj => ?_).symm
            obtain ⟨p, hp, rfl⟩ := List.mem_map.1 hj
            exact hn (hall p hp)
        · rw [List.drop_zero, ← hci, hc, hA_all hall]
          exact hplan ws
  · exact h
theorem InvA.alloc {p : Nat × AT} (hn : (al.map Prod.fst).Nodup) (hp : p ∈ al) (hd : p.1 ∉ ci) (h : InvA P C N HT σ full F (clOf l ss ci) al ci H0 listed cacc H) (hun : listed.getD p.1 false = false) (hlt : p.1 < listed.size) :
    ∃ F', Hole H hole0 F' ∧ ∀ b, InvA P C N HT σ full F (clOf l ss ci) al ci H0 (listed.setIfInBounds p.1 true) ((p.1, p.2.res b) :: cacc) (F' (p.2.blk b)) := by
  have hput : ∀ j, j ≠ p.1 → (listed.setIfInBounds p.1 true).getD j false = listed.getD j false := fun j hj => getD_set_ne false (Ne.symm hj)
  have hset : (listed.setIfInBounds p.1 true).getD p.1 false = true := getD_set_true' hlt
  rcases h with ⟨ha, ws, hb, hc⟩ | ⟨ha, _⟩
  · obtain ⟨F', h1, h2⟩ := hA_hole (f := fun j => listed.getD j false) (ws := ws) (H0 := H0) hn hp hun
    refine ⟨F', hc ▸ h1, fun b => .inl ⟨fun j hj => by rw [hput j (fun e => hd (e ▸ hj))]; exact ha j hj, upd ws p.1 b, fun j => ?_, ?_⟩⟩
    · rw [lookR_cons]
      by_cases e : p.1 = j
      · subst e
        rw [if_pos rfl, if_pos hset, lookR_rA hn hp]
        simp [upd]
      · rw [if_neg e, hput j (Ne.symm e), hb j, lookR_rA_congr (ws := ws) (ws' := upd ws p.1 b) (by simp [upd, Ne.symm e])]
    · rw [h2 b]
      congr 1
      refine hA_congr fun q hq => ⟨?_, rfl⟩
      by_cases e : q.1 = p.1
      · rw [e, if_pos rfl, hset]
      · rw [if_neg e, hput _ e]
  · rw [ha p hp] at hun; cases hun
theorem InvA.chain {i : Nat} {o : Oper} {s : List (Nat × Nat)} (hch : chainOkA l.toArray n ss (al.map Prod.fst) ci = true) (hcl : ∀ (m i : Nat) (o : Oper) (s : List (Nat × Nat)), ci[m]? = some i → l[i]? = some o → ss[i]? = some s → (clOf l ss ci)[m]? = some (i, o, s)) (hnd : ci.Nodup)
    (hplan : ∀ ws, planK P C N σ HT full F (clOf l ss ci) (rA ws al) ((al.map fun p => p.2.blk (ws p.1)) ++ H0))
    (h : InvA P C N HT σ full F (clOf l ss ci) al ci H0 listed cacc H) (hi : i ∈ ci) (hol : l[i]? = some o) (hs : ss[i]? = some s) (hun : listed.getD i false = false) (hw : ∀ j, Region.waitsFor .any l.toArray i j = true → listed.getD j false = true) (hlt : i < listed.size) :
    o.guard = none ∧ OpH P C N o (envOf σ (cacc ++ full) s (opTmps o)) H (fun r H' => (∀ r0, lookR full i = some r0 → r = r0) ∧ InvA P C N HT σ full F (clOf l ss ci) al ci H0 (listed.setIfInBounds i true) ((i, r) :: cacc) H') := by
  obtain ⟨hall, k, c1, hk, hb, hc, hpl⟩ := h.chained hch hplan hi hw
  simp only [chainOkA, Bool.and_eq_true] at hch
  obtain ⟨⟨⟨hch, hgs⟩, hks⟩, _⟩ := hch
  have hg : o.guard = none := by
    have := List.all_eq_true.1 hgs i hi
    simp only [show l.toArray[i]? = some o by simpa using hol] at this
    exact Option.isNone_iff_eq_none.1 this
  have hput : ∀ j, j ≠ i → (listed.setIfInBounds i true).getD j false = listed.getD j false := fun j hj => getD_set_ne false (Ne.symm hj)
  obtain ⟨m, hm⟩ := List.mem_iff_getElem?.1 hi
  have hml : m < ci.length := (List.getElem?_eq_some_iff.1 hm).1
  have hmk : ¬ m < k := fun h => by have := (hb m i hm).2 h; rw [hun] at this; cases this
  have hkm : m ≤ k := by
    unfold chainOk at hch
    cases m with
    | zero => omega
    | succ mj =>
      have h1 := List.all_eq_true.1 hch (mj + 1) (List.mem_range.2 hml)
      simp only [hm, Bool.and_eq_true] at h1
      cases hj : ci[mj]? with
      | none => simp [hj] at h1
      | some j =>
        simp only [hj, Bool.and_eq_true] at h1
        have := (hb mj j hj).1 (hw j h1.2.2)
        omega
  obtain rfl : m = k := by omega
  have hcc := hcl m i o s hm hol hs
  have hdrop : (clOf l ss ci).drop m = (i, o, s) :: (clOf l ss ci).drop (m + 1) := by
    have hlt := (List.getElem?_eq_some_iff.1 hcc).1
    rw [List.drop_eq_getElem_cons hlt]
    congr 1
    rw [List.getElem?_eq_getElem hlt] at hcc
    exact Option.some.inj hcc
  rw [hdrop, planK] at hpl
  replace hpl := hpl.2
  have henv : envOf σ (cacc ++ full) s (opTmps o) = envOf σ (c1 ++ full) s (opTmps o) := envOf_congr (fun t j _ => by rw [lookR_append, lookR_append, hc j]) _
  refine ⟨hg, ?_⟩
  rw [henv]
  have hnext : ∀ r H', planK P C N σ HT full F ((clOf l ss ci).drop (m + 1)) ((i, r) :: c1) H' → InvA P C N HT σ full F (clOf l ss ci) al ci H0 (listed.setIfInBounds i true) ((i, r) :: cacc) H' := fun r H' hq => by
    refine .inr ⟨fun p hp => ?_, m + 1, (i, r) :: c1, by omega, fun m' i' hm' => ?_, fun j => by rw [lookR_cons, lookR_cons, hc j], hq⟩
    · by_cases e : p.1 = i
      · rw [e]; exact getD_set_true' hlt
      · rw [hput _ e]; exact hall p hp
    · by_cases e : i' = i
      · subst e
        have h1 := (List.getElem?_eq_some_iff.1 hm')
        have h2 := (List.getElem?_eq_some_iff.1 hm)
        have : m' = m := (List.getElem_inj (h₀ := h1.1) (h₁ := h2.1) hnd).1 (by rw [h1.2, h2.2])
        subst this
        exact ⟨fun _ => by omega, fun _ => getD_set_true' hlt⟩
      · rw [hput i' e, hb m' i' hm']
        have : m' ≠ m := by rintro rfl; rw [hm] at hm'; exact e (Option.some.inj hm').symm
        omega
  cases hr : lookR full i with
  | none =>
    rw [hg, hr] at hpl
    exact hpl.mono fun r H' hq => ⟨fun r0 h0 => (by cases h0), hnext r H' hq⟩
  | some r0 =>
    rw [hg, hr] at hpl
    exact hpl.mono fun r H' ⟨e, hq⟩ => ⟨fun q h0 => by cases h0; exact e, by subst e; exact hnext _ H' hq⟩
end
theorem finA_congr {a b : List (Nat × AV)} (h : ∀ j, lookR a j = lookR b j) : ∀ (os : List Oper) (k : Nat) (σ : AEnv), finA a os k σ = finA b os k σ
  | [], _, _ => rfl
  | o :: os, k, σ => by
    simp only [finA, h k]
    cases o.dst with
    | none => exact finA_congr h os _ _
    | some d =>
      cases lookR b k with
      | none => exact finA_congr h os _ _
      | some r => exact finA_congr h os _ _
theorem famT_id {G : AHeap} : ∀ (bs : List Bool) (k : Nat), famT bs (G.drop k) (fun j => G.getD j hole0) k = G.drop k
  | [], _ => by simp [famT]
  | b :: bs, k => by
    cases hd : G.drop k with
    | nil => rfl
    | cons B R =>
      have hB : G.getD k hole0 = B := by
        have h1 : G[k]? = some B := by
          have := congrArg (fun l : AHeap => l[0]?) hd
          simpa using this
        simp [List.getD, h1]
      have hR : G.drop (k + 1) = R := by
        rw [← List.drop_drop, hd]; rfl
      show (bif b then G.getD k hole0 else B) :: famT bs R (fun j => G.getD j hole0) (k + 1) = B :: R
      rw [hB, ← hR, famT_id bs (k + 1)]
      cases b <;> rfl
theorem wpA.padN {P : Program} {C : Ctx} {N : Nat} {Q : Exit → AEnv → AHeap → Prop} {σ : AEnv} {H : AHeap} {c : Code} : ∀ {al : List (Nat × AT)}, wpA P C N c Q σ ((al.map fun _ => hole0) ++ H) → wpA P C N c Q σ H
  | [], h => h
  | _ :: al, h => wpA.padN (al := al) (wpA.padE h)
theorem wpA.drawA {P : Program} {C : Ctx} {N : Nat} {Q : Exit → AEnv → AHeap → Prop} {σ : AEnv} {H : AHeap} {id : Nat} {l : List Oper} (bs : List Bool) (al : List (Nat × AT)) (hm : P.follows .mixedOrders = true) (n : Nat) (ss : List (List (Nat × Nat))) (ci : List Nat)
    (hN : dstOk N l = true) (hB : phiOkC l.toArray n ss = true) (hss : Nat.ble n ss.length = true) (hC : chainOkA l.toArray n ss (al.map Prod.fst) ci = true) (hnd : ci.Nodup) (hna : (al.map Prod.fst).Nodup)
    (hal : ∀ p ∈ al, ∀ o, l[p.1]? = some o → o.guard = none ∧ ∀ σ' H', OpH P C N o σ' H' (fun r H'' => ∃ b, r = p.2.res b ∧ H'' = p.2.blk b :: H'))
    (h : chainP P N C σ (fun q : AHeap × (Nat → Bool × Blk) => q.1 ++ famT bs H q.2 0) (al.map Prod.fst ++ ci) (fun accP => ((al.map Prod.fst).all fun i => (lookR accP i).isNone) = true ∧
      ∀ ws : Nat → Nat, planK P C N σ (fun q : AHeap × (Nat → Bool × Blk) => q.1 ++ famT bs H q.2 0) accP (fun cacc H' => wpB P C N l.toArray Q (l.drop n) (finA (cacc ++ accP) (l.take n) 0 σ) H') (clOf l ss ci) (rA ws al) ((al.map fun p => p.2.blk (ws p.1)) ++ H)) (l.take n) ss 0 []) :
    wpA P C N (.region id l.toArray true) Q σ H := .padN (al := al) (by
  have hB0 := hB
  simp only [phiOkC, Bool.and_eq_true, Bool.or_eq_true] at hB
  obtain ⟨⟨⟨⟨⟨hle, hback⟩, hok⟩, hdst⟩, htail⟩, hseq⟩ := hB
  have hle' : n ≤ l.length := by simpa using Nat.le_of_ble_eq_true hle
  have hok' : ∀ i, i < n → opOkC l.toArray n ss i = true := fun i hi => List.all_eq_true.1 hok i (List.mem_range.2 hi)
  have hssl := Nat.le_of_ble_eq_true hss
  obtain ⟨full, ⟨hnone, hF⟩, _, hd⟩ := chainP_elim (l.take n) ss 0 [] (fun j r hj => by simp [lookR] at hj) h
  have hC2 := hC
  simp only [chainOkA, Bool.and_eq_true] at hC2
  obtain ⟨⟨⟨hC', _⟩, hks⟩, _⟩ := hC2
  unfold chainOk at hC'
  have hcin : ∀ i ∈ ci, i < n := fun i hi => by
    obtain ⟨m, hm⟩ := List.mem_iff_getElem?.1 hi
    have h1 := List.all_eq_true.1 hC' m (List.mem_range.2 (List.getElem?_eq_some_iff.1 hm).1)
    simp only [hm, Bool.and_eq_true] at h1
    simpa [Nat.blt_eq] using h1.1
  have hkin : ∀ i ∈ al.map Prod.fst, i < n ∧ i ∉ ci := fun i hi => by
    have h1 := List.all_eq_true.1 hks i hi
    simp only [Bool.and_eq_true, Bool.not_eq_true', List.contains_eq_mem, decide_eq_false_iff_not] at h1
    exact ⟨by simpa [Nat.blt_eq] using h1.1, h1.2⟩
  have hcl := clOf_get (l := l) (ss := ss) ci (fun i hi => ⟨_, _, List.getElem?_eq_getElem (Nat.lt_of_lt_of_le (hcin i hi) hle'), List.getElem?_eq_getElem (Nat.lt_of_lt_of_le (hcin i hi) hssl)⟩)
  have hp : ∀ i o s, i < n → i ∉ al.map Prod.fst ++ ci → l[i]? = some o → ss[i]? = some s → ∃ r, lookR full i = some r ∧ dutyQ P N C σ (fun q : AHeap × (Nat → Bool × Blk) => q.1 ++ famT bs H q.2 0) full o s r := fun i o s hi hic ho hsi => by
    obtain ⟨r, acc', h1, h2, h3⟩ := hd i o s (by rw [List.getElem?_take, if_pos hi]; exact ho) hsi (by simpa using hic)
    rw [Nat.zero_add] at h1 h3
    refine ⟨r, h1, fun H' => ?_⟩
    have hoi := hok' i hi
    unfold opOkC at hoi
    have ho' : l.toArray[i]? = some o := by simpa using ho
    simp only [ho', hsi, Bool.and_eq_true] at hoi
    have hback' : ∀ j, Region.waitsFor .any l.toArray i j = true → j < i := fun j hw => by
      obtain ⟨e, he, hb, heq⟩ := waits_mem ho' hw
      have hil : i < l.toArray.size := (Array.getElem?_eq_some_iff.1 ho').1
      have h4 := List.all_eq_true.1 hback i (List.mem_range.2 hil)
      simp only [ho', Array.all_eq_true_iff_forall_mem] at h4
      have h5 := h4 e he
      rw [hb] at h5
      have : e.on < i := by simpa [Nat.blt_eq] using h5
      omega
    -- sources that are no operand are looked at too
    have henv : ∀ t ∈ opTmps o, ∀ j, srcOf s t = some j → lookR acc' j = lookR full j := fun t ht j hj => by
      have h6 := List.all_eq_true.1 hoi.1 t ht
      unfold readOk at h6
      simp only [hj, Bool.and_eq_true] at h6
      exact h3 j (hback' j h6.2)
    have hdd := h2 H'
    unfold dutyA at hdd ⊢
    have he : ∀ ts, (∀ t ∈ ts, t ∈ opTmps o) → envOf σ acc' s ts = envOf σ full s ts := by
      intro ts
      induction ts with
      | nil => intro _; rfl
      | cons t ts ih =>
        intro hts
        simp only [envOf]
        cases hsrc : srcOf s t with
        | none => simp only [ih (fun u hu => hts u (List.mem_cons_of_mem _ hu))]
        | some j => simp only [henv t (hts t List.mem_cons_self) j hsrc, ih (fun u hu => hts u (List.mem_cons_of_mem _ hu))]
    rw [← he _ (fun t ht => ht)]
    cases hg : o.guard with
    | none => rw [hg] at hdd; exact hdd
    | some p =>
      obtain ⟨g, want⟩ := p
      rw [hg] at hdd
      have h6 := hoi.2
      rw [hg] at h6
      simp only [Bool.and_eq_true] at h6
      simp only at hdd ⊢
      rw [← h3 g (hback' g h6.1.2)]; exact hdd
  refine wpA.drawG (fun q : AHeap × (Nat → Bool × Blk) => q.1 ++ famT bs H q.2 0) hm n ss (al.map Prod.fst ++ ci) hN hB0 full
    (InvA P C N (fun q : AHeap × (Nat → Bool × Blk) => q.1 ++ famT bs H q.2 0) σ full (fun cacc H' => wpB P C N l.toArray Q (l.drop n) (finA (cacc ++ full) (l.take n) 0 σ) H') (clOf l ss ci) al ci H) ?_ hp ?_ ?_ ?_ ?_
  · refine .inl ⟨fun i _ => getD_replicate_false _ _, fun _ => 0, fun j => ?_, ?_⟩
    · rw [if_neg (by rw [getD_replicate_false]; decide)]; rfl
    · congr 1
      exact (List.map_congr_left fun p _ => by simp only [getD_replicate_false]; rfl)
  · rintro listed cacc H' (⟨_, ws, _, rfl⟩ | ⟨_, k, c1, _, _, _, hq⟩)
    · refine ⟨(hA (fun j => listed.getD j false) ws al, fun j => H.getD j hole0), ?_⟩
      have := famT_id (G := H) bs 0
      rw [List.drop_zero] at this
      simp only [this]
    · exact hq.tail
  · exact fun listed cacc H' i hi hni => hi.pure (fun e => hni (List.mem_append_right _ e)) (fun e => hni (List.mem_append_left _ e))
  · intro listed cacc H' i o s hi hic hol hs hun hw hlt
    rcases List.mem_append.1 hic with hk | hc
    · obtain ⟨p, hp, rfl⟩ := List.mem_map.1 hk
      obtain ⟨hg, hop⟩ := hal p hp o hol
      obtain ⟨F', h1, h2⟩ := hi.alloc hna hp (hkin _ hk).2 hun hlt
      refine ⟨hg, OpH.into h1 ((hop _ _).mono fun r H'' ⟨b, hr, hH⟩ => ⟨_, hH, fun r0 h0 => ?_, by rw [hr]; exact h2 b⟩)⟩
      have h3 := List.all_eq_true.1 hnone p.1 hk
      rw [h0] at h3; cases h3
    · exact hi.chain hC hcl hnd hF hc hol hs hun hw hlt
  · intro listed cacc H' hi hall
    have hfin : ∃ c1, (∀ j, lookR cacc j = lookR c1 j) ∧ wpB P C N l.toArray Q (l.drop n) (finA (c1 ++ full) (l.take n) 0 σ) H' := by
      have hlen : ∀ c : List Nat, (clOf l ss c).length ≤ c.length := by
        intro c
        induction c with
        | nil => exact Nat.le_refl _
        | cons i c ih =>
          simp only [clOf]
          split
          · simpa using ih
          · exact Nat.le_succ_of_le ih
      rcases hi with ⟨ha, ws, hb, hc⟩ | ⟨ha, k, c1, hk, hb, hc, hq⟩
      · have hci : ci = [] := by
          cases hci : ci with
          | nil => rfl
          | cons c r =>
            have h1 := hall c (hcin c (by rw [hci]; exact List.mem_cons_self))
            rw [ha c (by rw [hci]; exact List.mem_cons_self)] at h1; cases h1
        refine ⟨rA ws al, fun j => ?_, ?_⟩
        · rw [hb j]
          split
          · rfl
          · rename_i hn
            refine (lookR_rA_none fun hj => hn (hall j (hkin j hj).1)).symm
        · have hq := hF ws
          have e : clOf l ss ci = [] := by
            have := hlen ci
            rw [hci] at this ⊢; rfl
          rw [e, planK] at hq
          rw [hc, hA_all fun p hp => hall p.1 (hkin _ (List.mem_map_of_mem hp)).1]
          exact hq.2
      · have hk' : k = ci.length := by
          rcases Nat.lt_or_ge k ci.length with h | h
          · have := (hb k _ (List.getElem?_eq_getElem h)).1 (hall _ (hcin _ (List.getElem_mem h)))
            omega
          · omega
        rw [hk', List.drop_eq_nil_of_le (hlen ci), planK] at hq
        exact ⟨c1, hc, hq.2⟩
    obtain ⟨c1, h1, h2⟩ := hfin
    rw [finA_congr (b := c1 ++ full) fun j => by rw [lookR_append, lookR_append, h1 j]]
    exact h2)
theorem repH.dropL {n0 : Nat} {I : Im} : ∀ (m : Nat) {H : AHeap} {L : Lh}, repH n0 I H L → repH n0 I (H.drop m) (L.drop m)
  | 0, _, _, h => h
  | m + 1, [], _, h => by simp only [repH] at h; subst h; exact (show repH n0 I [] [] from rfl)
  | m + 1, B :: H, _, h => by obtain ⟨X, R, rfl, h1, h2⟩ := h; exact repH.dropL m h2
theorem mem_dropL {L : Lh} {m : Nat} {p : Nat × Obj} (h : p ∈ (L.drop m).flatten) : p ∈ L.flatten := by
  rw [← List.take_append_drop m L, List.flatten_append]; exact List.mem_append_right _ h
theorem FunH.introD {G : Gl} {P : Program} {f : FuncId} {fn : Func} {c : Code} {ags : List AV} {Hs : List Blk} {post : AV → List Blk → Prop} (hf : P.funcs[f]? = some fn) (hb : fn.body = some c) (hn : (fn.name == "runtime.NumGoroutine") = false)
    (N : Nat) (hN : fn.ntmps = N) (hl : Nat.ble ags.length N = true) (σ : AEnv) (hσ : argA ags 0 = σ) (H0 : AHeap) (hH : lentB Hs = H0)
    (h : ∀ C : Ctx, Ctx.Ok C → G.p C.I0 → wpA P C N c (endA P fn C (fun r H => ∃ m : Nat, post r ((H.drop m).map Prod.snd))) σ H0) : FunH G P f ags Hs post := fun I L vs hG hvs hL =>
  ⟨⟨fn, hf, hn, by simp [hb]⟩, fun w hm => calls_body hf hb N hN (by rw [hvs.len]; exact hl) hm (M := L.flatten.map Prod.fst) (fun p hp => List.mem_map_of_mem hp)
    ((h ⟨w, L.flatten.map Prod.fst, I, none⟩ (fun k hk => by
        obtain ⟨p, hp, rfl⟩ := List.mem_map.1 hk
        exact lt_of_get (hm.loc p hp)) hG (argEnv vs 0) I L ⟨by rw [← hσ]; exact hvs.env 0, by rw [← hH, lentB_eq]; exact hL.toH, Le.refl I⟩).mono fun e ρ J L hq => endA.q hq)
    fun v J L' w' hs hp => by
      obtain ⟨r, H, h1, h2, m, h3⟩ := hp
      refine ⟨v, J, L'.drop m, rfl, hs.chg, hs.im0, fun b h0 h1 => hs.new b h0 h1, ⟨hs.mem.im, fun p hp => hs.mem.loc p (mem_dropL hp), fun p hp => hs.mem.sep p (mem_dropL hp), ?_⟩, fun p hp => hs.own p (mem_dropL hp), r, _, h1, (h2.dropL m).toK, h3⟩
      have := hs.mem.nodup
      rw [← List.take_append_drop m L', List.flatten_append, List.map_append, List.nodup_append] at this
      exact this.2.1⟩
theorem wpA.nilOwn {P : Program} {C : Ctx} {N : Nat} {Q : Exit → AEnv → AHeap → Prop} {σ : AEnv} {H : AHeap} {c : Code} (E : TypeId) (α : Type) [r : Rep α] (k : wpA P C N c Q σ ((true, .own E (.slice none 0 0) ([] : List α)) :: H)) : wpA P C N c Q σ H := fun ρ I L hs =>
  wpS.pad (k ρ I ([] :: L) ⟨hs.env, ⟨[], L, rfl, ⟨⟨[], OwnG.nil E _, rfl⟩, fun _ p hp => by cases hp⟩, hs.heap⟩, hs.im0⟩)
theorem OpP.shr64 {P : Program} {C : Ctx} {N : Nat} {σ : AEnv} {H : AHeap} {d : Option Nat} {ty : TypeId} {ps : String} {af : Array Edge} {g : Option (Nat × Bool)} {K : AV → Prop} {x y : Operand} {T T2 : TypeId} {m c : UInt64} (hx : EvA C σ H x (.v m)) (hy : EvA C σ H y (.v c)) (h0 : 0 ≤ c.toNat) (h1 : c.toNat < 64) (k : K (.v (m >>> c))) :
    OpP P N C ⟨d, .binOp .shr T x y T2, ty, ps, af, g⟩ σ H K :=
  .vk k (fun ρ I L hs => OpV.shr64 c.toNat (hx.by64 hs) (hy.by64 hs) rfl h1 ⟨[Fl.u64 (m >>> c)], rfl, by rw [UInt64.ofNat_toNat]; rfl⟩)
theorem OpP.conv64_8 {P : Program} {C : Ctx} {N : Nat} {σ : AEnv} {H : AHeap} {d : Option Nat} {ty : TypeId} {ps : String} {af : Array Edge} {g : Option (Nat × Bool)} {K : AV → Prop} {x : Operand} {S D : TypeId} {ds : TypeDesc} {m : UInt64} (hS : P.underlying S = some ds) (hD : P.underlying D = some (.int .u8)) (hx : EvA C σ H x (.v m)) (k : K (.v m.toUInt8)) :
    OpP P N C ⟨d, .convert S D x, ty, ps, af, g⟩ σ H K :=
  .vk k (fun ρ I L hs => OpV.conv64_8 hS hD (hx.by64 hs) ⟨[Fl.u8 m.toUInt8], rfl, rfl⟩)
end Go.Ab
set_option linter.unusedVariables false
namespace Go.Ab
open Go.Fl Go.RowKit
open Rep (rep)
structure SlRaw where
  v : Value
instance : Inhabited SlRaw := ⟨⟨.slice none 0 0⟩⟩
instance : Rep SlRaw where
  size := 1
  agg := false
  rep _ x cs := cs = [x.v] ∧ x.v.oneCell' = true
  len h := by simp [h.1]
  mono _ h := h
  one _ := rfl
  flat h := by simp [h.1, ones, h.2]
instance : RepZ SlRaw := ⟨[.slice none 0 0], fun _ => ⟨rfl, rfl⟩⟩
structure GS (α : Type) where
  E : TypeId
  l : List α
instance {α : Type} [Rep α] : UB (GS α) where
  ub I w x X := (X = [] ∧ RepV I (.vc x.l) w) ∨ (Blk.own x.E w x.l).brep I X
  mono hle h := h.elim (fun h => .inl ⟨h.1, h.2.mono hle⟩) (fun h => .inr (Blk.mono hle h))
theorem gs_one {α : Type} [Rep α] {I : Im} {w : Value} {x : GS α} {X : List (Nat × Obj)} (h : (Blk.usr w x).brep I X) : w.oneCell' = true := by
  rcases h with ⟨_, ⟨a, rfl⟩, _⟩ | ⟨xs, h, _⟩
  · rfl
  · obtain ⟨a, c, rfl⟩ := h.shape; rfl
theorem gs_frz {α : Type} [Rep α] {I J : Im} {w : Value} {x : GS α} {X : List (Nat × Obj)} (h : (Blk.usr w x).brep I X) (hle : Le I J) (hp : ∀ p ∈ X, J p.1 = some p.2) : RepV J (.v x.l) w := by
  rcases h with ⟨_, h⟩ | h
  · exact ⟨[w], ⟨w, rfl, by obtain ⟨xs, h1, h2⟩ := h.2; exact ⟨xs, h1.mono hle, h2.mono hle⟩⟩, rfl⟩
  · exact freeze_own h hle hp
theorem gs_le {α : Type} [Rep α] {I : Im} {w : Value} {x : GS α} {X : List (Nat × Obj)} (h : (Blk.usr w x).brep I X) : x.l.length ≤ 9223372036854775807 ∧ ∃ a c, w = .slice a x.l.length c := by
  rcases h with ⟨_, ⟨a, rfl⟩, xs, ⟨a', c, e, h2, h3, h4, _⟩, _⟩ | ⟨xs, h, _⟩
  · exact ⟨by unfold maxLen at h4; omega, _, _, rfl⟩
  · obtain ⟨a, c, rfl⟩ := h.shape
    exact ⟨h.le, _, _, rfl⟩
section rules
variable {P : Program} {C : Ctx} {N : Nat} {σ : AEnv} {H : AHeap} {d : Option Nat} {ty : TypeId} {ps : String} {af : Array Edge} {g : Option (Nat × Bool)} {K : AV → Prop} {KH : AV → AHeap → Prop} {x y z : Operand} {T T2 E S D U : TypeId} {o : Oper}
theorem OpP.raw {s : SlRaw} (h : OpP P N C o σ H (fun r => r = .v s)) (k : K (.raw s.v)) : OpP P N C o σ H K := fun ρ I L hs a w ha hm => by
  refine (h ρ I L hs a w ha hm).mono ?_
  rintro v w' ⟨J, X, q1, q2, q3, q4, q5, q6, r, q7, rfl⟩
  obtain ⟨cs, ⟨rfl, _⟩, rfl⟩ := q7
  exact ⟨J, X, q1, q2, q3, q4, q5, q6, .raw s.v, rfl, k⟩
theorem OpP.ldR {α : Type} {r : Rep α} {w : Value} {l : Lens α SlRaw} {a : α} {bb : Bool} {F : Bool × Blk → AHeap} (f : α → SlRaw) (tT : TyIs P T SlRaw) (hx : EvA C σ H x (.ln w l)) (hH : Hole H (bb, .ob w a) F) (hf : ∀ x, l.get x = f x) (k : K (.raw (f a).v)) :
    OpP P N C ⟨d, .load T x, ty, ps, af, g⟩ σ H K := .raw (.ldF f tT hx hH hf rfl) k
theorem EvA.gs {α : Type} {r : Rep α} {t : Nat} {w : Value} {s : GS α} {b : Bool} {F : Bool × Blk → AHeap} (ht : lookA σ t = some (.raw w)) (hH : Hole H (b, .usr w s) F) : EvA C σ H (.tmp t) (.v (SlRaw.mk w)) := fun ρ I L hs => by
  obtain ⟨u, h1, rfl⟩ := hs.env t _ ht
  obtain ⟨i, X, h2, h3, _⟩ := hH.get hs.heap
  exact ⟨_, h1, [u], ⟨rfl, gs_one h3.1⟩, rfl⟩
theorem EvL.gs {α : Type} {r : Rep α} {t : Nat} {w : Value} {s : GS α} {b : Bool} {F : Bool × Blk → AHeap} (ht : lookA σ t = some (.raw w)) (hH : Hole H (b, .usr w s) F) : EvL C σ H (.tmp t) (.v s.l) := fun ρ I L hs => by
  obtain ⟨u, h1, rfl⟩ := hs.env t _ ht
  obtain ⟨i, X, h2, h3, _⟩ := hH.get hs.heap
  exact ⟨_, h1, fun J hle hp => gs_frz h3.1 hle (fun p hpx => hp p (mem_chunk h2 hpx))⟩
theorem OpP.lenGS {α : Type} {r : Rep α} {t : Nat} {w : Value} {s : GS α} {b : Bool} {F : Bool × Blk → AHeap} (hT : P.underlying T = some (.slice E)) (hx : lookA σ t = some (.raw w)) (hH : Hole H (b, .usr w s) F) (k : K (.v (s.l.length : Int))) :
    OpP P N C ⟨d, .call ⟨.builtin .len, #[.tmp t], #[T]⟩, ty, ps, af, g⟩ σ H K :=
  .vk k (fun ρ I L hs => by
    obtain ⟨u, h1, rfl⟩ := hs.env t _ hx
    obtain ⟨i, X, h2, h3, _⟩ := hH.get hs.heap
    obtain ⟨hle, a, c, rfl⟩ := gs_le h3.1
    exact .len hT h1 ⟨_, ⟨rfl, by omega, by omega⟩, rfl⟩)
theorem wpA.gsCases {Q : Exit → AEnv → AHeap → Prop} {α : Type} {r : Rep α} {w : Value} {s : GS α} {b : Bool} {c : Code} {F : Bool × Blk → AHeap} (hH : Hole H (b, .usr w s) F) (k1 : wpA P C N c Q σ (F (b, .fz w (.vc s.l)))) (k2 : wpA P C N c Q σ (F (b, .own s.E w s.l))) : wpA P C N c Q σ H := fun ρ I L hs => by
  obtain ⟨i, X, h2, h3, h4⟩ := hH.get hs.heap
  have hset : L.set i X = L := by
    obtain ⟨hi, e⟩ := List.getElem?_eq_some_iff.1 h2
    rw [← e, List.set_getElem_self]
  rcases h3.1 with h | h
  · have := h4 I (b, .fz w (.vc s.l)) X (Le.refl I) ⟨h, h3.2⟩
    rw [hset] at this
    exact k1 ρ I L ⟨hs.env, this, hs.im0⟩
  · have := h4 I (b, .own s.E w s.l) X (Le.refl I) ⟨h, h3.2⟩
    rw [hset] at this
    exact k2 ρ I L ⟨hs.env, this, hs.im0⟩
theorem EvA.fzA {t : Nat} {w : Value} {a : AV} {b : Bool} {F : Bool × Blk → AHeap} (ht : lookA σ t = some (.raw w)) (hH : Hole H (b, .fz w a) F) : EvA C σ H (.tmp t) a := fun ρ I L hs => by
  obtain ⟨u, h1, rfl⟩ := hs.env t _ ht
  obtain ⟨i, X, h2, h3, _⟩ := hH.get hs.heap
  exact ⟨_, h1, h3.1.2⟩
theorem EvA.fzC {α : Type} {r : Rep α} {t : Nat} {w : Value} {l : List α} {b : Bool} {F : Bool × Blk → AHeap} (ht : lookA σ t = some (.raw w)) (hH : Hole H (b, .fz w (.vc l)) F) : EvA C σ H (.tmp t) (.v l) := fun ρ I L hs => by
  obtain ⟨u, h1, rfl⟩ := hs.env t _ ht
  obtain ⟨i, X, h2, h3, _⟩ := hH.get hs.heap
  exact ⟨_, h1, [u], ⟨u, rfl, h3.1.2.2⟩, rfl⟩
theorem wpA.name2 {Q : Exit → AEnv → AHeap → Prop} (t : Nat) {a A B : AV} (f : Value → Value → AV) {c : Code} (h : ∀ I u, RepV I a u → ∃ x y, RepV I (f x y) u ∧ RepV I A x ∧ RepV I B y) (ht : lookA σ t = some a)
    (k : ∀ x y, wpA P C N c Q ((t, f x y) :: σ) ((true, .fz x A) :: (true, .fz y B) :: H)) : wpA P C N c Q σ H := fun ρ I L hs => by
  obtain ⟨u, h1, h2⟩ := hs.env t _ ht
  obtain ⟨x, y, h3, h4, h5⟩ := h I u h2
  refine wpS.pad (wpS.pad (k x y ρ I ([] :: [] :: L) ⟨fun s b hb => ?_, ⟨[], _, rfl, ⟨⟨rfl, h4⟩, fun _ p hp => by cases hp⟩, ⟨[], L, rfl, ⟨⟨rfl, h5⟩, fun _ p hp => by cases hp⟩, hs.heap⟩⟩, hs.im0⟩))
  rw [lookA_cons] at hb
  by_cases e : t = s
  · subst e; simp at hb; subst hb; exact ⟨u, h1, h3⟩
  · rw [if_neg e] at hb; exact hs.env s b hb
theorem appendX {α : Type} {r : Rep α} {i0 : Inhabited α} {by_ : Nat} {l m : List α} {ρ : Env} {I : Im} {L : Lh} {v : Value} {xs news : List Value} {a0 : Option Addr} (st : SlT P T E α by_) (hU : (∃ E2, P.underlying U = some (.slice E2)) ∨ P.underlying U = some .string)
    (h1 : ev ρ x = some (.slice a0 l.length l.length)) (hsl : Sl I (Rep.size α) (.slice a0 l.length l.length) l.length xs) (hrl : repL I l xs) (h2 : ev ρ y = some v) (h3 : Src P I L (Rep.size α) v m.length news) (h4 : repL I m news)
    (hb : (l.length + m.length) * by_ ≤ 140737488355328) (hn : l.length + m.length ≤ 9223372036854775807) :
    OpX P N ⟨d, .call ⟨.builtin .append, #[x, y], #[T, U]⟩, ty, ps, af, g⟩ ρ I L (fun v' J X => J = I ∧ ((X = [] ∧ m = [] ∧ v' = .slice a0 l.length l.length) ∨ ∃ Y, X = [Y] ∧ OwnG E (Rep.size α) v' (l.length + m.length) (xs ++ news) Y)) := by
  obtain ⟨inf, zv, e1, e2, e3, e4, e5⟩ := st.elt.info
  refine OpX.push fun a w ha hm => ?_
  have hcells : ∀ w', w'.heap = w.heap → (Builtin.firstCells inf.size m.length v).run P w' = .ok news.toArray w' := fun w' hw => by
    have hm' : Mem I L w' := ⟨by rw [hw]; exact hm.im, by rw [hw]; exact hm.loc, hm.sep, hm.nodup⟩
    have := h3.cells w' hm' m.length (Nat.le_refl _)
    rw [← h3.size, List.take_length, ← e3] at this; exact this
  have hboth : (l.length + m.length ≤ l.length → (Builtin.append_ #[T, U] ty #[.slice a0 l.length l.length, v]).run P w = ((match a0 with | some ad => storeCells (ad.add (l.length * inf.size)) news | none => pure ()).run P w).andThen fun _ w' => .ok (.slice a0 (l.length + m.length) l.length) w') ∧
    (l.length < l.length + m.length → ∀ olds, ((Builtin.firstCells inf.size l.length (.slice a0 l.length l.length)).run P w.drew = .ok olds w.drew) →
      (Builtin.append_ #[T, U] ty #[.slice a0 l.length l.length, v]).run P w = .ok (.slice (some ⟨w.heap.size, 0, none⟩) (l.length + m.length) (grownCap w (l.length + m.length) l.length E))
        (w.drew.alloc (.cells (olds ++ news.toArray ++ Builtin.zeroCells zv.cells (grownCap w (l.length + m.length) l.length E - (l.length + m.length))) E))) := by
    rcases hU with ⟨E2, hU⟩ | hU
    · exact run_append_sl st.elt.und e1 e2 hU h3.len hcells hn (by rw [e4]; exact hb)
    · exact run_append_str st.elt.und e1 e2 hU h3.len hcells hn (by rw [e4]; exact hb)
  have hop : ∀ r, (Builtin.append_ #[T, U] ty #[.slice a0 l.length l.length, v]).run P w = r → (execOp a.eval ⟨d, .call ⟨.builtin .append, #[x, y], #[T, U]⟩, ty, ps, af, g⟩).run P w = r.andThen fun v w' => .ok (.value v) w' := fun r hr => by
    simp [execOp, resolve, invoke, builtin, ha.ev h1, ha.ev h2, hr]
  by_cases h0 : m.length = 0
  · have hm0 : m = [] := List.eq_nil_of_length_eq_zero h0
    subst hm0
    have hnw : news = [] := by simpa [repL] using h4
    subst hnw
    left
    refine ⟨.slice a0 l.length l.length, ?_, rfl, .inl ⟨rfl, rfl, rfl⟩⟩
    rw [hop _ (hboth.1 (by simp))]
    cases a0 <;> simp [storeCells]
  · right
    have hold : (Builtin.firstCells inf.size l.length (.slice a0 l.length l.length)).run P w.drew = .ok xs.toArray w.drew := by
      have hm' : Mem I L w.drew := ⟨hm.im, hm.loc, hm.sep, hm.nodup⟩
      have := (Src.sl (P := P) (L := L) hsl).cells w.drew hm' l.length (Nat.le_refl _)
      rw [← hsl.len, List.take_length, ← e3] at this; exact this
    have hr := hboth.2 (by omega) _ hold
    have hge := grownCap_ge w (l.length + m.length) l.length E
    have hcm : grownCap w (l.length + m.length) l.length E ≤ maxLen := grownCap_le_maxLen w _ _ E (by unfold maxLen; omega)
    refine ⟨.slice (some ⟨w.heap.size, 0, none⟩) (l.length + m.length) (grownCap w (l.length + m.length) l.length E), w.drew.alloc (.cells (xs.toArray ++ news.toArray ++ Builtin.zeroCells zv.cells (grownCap w (l.length + m.length) l.length E - (l.length + m.length))) E),
      .cells (xs.toArray ++ news.toArray ++ Builtin.zeroCells zv.cells (grownCap w (l.length + m.length) l.length E - (l.length + m.length))) E, by rw [hop _ hr]; rfl, rfl, rfl, rfl, rfl, rfl, .inr ⟨_, rfl, ?_⟩⟩
    have hxl : xs.length = l.length * Rep.size α := hsl.len
    have hnl : news.length = m.length * Rep.size α := h3.size
    refine .inr ⟨w.heap.size, grownCap w (l.length + m.length) l.length E, (Builtin.zeroCells zv.cells (grownCap w (l.length + m.length) l.length E - (l.length + m.length))).toList, (0, 0), rfl, ?_, ?_, ?_, hge, hcm, .inl rfl⟩
    · congr 3
      apply Array.ext'; simp
    · rw [List.length_append, hxl, hnl, Nat.add_mul]
    · have hz : (Builtin.zeroCells zv.cells (grownCap w (l.length + m.length) l.length E - (l.length + m.length))).size = (grownCap w (l.length + m.length) l.length E - (l.length + m.length)) * Rep.size α := by
        rw [size_zeroCells, e5]
      simp only [List.length_append, Array.length_toList, hz, hxl, hnl, ← Nat.add_mul]
      congr 1; omega
theorem OpH.appendGS {α : Type} {r : Rep α} {i0 : Inhabited α} {by_ t : Nat} {w : Value} {l m : List α} {bb : Bool} {F : Bool × Blk → AHeap} (st : SlT P T E α by_) (hU : (∃ E2, P.underlying U = some (.slice E2)) ∨ P.underlying U = some .string) (hx : lookA σ t = some (.raw w))
    (hH : Hole H (bb, .usr w (GS.mk E l)) F) (hy : SrcA P C σ H y m) (hb : (l.length + m.length) * by_ ≤ 140737488355328) (hn : l.length + m.length ≤ 9223372036854775807) (k : ∀ w', KH (.raw w') (F (bb, .usr w' (GS.mk E (l ++ m))))) :
    OpH P C N ⟨d, .call ⟨.builtin .append, #[.tmp t, y], #[T, U]⟩, ty, ps, af, g⟩ σ H KH := fun ρ I L hs => by
  obtain ⟨u, h1, rfl⟩ := hs.env t _ hx
  obtain ⟨v, news, h2, h3, h4⟩ := hy ρ I L hs
  obtain ⟨j, X, h5, h6, h7⟩ := hH.get hs.heap
  have hfr := h6.2
  have hall : (n0 : Nat) → n0 = C.w0.heap.size → ∀ v' J (X' : List (Nat × Obj)), J = I → (Blk.usr v' (GS.mk E (l ++ m))).brep J X' → (∀ p ∈ X', p.1 ∈ X.map Prod.fst ∨ C.w0.heap.size ≤ p.1) →
      Le I J ∧ ∃ r H', RepV J r v' ∧ repH C.w0.heap.size J H' (L.set j X') ∧ KH r H' := fun n0 hn0 v' J X' hJ hbr hnew => by
    subst hJ
    refine ⟨Le.refl J, .raw v', _, rfl, h7 J (bb, .usr v' (GS.mk E (l ++ m))) X' (Le.refl J) ⟨hbr, fun hbb p hp => ?_⟩, k v'⟩
    rcases hnew p hp with h | h
    · obtain ⟨q, hq, hqe⟩ := List.mem_map.1 h
      rw [← hqe]; exact hfr hbb q hq
    · exact h
  have hal := hall _ rfl
  rcases h6.1 with ⟨rfl, ⟨a0, rfl⟩, xs, hsl, hrl⟩ | ⟨xs, h8, h9⟩
  · intro a w0 ha hst
    refine Yld.mono (appendX (x := .tmp t) st hU (show ev ρ (.tmp t) = _ from h1) hsl hrl h2 h3 h4 hb hn a w0 ha hst.mem) ?_
    rintro v' w' ⟨J, X', q1, q2, q3, q4, q5, rfl, ⟨rfl, rfl, rfl⟩ | ⟨Y, rfl, hown⟩⟩
    · have hset : L.set j [] = L := by
        obtain ⟨hi, e⟩ := List.getElem?_eq_some_iff.1 h5
        rw [← e, List.set_getElem_self]
      have h10 := hal _ J [] rfl (by rw [List.append_nil]; exact .inl ⟨rfl, ⟨_, rfl⟩, xs, hsl, hrl⟩) (by simp)
      rw [hset] at h10
      exact ⟨J, _, hst.step q1 q2 q3 q4 q5, by simpa using h10⟩
    · have hstep := hst.step q1 q2 q3 q4 q5
      refine ⟨J, L.set j Y, stPerm hstep (by simpa using flatten_move h5 Y), hal _ J Y rfl (.inr ⟨xs ++ news, by rw [List.length_append]; exact hown, hrl.append h4⟩) fun p hp => .inr (Nat.le_trans hst.chg.size (q5 p (by simpa using hp)))⟩
  · intro a w0 ha hst
    refine Yld.mono (OpS.appendG (K := fun v' J L' => ∃ X', L' = L.set j X' ∧ J = I ∧ OwnG E (Rep.size α) v' (l.length + m.length) (xs ++ news) X' ∧ (∀ p ∈ X', p.1 ∈ X.map Prod.fst ∨ C.w0.heap.size ≤ p.1)) j st.elt st.pos hU (x := .tmp t) h1 h2 h5 h8 h3 h4.flat (by unfold maxLen; omega) hb (fun v' X' ho hn => ⟨X', rfl, rfl, ho, hn⟩) a w0 ha hst) ?_
    rintro v' w' ⟨J, L', hst', X', rfl, rfl, ho, hnew⟩
    exact ⟨J, _, hst', hal v' J X' rfl (.inr ⟨xs ++ news, by rw [List.length_append]; exact ho, h9.append h4⟩) hnew⟩
end rules
def Sel (H : AHeap) (Hs : List Blk) : Prop := ∀ n0 I L, repH n0 I H L → ∃ L' R, (L'.flatten ++ R).Perm L.flatten ∧ repK I Hs L'
theorem Sel.nil {H : AHeap} : Sel H [] := fun n0 I L h => ⟨[], L.flatten, by simp, rfl⟩
theorem Sel.cons {H : AHeap} {b : Bool} {B : Blk} {Hs : List Blk} {F : Bool × Blk → AHeap} (hh : Hole H (b, B) F) (h : Sel (F hole0) Hs) : Sel H (B :: Hs) := fun n0 I L hL => by
  obtain ⟨i, X, h1, h2, h3⟩ := hh.get hL
  have h4 := h3 I hole0 [] (Le.refl I) ⟨⟨rfl, trivial⟩, fun _ p hp => by cases hp⟩
  obtain ⟨L', R, h5, h6⟩ := h n0 I _ h4
  refine ⟨X :: L', R, ?_, X, L', rfl, h2.1, h6⟩
  have h7 : (L.set i [])[i]? = some [] := by
    have hi := (List.getElem?_eq_some_iff.1 h1).1
    simp [hi]
  have h8 := flatten_move h7 X
  have h9 : (L.set i []).set i X = L := by
    obtain ⟨hi, e⟩ := List.getElem?_eq_some_iff.1 h1
    rw [List.set_set, ← e, List.set_getElem_self]
  rw [h9] at h8
  rw [List.flatten_cons, List.append_assoc]
  exact (List.Perm.append_left X h5).trans h8.symm
theorem Sel.gs {H : AHeap} {b : Bool} {α : Type} {r : Rep α} {w : Value} {s : GS α} {Hs : List Blk} {F : Bool × Blk → AHeap} {B : Blk} (hB : ∀ I X, B.brep I X → (Blk.usr w s).brep I X) (hh : Hole H (b, B) F) (h : Sel (F hole0) Hs) : Sel H (.usr w s :: Hs) := fun n0 I L hL => by
  obtain ⟨L', R, h1, X, L2, rfl, h2, h3⟩ := Sel.cons hh h n0 I L hL
  exact ⟨X :: L2, R, h1, X, L2, rfl, hB I X h2, h3⟩
theorem Sel.gsC {H : AHeap} {b : Bool} {α : Type} {r : Rep α} {w : Value} {s : GS α} {Hs : List Blk} {F : Bool × Blk → AHeap} (hh : Hole H (b, .fz w (.vc s.l)) F) (h : Sel (F hole0) Hs) : Sel H (.usr w s :: Hs) := .gs (B := .fz w (.vc s.l)) (fun I X h => .inl h) hh h
theorem Sel.gsO {H : AHeap} {b : Bool} {α : Type} {r : Rep α} {w : Value} {s : GS α} {Hs : List Blk} {F : Bool × Blk → AHeap} (hh : Hole H (b, .own s.E w s.l) F) (h : Sel (F hole0) Hs) : Sel H (.usr w s :: Hs) := .gs (B := .own s.E w s.l) (fun I X h => .inr h) hh h
theorem FunH.introS {G : Gl} {P : Program} {f : FuncId} {fn : Func} {c : Code} {ags : List AV} {Hs : List Blk} {post : AV → List Blk → Prop} (hf : P.funcs[f]? = some fn) (hb : fn.body = some c) (hn : (fn.name == "runtime.NumGoroutine") = false)
    (N : Nat) (hN : fn.ntmps = N) (hl : Nat.ble ags.length N = true) (σ : AEnv) (hσ : argA ags 0 = σ) (H0 : AHeap) (hH : lentB Hs = H0)
    (h : ∀ C : Ctx, Ctx.Ok C → G.p C.I0 → wpA P C N c (endA P fn C (fun r H => ∃ Hs', Sel H Hs' ∧ post r Hs')) σ H0) : FunH G P f ags Hs post := fun I L vs hG hvs hL =>
  ⟨⟨fn, hf, hn, by simp [hb]⟩, fun w hm => calls_body hf hb N hN (by rw [hvs.len]; exact hl) hm (M := L.flatten.map Prod.fst) (fun p hp => List.mem_map_of_mem hp)
    ((h ⟨w, L.flatten.map Prod.fst, I, none⟩ (fun k hk => by
        obtain ⟨p, hp, rfl⟩ := List.mem_map.1 hk
        exact lt_of_get (hm.loc p hp)) hG (argEnv vs 0) I L ⟨by rw [← hσ]; exact hvs.env 0, by rw [← hH, lentB_eq]; exact hL.toH, Le.refl I⟩).mono fun e ρ J L hq => endA.q hq)
    fun v J L' w' hs hp => by
      obtain ⟨r, H, h1, h2, Hs', h3, h4⟩ := hp
      obtain ⟨L2, R, h5, h6⟩ := h3 _ J L' h2
      have hin : ∀ p ∈ L2.flatten, p ∈ L'.flatten := fun p hp => h5.mem_iff.1 (List.mem_append_left _ hp)
      refine ⟨v, J, L2, rfl, hs.chg, hs.im0, fun b h0 h1 => hs.new b h0 h1, ⟨hs.mem.im, fun p hp => hs.mem.loc p (hin p hp), fun p hp => hs.mem.sep p (hin p hp), ?_⟩, fun p hp => hs.own p (hin p hp), r, _, h1, h6, h4⟩
      have := (h5.map Prod.fst).nodup_iff.2 hs.mem.nodup
      rw [List.map_append, List.nodup_append] at this
      exact this.1⟩
theorem FunH.mono {G : Gl} {P : Program} {f : FuncId} {ags : List AV} {Hs : List Blk} {post post' : AV → List Blk → Prop} (h : FunH G P f ags Hs post) (hp : ∀ r Hs, post r Hs → post' r Hs) : FunH G P f ags Hs post' := fun I L vs hG hvs hL => by
  have hM := h I L vs hG hvs hL
  refine ⟨hM.ok, fun w hm => (hM.run w hm).mono ?_⟩
  rintro e w' ⟨v, J, L', rfl, q1, q2, q3, q4, q5, r, Hs', q6, q7, q8⟩
  exact ⟨v, J, L', rfl, q1, q2, q3, q4, q5, r, Hs', q6, q7, hp r Hs' q8⟩
theorem FunA.gs {G : Gl} {P : Program} {f : FuncId} {ags : List AV} {α : Type} [r : Rep α] {l : List α} (E : TypeId) (h : FunA G P f ags (fun r => r = .vc l)) : FunH G P f ags [] (fun r Hs => ∃ u, r = .raw u ∧ Hs = [.usr u (GS.mk E l)]) := fun I L vs hG hvs hL => by
  have hL0 : L = [] := hL
  subst hL0
  have hF := h I vs hG hvs
  refine ⟨hF.ok, fun w hm => (hF.run w hm).mono ?_⟩
  rintro e w' ⟨v, J, rfl, q1, q2, q3, q4, r, q5, rfl⟩
  exact ⟨v, J, [[]], rfl, by simpa using q1, q2, q3, ⟨q4.im, by simp, by simp, by simp⟩, by simp, .raw v, [.usr v (GS.mk E l)], rfl, ⟨[], [], rfl, .inl ⟨rfl, q5⟩, rfl⟩, v, rfl, rfl⟩
theorem FunH.regroup {G : Gl} {P : Program} {f : FuncId} {ags : List AV} {B0 : List Blk} {post : AV → List Blk → Prop}
    (h : ∀ I L vs, RepVs I ags vs → repK I B0 L → ∃ as' Bs L0, L0.flatten = L.flatten ∧ RepVs I as' vs ∧ repK I Bs L0 ∧ FunH G P f as' Bs (fun r Hs => ∀ J L1, repK J Hs L1 → ∃ Hs2 L2, L2.flatten = L1.flatten ∧ repK J Hs2 L2 ∧ post r Hs2)) : FunH G P f ags B0 post := fun I L vs hG hvs hL => by
  obtain ⟨as', Bs, L0, e, hvs', hB, hF⟩ := h I L vs hvs hL
  have hM := hF I L0 vs hG hvs' hB
  refine ⟨hM.ok, fun w hm => (hM.run w ⟨hm.im, by rw [e]; exact hm.loc, by rw [e]; exact hm.sep, by rw [e]; exact hm.nodup⟩).mono ?_⟩
  rintro e' w' ⟨v, J, L', rfl, q1, q2, q3, q4, q5, r, Hs', q6, q7, q8⟩
  obtain ⟨Hs2, L2, e2, q9, q10⟩ := q8 J L' q7
  rw [e] at q1 q5
  exact ⟨v, J, L2, rfl, q1, q2, q3, ⟨q4.im, by rw [e2]; exact q4.loc, by rw [e2]; exact q4.sep, by rw [e2]; exact q4.nodup⟩, by rw [e2]; exact q5, r, Hs2, q6, q9, q10⟩
end Go.Ab
set_option linter.unusedVariables false
namespace Go.Ab
open Go.Fl Go.RowKit
open Rep (rep)
def leB : List Bool → List Bool → Bool
  | [], _ => true
  | a :: ags, [] => !a && leB ags []
  | a :: ags, b :: bs => (!a || b) && leB ags bs
theorem famT_nil (H : AHeap) (f : Nat → Bool × Blk) (k : Nat) : famT [] H f k = H := by simp [famT]
theorem famT_le : ∀ {a b : List Bool}, leB a b = true → ∀ (H : AHeap) (f : Nat → Bool × Blk) (k : Nat), ∃ f', famT a H f k = famT b H f' k
  | a, b, h, [], f, k => ⟨f, by cases a <;> cases b <;> simp [famT]⟩
  | [], b, h, B :: H, f, k => ⟨fun j => (B :: H).getD (j - k) hole0, by
      rw [famT_nil]
      have key : ∀ (b : List Bool) (G : AHeap) (j : Nat), (∀ m, m < G.length → (B :: H).getD (j + m - k) hole0 = G.getD m hole0) → G = famT b G (fun j => (B :: H).getD (j - k) hole0) j := by
        intro b
        induction b with
        | nil => intro G j _; rw [famT_nil]
        | cons x b ih =>
          intro G j hG
          cases G with
          | nil => simp [famT]
          | cons A G =>
            have h0 := hG 0 (by simp)
            simp only [famT]
            have h1 : (bif x then (B :: H).getD (j - k) hole0 else A) = A := by
              cases x
              · rfl
              · simpa using h0
            rw [h1, ← ih G (j + 1) (fun m hm => by
              have := hG (m + 1) (by simp; omega)
              rw [show j + 1 + m - k = j + (m + 1) - k by omega, this]; simp)]
      exact key b (B :: H) k (fun m hm => by rw [show k + m - k = m by omega])⟩
  | x :: a, [], h, B :: H, f, k => by
    simp only [leB, Bool.and_eq_true, Bool.not_eq_true'] at h
    obtain ⟨f', hf'⟩ := famT_le (b := []) h.2 H f (k + 1)
    rw [famT_nil] at hf'
    exact ⟨f, by rw [famT_nil]; simp only [famT, h.1, cond_false, hf']⟩
  | x :: a, y :: b, h, B :: H, f, k => by
    simp only [leB, Bool.and_eq_true] at h
    obtain ⟨f', hf'⟩ := famT_le h.2 H f (k + 1)
    have hcongr : ∀ (b : List Bool) (H : AHeap) (f g : Nat → Bool × Blk) (k : Nat), (∀ j, k ≤ j → f j = g j) → famT b H f k = famT b H g k := by
      intro b
      induction b with
      | nil => intro H f g k _; rw [famT_nil, famT_nil]
      | cons x b ih =>
        intro H f g k hfg
        cases H with
        | nil => simp [famT]
        | cons A H => simp only [famT]; rw [hfg k (Nat.le_refl _), ih H f g (k + 1) (fun j hj => hfg j (by omega))]
    refine ⟨fun j => if j = k then (bif x then f k else B) else f' j, ?_⟩
    simp only [famT, if_true]
    rw [hf', hcongr b H f' (fun j => if j = k then (bif x then f k else B) else f' j) (k + 1) (fun j hj => by rw [if_neg (by omega)])]
    cases x with
    | false => cases y <;> rfl
    | true =>
      have : y = true := by simpa using h.1
      subst this; rfl
def chainQ (P : Program) (N : Nat) (C : Ctx) (σ0 : AEnv) {ι : Type 1} (HT : Nat → ι → AHeap) (ci : List Nat) (F : List (Nat × AV) → Prop) : List Oper → List (List (Nat × Nat)) → Nat → List (Nat × AV) → Prop
  | [], _, _, acc => F acc
  | o :: os, s :: ss, k, acc => bif ci.contains k then chainQ P N C σ0 HT ci F os ss (k + 1) acc ∨ ∃ r, chainQ P N C σ0 HT ci F os ss (k + 1) ((k, r) :: acc) else ∃ r, dutyQ P N C σ0 (HT k) acc o s r ∧ chainQ P N C σ0 HT ci F os ss (k + 1) ((k, r) :: acc)
  | _, [], _, _ => False
theorem chainQ_elim {P : Program} {N : Nat} {C : Ctx} {σ0 : AEnv} {ι : Type 1} {HT : Nat → ι → AHeap} {ci : List Nat} {F : List (Nat × AV) → Prop} : ∀ (os : List Oper) (ss : List (List (Nat × Nat))) (k : Nat) (acc : List (Nat × AV)), (∀ j r, lookR acc j = some r → j < k) → chainQ P N C σ0 HT ci F os ss k acc →
    ∃ full, F full ∧ (∀ j, j < k → lookR full j = lookR acc j) ∧
      ∀ i o s, os[i]? = some o → ss[i]? = some s → k + i ∉ ci → ∃ r acc', lookR full (k + i) = some r ∧ dutyQ P N C σ0 (HT (k + i)) acc' o s r ∧ ∀ j, j < k + i → lookR acc' j = lookR full j
  | [], ss, k, acc, hacc, h => ⟨acc, by cases ss <;> exact h, fun _ _ => rfl, fun i o s ho => by simp at ho⟩
  | o :: os, [], k, acc, _, h => h.elim
  | o :: os, s :: ss, k, acc, hacc, h => by
    simp only [chainQ] at h
    have hacc2 : ∀ r, ∀ j q, lookR ((k, r) :: acc) j = some q → j < k + 1 := fun r j q hj => by
      rw [lookR_cons] at hj
      by_cases e : k = j
      · omega
      · rw [if_neg e] at hj; have := hacc j q hj; omega
    cases hc : ci.contains k with
    | true =>
      rw [hc] at h
      simp only [cond_true] at h
      have fin : ∀ acc2, (∀ j, j < k → lookR acc2 j = lookR acc j) → (∀ j r, lookR acc2 j = some r → j < k + 1) → chainQ P N C σ0 HT ci F os ss (k + 1) acc2 → ∃ full, F full ∧ (∀ j, j < k → lookR full j = lookR acc j) ∧
          ∀ i o' s', (o :: os)[i]? = some o' → (s :: ss)[i]? = some s' → k + i ∉ ci → ∃ r acc', lookR full (k + i) = some r ∧ dutyQ P N C σ0 (HT (k + i)) acc' o' s' r ∧ ∀ j, j < k + i → lookR acc' j = lookR full j := fun acc2 ha hb h => by
        obtain ⟨full, hF, h1, h3⟩ := chainQ_elim os ss (k + 1) acc2 hb h
        refine ⟨full, hF, fun j hj => (h1 j (by omega)).trans (ha j hj), fun i o' s' ho hs hni => ?_⟩
        cases i with
        | zero => exact absurd (by simpa using hc) hni
        | succ i =>
          have e : k + (i + 1) = k + 1 + i := by omega
          rw [e]
          exact h3 i o' s' (by simpa using ho) (by simpa using hs) (by rw [← e]; exact hni)
      rcases h with h | ⟨r, h⟩
      · exact fin acc (fun _ _ => rfl) (fun j r hj => Nat.lt_succ_of_lt (hacc j r hj)) h
      · exact fin ((k, r) :: acc) (fun j hj => by rw [lookR_cons, if_neg (by omega)]) (hacc2 r) h
    | false =>
      rw [hc] at h
      simp only [cond_false] at h
      obtain ⟨r, hd, h⟩ := h
      obtain ⟨full, hF, h1, h3⟩ := chainQ_elim os ss (k + 1) ((k, r) :: acc) (hacc2 r) h
      refine ⟨full, hF, fun j hj => by rw [h1 j (by omega), lookR_cons, if_neg (by omega)], fun i o' s' ho hs hni => ?_⟩
      cases i with
      | zero =>
        simp only [List.getElem?_cons_zero, Option.some.injEq] at ho hs
        subst ho; subst hs
        refine ⟨r, acc, by rw [Nat.add_zero, h1 k (by omega), lookR_cons, if_pos rfl], hd, fun j hj => ?_⟩
        rw [Nat.add_zero] at hj
        rw [h1 j (by omega), lookR_cons, if_neg (by omega)]
      | succ i =>
        have e : k + (i + 1) = k + 1 + i := by omega
        rw [e]
        exact h3 i o' s' (by simpa using ho) (by simpa using hs) (by rw [← e]; exact hni)
def famOk (ops : Array Oper) (n : Nat) (ks ci : List Nat) (bks qs : List (List Bool)) : Bool :=
  (List.range n).all fun i => ks.contains i || ci.contains i || (List.range (ci.length + 1)).all fun k => (List.range k).any (fun m => match ci[m]? with | some j => Region.waitsFor .any ops j i | none => false) || leB (bks.getD k []) (qs.getD i [])
theorem envOf_congr' {σ0 : AEnv} {a b : List (Nat × AV)} {s : List (Nat × Nat)} : ∀ {ts : List Nat}, (∀ t ∈ ts, ∀ j, srcOf s t = some j → lookR a j = lookR b j) → envOf σ0 a s ts = envOf σ0 b s ts
  | [], _ => rfl
  | t :: ts, h => by
    simp only [envOf]
    have h1 := envOf_congr' (σ0 := σ0) (fun u hu => h u (List.mem_cons_of_mem _ hu))
    cases hs : srcOf s t with
    | none => simp only [h1]
    | some j => simp only [h t List.mem_cons_self j hs, h1]
def lateQ (P : Program) (N : Nat) (C : Ctx) (σ0 : AEnv) {ι : Type 1} (HT : ι → AHeap) (acc : List (Nat × AV)) (o : Oper) (s : List (Nat × Nat)) (r : AV) : Prop := ∀ Hp, OpP P N C o (envOf σ0 acc s (opTmps o)) (HT Hp) (fun r' => r' = r)
def prom (P : Program) (N : Nat) (C : Ctx) (σ0 : AEnv) {ι : Type 1} (HT : Nat → ι → AHeap) (accP : List (Nat × AV)) : List (Nat × Oper × List (Nat × Nat)) → List (Nat × AV) → (List (Nat × AV) → Prop) → Prop
  | [], c, K => K c
  | (i, o, s) :: rest, c, K => ∃ r, lateQ P N C σ0 (HT i) (c ++ accP) o s r ∧ prom P N C σ0 HT accP rest ((i, r) :: c) K
def srcFree (ss : List (List (Nat × Nat))) (i : Nat) (L : List Nat) : Bool := match ss[i]? with | some s => s.all (fun p => !(L.contains p.2)) | none => true
theorem srcFree_get {ss : List (List (Nat × Nat))} {i : Nat} {L : List Nat} {s : List (Nat × Nat)} (h : srcFree ss i L = true) (hs : ss[i]? = some s) {t j : Nat} (hj : srcOf s t = some j) : j ∉ L := by
  unfold srcFree at h
  rw [hs] at h
  have h2 := List.all_eq_true.1 h (t, j) (srcOf_mem hj)
  simpa using h2
def lateL (ss : List (List (Nat × Nat))) : List Nat → Bool
  | [] => true
  | i :: r => srcFree ss i (i :: r) && !(r.contains i) && lateL ss r
theorem prom_elim {P : Program} {N : Nat} {C : Ctx} {σ0 : AEnv} {ι : Type 1} {HT : Nat → ι → AHeap} {accP : List (Nat × AV)} {l : List Oper} {ss : List (List (Nat × Nat))} {K : List (Nat × AV) → Prop} : ∀ {L : List Nat} {c : List (Nat × AV)}, lateL ss L = true → prom P N C σ0 HT accP (clOf l ss L) c K →
    ∃ c', K c' ∧ (∀ j, j ∉ L → lookR c' j = lookR c j) ∧ ∀ i o s, i ∈ L → l[i]? = some o → ss[i]? = some s → ∃ r, lookR c' i = some r ∧ lateQ P N C σ0 (HT i) (c' ++ accP) o s r
  | [], c, _, h => ⟨c, h, fun _ _ => rfl, fun i o s hi => by cases hi⟩
  | i :: L, c, hL, h => by
    simp only [lateL, Bool.and_eq_true, Bool.not_eq_true', List.contains_eq_mem, decide_eq_false_iff_not] at hL
    obtain ⟨⟨h1, h2⟩, h3⟩ := hL
    cases ho : l[i]? with
    | none =>
      simp only [clOf, ho] at h
      obtain ⟨c', k1, k2, k3⟩ := prom_elim h3 h
      exact ⟨c', k1, fun j hj => k2 j (fun hx => hj (List.mem_cons_of_mem _ hx)), fun i' o s hi ho' hs => by
        rcases List.mem_cons.1 hi with rfl | hi
        · rw [ho] at ho'; cases ho'
        · exact k3 i' o s hi ho' hs⟩
    | some o =>
      cases hs : ss[i]? with
      | none =>
        simp only [clOf, ho, hs] at h
        obtain ⟨c', k1, k2, k3⟩ := prom_elim h3 h
        exact ⟨c', k1, fun j hj => k2 j (fun hx => hj (List.mem_cons_of_mem _ hx)), fun i' o s hi ho' hs' => by
          rcases List.mem_cons.1 hi with rfl | hi
          · rw [hs] at hs'; cases hs'
          · exact k3 i' o s hi ho' hs'⟩
      | some s =>
        simp only [clOf, ho, hs, prom] at h
        obtain ⟨r, hd, h⟩ := h
        obtain ⟨c', k1, k2, k3⟩ := prom_elim h3 h
        refine ⟨c', k1, fun j hj => ?_, fun i' o' s' hi ho' hs' => ?_⟩
        · rw [List.mem_cons, not_or] at hj
          rw [k2 j hj.2, lookR_cons, if_neg (Ne.symm hj.1)]
        · rcases List.mem_cons.1 hi with rfl | hi
          · rw [ho] at ho'; cases ho'
            rw [hs] at hs'; cases hs'
            refine ⟨r, by rw [k2 i' h2, lookR_cons, if_pos rfl], fun Hp => ?_⟩
            have he : envOf σ0 (c' ++ accP) s (opTmps o) = envOf σ0 (c ++ accP) s (opTmps o) := envOf_congr' fun t _ j hj => by
              have hj2 := srcFree_get h1 hs hj
              rw [List.mem_cons, not_or] at hj2
              rw [lookR_append, lookR_append, k2 j hj2.2, lookR_cons, if_neg (Ne.symm hj2.1)]
            rw [he]; exact hd Hp
          · exact k3 i' o' s' hi ho' hs'
section
variable (P : Program) (C : Ctx) (N : Nat) (σ0 : AEnv) (bs : Nat → List Bool) (HT : Nat → (AHeap × (Nat → Bool × Blk)) → AHeap) (lps : Nat → List (Nat × Oper × List (Nat × Nat))) (H0 : AHeap) (accP : List (Nat × AV)) (al : List (Nat × AT)) (F : List (Nat × AV) → AHeap → AHeap → Prop)
def planZ : List (Nat × Oper × List (Nat × Nat)) → Nat → List (Nat × AV) → AHeap → AHeap → Prop
  | [], k, cacc, Zs, Hr => (∃ f, Hr = famT (bs k) H0 f 0) ∧ ∀ ws : Nat → Nat, F (cacc ++ rA ws al) (Zs ++ (al.map fun p => p.2.blk (ws p.1))) Hr
  | (i, o, s) :: rest, k, cacc, Zs, Hr => (∃ f, Hr = famT (bs k) H0 f 0) ∧ ∀ Ys : AHeap,
    match lookR accP i with
    | none => OpH P C N o (envOf σ0 (cacc ++ accP) s (opTmps o)) (Zs ++ (Ys ++ Hr)) (fun r H' => ∃ Zs' Hr', H' = Zs' ++ (Ys ++ Hr') ∧ prom P N C σ0 HT accP (lps (k + 1)) ((i, r) :: cacc) (fun c => planZ rest (k + 1) c Zs' Hr'))
    | some r0 => OpH P C N o (envOf σ0 (cacc ++ accP) s (opTmps o)) (Zs ++ (Ys ++ Hr)) (fun r H' => r = r0 ∧ ∃ Zs' Hr', H' = Zs' ++ (Ys ++ Hr') ∧ prom P N C σ0 HT accP (lps (k + 1)) ((i, r0) :: cacc) (fun c => planZ rest (k + 1) c Zs' Hr'))
end
theorem planZ.fam {P : Program} {C : Ctx} {N : Nat} {σ0 : AEnv} {bs : Nat → List Bool} {HT : Nat → (AHeap × (Nat → Bool × Blk)) → AHeap} {lps : Nat → List (Nat × Oper × List (Nat × Nat))} {H0 : AHeap} {accP : List (Nat × AV)} {al : List (Nat × AT)} {F : List (Nat × AV) → AHeap → AHeap → Prop} {l : List (Nat × Oper × List (Nat × Nat))} {k : Nat} {cacc : List (Nat × AV)} {Zs Hr : AHeap}
    (h : planZ P C N σ0 bs HT lps H0 accP al F l k cacc Zs Hr) : ∃ f, Hr = famT (bs k) H0 f 0 := by
  cases l with
  | nil => exact h.1
  | cons p l => exact h.1
def guardless (ops : Array Oper) (i : Nat) : Bool := match ops[i]? with | some o => o.guard.isNone | none => false
def chainOkZ (ops : Array Oper) (n : Nat) (ss : List (List (Nat × Nat))) (ks ci : List Nat) (lps : List (List Nat)) (kA : Nat) : Bool :=
  chainOk ops n ss ci && ci.all (guardless ops) && ks.all (fun i => Nat.blt i n && !(ci.contains i)) && (ci.take kA).all (fun i => srcFree ss i ks) && (ci.drop kA).all (fun i => ks.all (fun j => Region.waitsFor .any ops i j)) &&
  (List.range (ci.length + 1)).all (fun m => (lps.getD m []).all (fun i => Nat.blt i n && !(ci.contains i) && !(ks.contains i) && guardless ops i && srcFree ss i ks &&
    (match m with | 0 => false | m' + 1 => (match ci[m']? with | some j => Region.waitsFor .any ops i j | none => false) || (lps.getD m []).any (fun j => Region.waitsFor .any ops i j)) &&
    (List.range (ci.length + 1)).all (fun m2 => Nat.ble m2 m || (match m2 with | 0 => true | m3 + 1 => match ci[m3]? with | some j => srcFree ss i [j] | none => true) && srcFree ss i (lps.getD m2 []) && !((lps.getD m2 []).contains i))) && lateL ss (lps.getD m []))
def lpMem (lps : List (List Nat)) (q i : Nat) : Prop := ∃ m, m ≤ q ∧ i ∈ lps.getD m []
structure InvZ (P : Program) (C : Ctx) (N : Nat) (σ : AEnv) (bs : Nat → List Bool) (HT : Nat → (AHeap × (Nat → Bool × Blk)) → AHeap) (l : List Oper) (ss : List (List (Nat × Nat))) (lps : List (List Nat)) (H0 : AHeap) (full : List (Nat × AV)) (F : List (Nat × AV) → AHeap → AHeap → Prop) (al : List (Nat × AT)) (ci : List Nat) (cp : List (Nat × Oper × List (Nat × Nat)))
    (k : Nat) (c1 : List (Nat × AV)) (Zs Hr : AHeap) (ws : Nat → Nat) (listed : Array Bool) (cacc : List (Nat × AV)) (H : AHeap) : Prop where
  w : ∀ j ∈ ci, listed.getD j false = true → ∀ i, Region.waitsFor .any l.toArray j i = true → listed.getD i false = true
  kle : k ≤ ci.length
  kp : k ≤ cp.length
  ch : ∀ m i, ci[m]? = some i → (listed.getD i false = true ↔ m < k)
  al0 : ∀ j, j ∈ al.map Prod.fst → lookR c1 j = none
  oth : ∀ j, j ∉ al.map Prod.fst → ¬ lpMem lps ci.length j → lookR cacc j = lookR c1 j
  al1 : ∀ j, j ∈ al.map Prod.fst → lookR cacc j = if listed.getD j false = true then lookR (rA ws al) j else none
  lp : ∀ j, lpMem lps ci.length j → lookR cacc j = (if listed.getD j false = true then lookR c1 j else none) ∧ (listed.getD j false = true → lpMem lps k j)
  due : ∀ m i o s, m ≤ k → i ∈ lps.getD m [] → l[i]? = some o → ss[i]? = some s → ∃ r, lookR c1 i = some r ∧ lateQ P N C σ (HT i) (c1 ++ full) o s r
  H : H = Zs ++ (hA (fun j => listed.getD j false) ws al ++ Hr)
  pl : planZ P C N σ bs HT (fun k => clOf l ss (lps.getD k [])) H0 full al F (cp.drop k) k c1 Zs Hr
theorem getD_mono' {listed : Array Bool} (i : Nat) {j : Nat} (h : listed.getD j false = true) : (listed.setIfInBounds i true).getD j false = true := by
  by_cases e : j = i
  · subst e
    rcases Nat.lt_or_ge j listed.size with h2 | h2
    · exact getD_set_true' h2
    · simp [Array.getElem?_eq_none h2] at h
  · rw [getD_set_ne false (Ne.symm e)]; exact h
section
variable {P : Program} {C : Ctx} {N n : Nat} {σ : AEnv} {bs : Nat → List Bool} {HT : Nat → (AHeap × (Nat → Bool × Blk)) → AHeap} {lps : List (List Nat)} {full : List (Nat × AV)} {F : List (Nat × AV) → AHeap → AHeap → Prop} {l : List Oper} {cp : List (Nat × Oper × List (Nat × Nat))} {kA : Nat} {ss : List (List (Nat × Nat))} {al : List (Nat × AT)} {ci : List Nat} {H0 : AHeap} {listed : Array Bool} {cacc c1 : List (Nat × AV)} {H Zs Hr : AHeap} {k : Nat} {ws : Nat → Nat}
structure OkZ (l : List Oper) (n : Nat) (ss : List (List (Nat × Nat))) (ks ci : List Nat) (lps : List (List Nat)) (kA : Nat) : Prop where
  chain : chainOk l.toArray n ss ci = true
  cg : ∀ i ∈ ci, guardless l.toArray i = true
  ksn : ∀ i ∈ ks, i < n ∧ i ∉ ci
  csrc : ∀ m i, m < kA → ci[m]? = some i → srcFree ss i ks = true
  calc_ : ∀ m i, kA ≤ m → ci[m]? = some i → ∀ j ∈ ks, Region.waitsFor .any l.toArray i j = true
  lp : ∀ m i, m ≤ ci.length → i ∈ lps.getD m [] → i < n ∧ i ∉ ci ∧ i ∉ ks ∧ guardless l.toArray i = true ∧ srcFree ss i ks = true ∧ (m ≠ 0 ∧ ∃ j, Region.waitsFor .any l.toArray i j = true ∧ ((∃ m', m = m' + 1 ∧ ci[m']? = some j) ∨ j ∈ lps.getD m [])) ∧
    ∀ m2, m < m2 → m2 ≤ ci.length → (∀ m3 j, m2 = m3 + 1 → ci[m3]? = some j → srcFree ss i [j] = true) ∧ srcFree ss i (lps.getD m2 []) = true ∧ i ∉ lps.getD m2 []
  late : ∀ m, m ≤ ci.length → lateL ss (lps.getD m []) = true
theorem okZ {ks : List Nat} (h : chainOkZ l.toArray n ss ks ci lps kA = true) : OkZ l n ss ks ci lps kA := by
  simp only [chainOkZ, Bool.and_eq_true] at h
  obtain ⟨⟨⟨⟨⟨h1, h2⟩, h3⟩, h4⟩, h4b⟩, h5⟩ := h
  refine ⟨h1, fun i hi => List.all_eq_true.1 h2 i hi, fun i hi => ?_, fun m i hm hi => List.all_eq_true.1 h4 i (List.mem_of_getElem? (i := m) (by rw [List.getElem?_take, if_pos hm]; exact hi)),
    fun m i hm hi j hj => List.all_eq_true.1 (List.all_eq_true.1 h4b i (List.mem_of_getElem? (i := m - kA) (by rw [List.getElem?_drop, show kA + (m - kA) = m by omega]; exact hi))) j hj, fun m i hm hi => ?_, fun m hm => ?_⟩
  · have := List.all_eq_true.1 h3 i hi
    simp only [Bool.and_eq_true, Bool.not_eq_true', List.contains_eq_mem, decide_eq_false_iff_not] at this
    exact ⟨by simpa [Nat.blt_eq] using this.1, this.2⟩
  · have h6 := List.all_eq_true.1 h5 m (List.mem_range.2 (by omega))
    rw [Bool.and_eq_true] at h6
    have h7 := List.all_eq_true.1 h6.1 i hi
    simp only [Bool.and_eq_true, Bool.not_eq_true', List.contains_eq_mem, decide_eq_false_iff_not] at h7
    obtain ⟨⟨⟨⟨⟨⟨a1, a2⟩, a3⟩, a4⟩, a5⟩, a6⟩, a7⟩ := h7
    refine ⟨by simpa [Nat.blt_eq] using a1, a2, a3, a4, a5, ?_, fun m2 hlt hle => ?_⟩
    · cases m with
      | zero => cases a6
      | succ m' =>
        simp only [Bool.or_eq_true] at a6
        refine ⟨by omega, ?_⟩
        rcases a6 with a6 | a6
        · cases hc : ci[m']? with
          | none => rw [hc] at a6; cases a6
          | some j => rw [hc] at a6; exact ⟨j, a6, .inl ⟨m', rfl, hc⟩⟩
        · obtain ⟨j, hj, hw⟩ := List.any_eq_true.1 a6
          exact ⟨j, hw, .inr hj⟩
    · have h8 := List.all_eq_true.1 a7 m2 (List.mem_range.2 (by omega))
      simp only [Bool.or_eq_true, Bool.and_eq_true, Bool.not_eq_true', decide_eq_false_iff_not] at h8
      rcases h8 with h8 | h8
      · have := Nat.le_of_ble_eq_true h8; omega
      · refine ⟨fun m3 j e hj => ?_, h8.1.2, h8.2⟩
        subst e
        have := h8.1.1
        simp only [hj] at this
        exact this
  · have h6 := List.all_eq_true.1 h5 m (List.mem_range.2 (by omega))
    rw [Bool.and_eq_true] at h6
    exact h6.2
theorem srcFree_nil (i : Nat) : srcFree ss i [] = true := by
  unfold srcFree
  cases ss[i]? with
  | none => rfl
  | some s => simp
theorem OkZ.zero {ks : List Nat} (h : OkZ l n ss ks ci lps kA) : OkZ l n ss (([] : List (Nat × AT)).map Prod.fst) ci lps ci.length := by
  refine ⟨h.chain, h.cg, fun i hi => (by cases hi), fun m i _ _ => srcFree_nil i, fun m i hm hi => ?_, fun m i hm hi => ?_, h.late⟩
  · have := (List.getElem?_eq_some_iff.1 hi).1; omega
  · obtain ⟨b1, b2, b3, b4, b5, b6, b7⟩ := h.lp m i hm hi
    exact ⟨b1, b2, by simp, b4, srcFree_nil i, b6, b7⟩
theorem lpMem_mono {q q' j : Nat} (h : lpMem lps q j) (hq : q ≤ q') : lpMem lps q' j := by obtain ⟨m, h1, h2⟩ := h; exact ⟨m, Nat.le_trans h1 hq, h2⟩
theorem lpMem_one (hz : OkZ l n ss (al.map Prod.fst) ci lps kA) {m q j : Nat} (hm : m ≤ ci.length) (hq : q ≤ ci.length) (h : j ∈ lps.getD m []) (hl : lpMem lps q j) : m ≤ q := by
  obtain ⟨m2, h1, h2⟩ := hl
  rcases Nat.lt_or_ge m2 m with h3 | h3
  · exact absurd h ((hz.lp m2 j (by omega) h2).2.2.2.2.2.2 m h3 hm).2.2
  · omega
theorem InvZ.pure (hz : OkZ l n ss (al.map Prod.fst) ci lps kA) {i : Nat} (h : InvZ P C N σ bs HT l ss lps H0 full F al ci cp k c1 Zs Hr ws listed cacc H) (h1 : i ∉ ci) (h2 : i ∉ al.map Prod.fst) (h3 : ¬ lpMem lps ci.length i) : InvZ P C N σ bs HT l ss lps H0 full F al ci cp k c1 Zs Hr ws (listed.setIfInBounds i true) cacc H := by
  have hput : ∀ j, j ≠ i → (listed.setIfInBounds i true).getD j false = listed.getD j false := fun j hj => getD_set_ne false (Ne.symm hj)
  refine ⟨fun j hj hl q hq => getD_mono' i (h.w j hj (by rwa [hput j (fun e => h1 (e ▸ hj))] at hl) q hq), h.kle, h.kp, fun m j hj => ?_, h.al0, h.oth, fun j hj => ?_, fun j hj => ?_, h.due, ?_, h.pl⟩
  · rw [hput j (fun e => h1 (e ▸ List.mem_of_getElem? hj))]; exact h.ch m j hj
  · rw [hput j (fun e => h2 (e ▸ hj))]; exact h.al1 j hj
  · rw [hput j (fun e => h3 (e ▸ hj))]; exact h.lp j hj
  · rw [h.H]
    congr 2
    exact hA_congr fun p hp => ⟨(hput p.1 (fun e => h2 (e ▸ List.mem_map_of_mem hp))).symm, rfl⟩
theorem InvZ.alloc (hz : OkZ l n ss (al.map Prod.fst) ci lps kA) {p : Nat × AT} (hn : (al.map Prod.fst).Nodup) (hp : p ∈ al) (h : InvZ P C N σ bs HT l ss lps H0 full F al ci cp k c1 Zs Hr ws listed cacc H) (hun : listed.getD p.1 false = false) (hlt : p.1 < listed.size) :
    ∃ F', Hole H hole0 F' ∧ ∀ b, InvZ P C N σ bs HT l ss lps H0 full F al ci cp k c1 Zs Hr (upd ws p.1 b) (listed.setIfInBounds p.1 true) ((p.1, p.2.res b) :: cacc) (F' (p.2.blk b)) := by
  have hput : ∀ j, j ≠ p.1 → (listed.setIfInBounds p.1 true).getD j false = listed.getD j false := fun j hj => getD_set_ne false (Ne.symm hj)
  have hset : (listed.setIfInBounds p.1 true).getD p.1 false = true := getD_set_true' hlt
  have hpm : p.1 ∈ al.map Prod.fst := List.mem_map_of_mem hp
  have hd : p.1 ∉ ci := (hz.ksn p.1 hpm).2
  have hlp : ¬ lpMem lps ci.length p.1 := fun ⟨m, hm, hx⟩ => (hz.lp m p.1 hm hx).2.2.1 hpm
  obtain ⟨F', h1, h2⟩ := hA_hole (f := fun j => listed.getD j false) (ws := ws) (H0 := Hr) hn hp hun
  have hH := h.H
  subst hH
  refine ⟨fun X => Zs ++ F' X, Hole.app h1, fun b => ⟨fun j hj hl q hq => getD_mono' p.1 (h.w j hj (by rwa [hput j (fun e => hd (e ▸ hj))] at hl) q hq), h.kle, h.kp, fun m j hj => ?_, h.al0, fun j hj hj2 => ?_, fun j hj => ?_, fun j hj => ?_, h.due, ?_, h.pl⟩⟩
  · rw [hput j (fun e => hd (e ▸ List.mem_of_getElem? hj))]; exact h.ch m j hj
  · rw [lookR_cons, if_neg (fun e : p.1 = j => hj (e ▸ hpm))]; exact h.oth j hj hj2
  · rw [lookR_cons]
    by_cases e : p.1 = j
    · subst e
      rw [if_pos rfl, if_pos hset, lookR_rA hn hp]
      simp [upd]
    · rw [if_neg e, hput j (Ne.symm e), h.al1 j hj, lookR_rA_congr (ws := ws) (ws' := upd ws p.1 b) (by simp [upd, Ne.symm e])]
  · have hne : p.1 ≠ j := fun e => hlp (e ▸ hj)
    rw [lookR_cons, if_neg hne, hput j (Ne.symm hne)]; exact h.lp j hj
  · show Zs ++ F' (p.2.blk b) = _
    rw [h2 b]
    congr 2
    refine hA_congr fun q hq => ⟨?_, rfl⟩
    by_cases e : q.1 = p.1
    · rw [e, if_pos rfl, hset]
    · rw [if_neg e, hput _ e]
theorem InvZ.env (h : InvZ P C N σ bs HT l ss lps H0 full F al ci cp k c1 Zs Hr ws listed cacc H) {i : Nat} {o : Oper} {s : List (Nat × Nat)} (hok : opOkC l.toArray n ss i = true) (hol : l[i]? = some o) (hs : ss[i]? = some s) (hsf : srcFree ss i (al.map Prod.fst) = true) (hw : ∀ j, Region.waitsFor .any l.toArray i j = true → listed.getD j false = true) :
    envOf σ (cacc ++ full) s (opTmps o) = envOf σ (c1 ++ full) s (opTmps o) := envOf_congr' fun t ht j hj => by
  unfold opOkC at hok
  have ho' : l.toArray[i]? = some o := by simpa using hol
  simp only [ho', hs, Bool.and_eq_true] at hok
  have h6 := List.all_eq_true.1 hok.1 t ht
  unfold readOk at h6
  simp only [hj, Bool.and_eq_true] at h6
  have hlj := hw j h6.2
  rw [lookR_append, lookR_append]
  by_cases hjl : lpMem lps ci.length j
  · rw [(h.lp j hjl).1, if_pos hlj]
  · rw [h.oth j (srcFree_get hsf hs hj) hjl]
theorem InvZ.late (hz : OkZ l n ss (al.map Prod.fst) ci lps kA) (hok : ∀ i, i < n → opOkC l.toArray n ss i = true) {m i : Nat} {o : Oper} {s : List (Nat × Nat)} (hm : m ≤ ci.length) (him : i ∈ lps.getD m [])
    (h : InvZ P C N σ bs HT l ss lps H0 full F al ci cp k c1 Zs Hr ws listed cacc H) (hol : l[i]? = some o) (hs : ss[i]? = some s) (hw : ∀ j, Region.waitsFor .any l.toArray i j = true → listed.getD j false = true) (hlt : i < listed.size) (hfam : ∃ q, H = HT i q) (hnone : lookR full i = none) :
    o.guard = none ∧ OpH P C N o (envOf σ (cacc ++ full) s (opTmps o)) H (fun r H' => (∀ r0, lookR full i = some r0 → r = r0) ∧ InvZ P C N σ bs HT l ss lps H0 full F al ci cp k c1 Zs Hr ws (listed.setIfInBounds i true) ((i, r) :: cacc) H') := by
  obtain ⟨b1, b2, b3, b4, b5, ⟨hm0, j, hwj, hcase⟩, b7⟩ := hz.lp m i hm him
  have hmk : m ≤ k := by
    rcases hcase with ⟨m', e, hc⟩ | hj
    · have := (h.ch m' j hc).1 (hw j hwj); omega
    · exact lpMem_one hz hm h.kle hj ((h.lp j ⟨m, hm, hj⟩).2 (hw j hwj))
  obtain ⟨r, hr1, hr2⟩ := h.due m i o s hmk him hol hs
  have hg : o.guard = none := by
    unfold guardless at b4
    simp only [show l.toArray[i]? = some o by simpa using hol] at b4
    exact Option.isNone_iff_eq_none.1 b4
  refine ⟨hg, ?_⟩
  rw [h.env (hok i b1) hol hs b5 hw]
  obtain ⟨q, rfl⟩ := hfam
  have hput : ∀ j, j ≠ i → (listed.setIfInBounds i true).getD j false = listed.getD j false := fun j hj => getD_set_ne false (Ne.symm hj)
  have hset : (listed.setIfInBounds i true).getD i false = true := getD_set_true' hlt
  have hil : lpMem lps ci.length i := ⟨m, hm, him⟩
  refine OpH.ofP (fun ρ I L hs' a w ha hm' => (hr2 q ρ I L hs' a w ha hm').mono ?_)
  rintro v w' ⟨J, X, q1, q2, q3, q4, q5, rfl, r', q6, rfl⟩
  refine ⟨J, [], q1, q2, q3, q4, q5, rfl, r', q6, fun r0 h0 => (by rw [hnone] at h0; cases h0), ⟨fun j hj hl q hq => getD_mono' i (h.w j hj (by rwa [hput j (fun e => b2 (e ▸ hj))] at hl) q hq), h.kle, h.kp, fun m2 j hj => ?_, h.al0, fun j hj hj2 => ?_, fun j hj => ?_, fun j hj => ?_, h.due, ?_, h.pl⟩⟩
  · rw [hput j (fun e => b2 (e ▸ List.mem_of_getElem? hj))]; exact h.ch m2 j hj
  · rw [lookR_cons, if_neg (fun e : i = j => hj2 (e ▸ hil))]; exact h.oth j hj hj2
  · have hne : i ≠ j := fun e => b3 (e ▸ hj)
    rw [lookR_cons, if_neg hne, hput j (Ne.symm hne)]; exact h.al1 j hj
  · by_cases e2 : i = j
    · subst e2
      rw [lookR_cons, if_pos rfl, if_pos hset, hr1]
      exact ⟨rfl, fun _ => ⟨m, hmk, him⟩⟩
    · rw [lookR_cons, if_neg e2, hput j (Ne.symm e2)]; exact h.lp j hj
  · rw [h.H]
    congr 2
    exact hA_congr fun p hp => ⟨(hput p.1 (fun e => b3 (e ▸ List.mem_map_of_mem hp))).symm, rfl⟩
theorem InvZ.chain (hz : OkZ l n ss (al.map Prod.fst) ci lps kA) (hok : ∀ i, i < n → opOkC l.toArray n ss i = true) {i : Nat} {o : Oper} {s : List (Nat × Nat)} (hcl : ∀ (m i : Nat) (o : Oper) (s : List (Nat × Nat)), m < cp.length → ci[m]? = some i → l[i]? = some o → ss[i]? = some s → cp[m]? = some (i, o, s)) (hkA : cp.length ≤ kA ∨ kA = ci.length) (hkc : k < cp.length) (hnd : ci.Nodup) (hin : i < n)
    (h : InvZ P C N σ bs HT l ss lps H0 full F al ci cp k c1 Zs Hr ws listed cacc H) (hi : i ∈ ci) (hol : l[i]? = some o) (hs : ss[i]? = some s) (hun : listed.getD i false = false) (hw : ∀ j, Region.waitsFor .any l.toArray i j = true → listed.getD j false = true) (hlt : i < listed.size) :
    o.guard = none ∧ OpH P C N o (envOf σ (cacc ++ full) s (opTmps o)) H (fun r H' => (∀ r0, lookR full i = some r0 → r = r0) ∧ ∃ c1' Zs' Hr', InvZ P C N σ bs HT l ss lps H0 full F al ci cp (k + 1) c1' Zs' Hr' ws (listed.setIfInBounds i true) ((i, r) :: cacc) H') := by
  have hg : o.guard = none := by
    have := hz.cg i hi
    unfold guardless at this
    simp only [show l.toArray[i]? = some o by simpa using hol] at this
    exact Option.isNone_iff_eq_none.1 this
  have hia : i ∉ al.map Prod.fst := fun hx => (hz.ksn i hx).2 hi
  have hilp : ¬ lpMem lps ci.length i := fun ⟨m, hm, hx⟩ => (hz.lp m i hm hx).2.1 hi
  have hput : ∀ j, j ≠ i → (listed.setIfInBounds i true).getD j false = listed.getD j false := fun j hj => getD_set_ne false (Ne.symm hj)
  obtain ⟨m, hm⟩ := List.mem_iff_getElem?.1 hi
  have hml : m < ci.length := (List.getElem?_eq_some_iff.1 hm).1
  have hmk : ¬ m < k := fun hx => by have := (h.ch m i hm).2 hx; rw [hun] at this; cases this
  have hkm : m ≤ k := by
    have hch := hz.chain
    unfold chainOk at hch
    cases m with
    | zero => omega
    | succ mj =>
      have h1 := List.all_eq_true.1 hch (mj + 1) (List.mem_range.2 hml)
      simp only [hm, Bool.and_eq_true] at h1
      cases hj : ci[mj]? with
      | none => simp [hj] at h1
      | some j =>
        simp only [hj, Bool.and_eq_true] at h1
        have := (h.ch mj j hj).1 (hw j h1.2.2)
        omega
  obtain rfl : m = k := by omega
  have hcc := hcl m i o s hkc hm hol hs
  have hdrop : cp.drop m = (i, o, s) :: cp.drop (m + 1) := by
    have hlt := (List.getElem?_eq_some_iff.1 hcc).1
    rw [List.drop_eq_getElem_cons hlt]
    congr 1
    rw [List.getElem?_eq_getElem hlt] at hcc
    exact Option.some.inj hcc
  have hpl := h.pl
  rw [hdrop, planZ] at hpl
  replace hpl := hpl.2 (hA (fun j => listed.getD j false) ws al)
  refine ⟨hg, ?_⟩
  rw [h.env (hok i hin) hol hs (hz.csrc m i (by omega) hm) hw]
  have hnext : ∀ r Zs' Hr', prom P N C σ HT full (clOf l ss (lps.getD (m + 1) [])) ((i, r) :: c1) (fun c => planZ P C N σ bs HT (fun k => clOf l ss (lps.getD k [])) H0 full al F (cp.drop (m + 1)) (m + 1) c Zs' Hr') →
      ∃ c1' Zs'' Hr'', InvZ P C N σ bs HT l ss lps H0 full F al ci cp (m + 1) c1' Zs'' Hr'' ws (listed.setIfInBounds i true) ((i, r) :: cacc) (Zs' ++ (hA (fun j => listed.getD j false) ws al ++ Hr')) := fun r Zs' Hr' hq => by
    obtain ⟨c', k1, k2, k3⟩ := prom_elim (hz.late (m + 1) (by omega)) hq
    have hLlp : ∀ j, j ∈ lps.getD (m + 1) [] → lpMem lps ci.length j := fun j hj => ⟨m + 1, by omega, hj⟩
    refine ⟨c', Zs', Hr', fun j hj hl q hwq => ?_, by omega, by omega, fun m' i' hm' => ?_, fun j hj => ?_, fun j hj hj2 => ?_, fun j hj => ?_, fun j hj => ?_, fun m2 i2 o2 s2 hm2 hi2 ho2 hs2 => ?_, ?_, k1⟩
    · by_cases e : j = i
      · subst e; exact getD_mono' j (hw q hwq)
      · exact getD_mono' i (h.w j hj (by rwa [hput j e] at hl) q hwq)
    · by_cases e : i' = i
      · subst e
        have h1 := (List.getElem?_eq_some_iff.1 hm')
        have h2 := (List.getElem?_eq_some_iff.1 hm)
        have : m' = m := (List.getElem_inj (h₀ := h1.1) (h₁ := h2.1) hnd).1 (by rw [h1.2, h2.2])
        subst this
        exact ⟨fun _ => by omega, fun _ => getD_set_true' hlt⟩
      · rw [hput i' e, h.ch m' i' hm']
        have : m' ≠ m := by rintro rfl; rw [hm] at hm'; exact e (Option.some.inj hm').symm
        omega
    · rw [k2 j (fun hx => (hz.lp (m + 1) j (by omega) hx).2.2.1 hj), lookR_cons, if_neg (fun e => hia (by rw [e]; exact hj))]; exact h.al0 j hj
    · rw [k2 j (fun hx => hj2 (hLlp j hx)), lookR_cons, lookR_cons, h.oth j hj hj2]
    · have hji : j ≠ i := fun e => hia (e ▸ hj)
      rw [lookR_cons, if_neg (Ne.symm hji), hput j hji]; exact h.al1 j hj
    · have hji : j ≠ i := fun e => hilp (e ▸ hj)
      rw [lookR_cons, if_neg (Ne.symm hji), hput j hji, (h.lp j hj).1]
      refine ⟨?_, fun hl => lpMem_mono ((h.lp j hj).2 hl) (Nat.le_succ _)⟩
      split
      · rename_i hl
        have hkk := (h.lp j hj).2 hl
        rw [k2 j (fun hx => by have := lpMem_one hz (by omega) (by omega) hx hkk; omega), lookR_cons, if_neg (Ne.symm hji)]
      · rfl
    · rcases Nat.lt_or_ge m m2 with hlt2 | hge2
      · obtain rfl : m2 = m + 1 := by omega
        exact k3 i2 o2 s2 hi2 ho2 hs2
      · obtain ⟨r2, d1, d2⟩ := h.due m2 i2 o2 s2 hge2 hi2 ho2 hs2
        obtain ⟨e1, e2, e3⟩ := (hz.lp m2 i2 (by omega) hi2).2.2.2.2.2.2 (m + 1) (by omega) (by omega)
        have hi2i : i2 ≠ i := fun e => (hz.lp m2 i2 (by omega) hi2).2.1 (e ▸ hi)
        refine ⟨r2, by rw [k2 i2 e3, lookR_cons, if_neg (Ne.symm hi2i)]; exact d1, fun Hp => ?_⟩
        have he : envOf σ (c' ++ full) s2 (opTmps o2) = envOf σ (c1 ++ full) s2 (opTmps o2) := envOf_congr' fun t _ j hj => by
          have hj1 := srcFree_get (e1 m i rfl hm) hs2 hj
          have hj2 := srcFree_get e2 hs2 hj
          have hji : j ≠ i := fun e => hj1 (by simp [e])
          rw [lookR_append, lookR_append, k2 j hj2, lookR_cons, if_neg (Ne.symm hji)]
        rw [he]; exact d2 Hp
    · congr 2
      exact hA_congr fun p hp => ⟨(hput p.1 (fun e => hia (e ▸ List.mem_map_of_mem hp))).symm, rfl⟩
  have hH := h.H
  subst hH
  cases hr : lookR full i with
  | none =>
    rw [hr] at hpl
    exact hpl.mono fun r H' ⟨Zs', Hr', e, hq⟩ => ⟨fun r0 h0 => (by cases h0), e ▸ hnext r Zs' Hr' hq⟩
  | some r0 =>
    rw [hr] at hpl
    exact hpl.mono fun r H' ⟨er, Zs', Hr', e, hq⟩ => ⟨fun q h0 => by cases h0; exact er, by subst er; exact e ▸ hnext _ Zs' Hr' hq⟩
theorem InvZ.toB {F2 : List (Nat × AV) → AHeap → AHeap → Prop} {cp2 : List (Nat × Oper × List (Nat × Nat))} (hz : OkZ l n ss (al.map Prod.fst) ci lps kA) (hnal : (al.map Prod.fst).Nodup)
    (hF : ∀ c Zs Hr, F c Zs Hr → planZ P C N σ bs HT (fun k => clOf l ss (lps.getD k [])) H0 full [] F2 (cp2.drop cp.length) cp.length c Zs Hr)
    (h : InvZ P C N σ bs HT l ss lps H0 full F al ci cp k c1 Zs Hr ws listed cacc H) (hk : k = cp.length) (hcp : cp.length ≤ cp2.length) (hall : ∀ j ∈ al.map Prod.fst, listed.getD j false = true) :
    InvZ P C N σ bs HT l ss lps H0 full F2 [] ci cp2 k (c1 ++ rA ws al) (Zs ++ (al.map fun p => p.2.blk (ws p.1))) Hr ws listed cacc H := by
  subst hk
  have hpl := h.pl
  rw [List.drop_length, planZ] at hpl
  refine ⟨h.w, h.kle, hcp, h.ch, fun j hj => (by cases hj), fun j _ hj2 => ?_, fun j hj => (by cases hj), fun j hj => ?_, fun m i o s hm hi ho hs => ?_, ?_, hF _ _ _ (hpl.2 ws)⟩
  · rw [lookR_append]
    by_cases hja : j ∈ al.map Prod.fst
    · rw [h.al0 j hja, h.al1 j hja, if_pos (hall j hja)]
    · rw [h.oth j hja hj2, lookR_rA_none hja]
      cases lookR c1 j <;> rfl
  · have hja : j ∉ al.map Prod.fst := fun hx => by
      obtain ⟨m, hm, hi⟩ := hj
      exact (hz.lp m j hm hi).2.2.1 hx
    rw [lookR_append, (h.lp j hj).1, lookR_rA_none hja]
    refine ⟨?_, (h.lp j hj).2⟩
    cases lookR c1 j <;> rfl
  · obtain ⟨r, d1, d2⟩ := h.due m i o s hm hi ho hs
    have hsf := (hz.lp m i (Nat.le_trans hm h.kle) hi).2.2.2.2.1
    refine ⟨r, by rw [lookR_append, d1], fun Hp => ?_⟩
    have he : envOf σ ((c1 ++ rA ws al) ++ full) s (opTmps o) = envOf σ (c1 ++ full) s (opTmps o) := envOf_congr' fun t _ j hj => by
      have hj2 := srcFree_get hsf hs hj
      rw [lookR_append, lookR_append, lookR_append, lookR_rA_none hj2]
      cases lookR c1 j <;> rfl
    rw [he]; exact d2 Hp
  · rw [h.H, hA_all fun p hp => hall p.1 (List.mem_map_of_mem hp), List.append_assoc]
    rfl
theorem InvZ.famI {bks qs : List (List Bool)} {ks : List Nat} {i : Nat} (hq : famOk l.toArray n ks ci bks qs = true) (h : InvZ P C N σ (fun k => bks.getD k []) HT l ss lps H0 full F al ci cp k c1 Zs Hr ws listed cacc H) (hin : i < n) (hna1 : i ∉ ks) (hnc : i ∉ ci) (hun : listed.getD i false = false) :
    ∃ q : AHeap × (Nat → Bool × Blk), H = q.1 ++ famT (qs.getD i []) H0 q.2 0 := by
  obtain ⟨f, hf⟩ := h.pl.fam
  have hk := h.kle
  have hle : leB (bks.getD k []) (qs.getD i []) = true := by
    have h1 := List.all_eq_true.1 hq i (List.mem_range.2 hin)
    simp only [Bool.or_eq_true, List.contains_eq_mem, decide_eq_true_eq] at h1
    rcases h1 with (h1 | h1) | h1
    · exact absurd h1 hna1
    · exact absurd h1 hnc
    · have h2 := List.all_eq_true.1 h1 k (List.mem_range.2 (by omega))
      simp only [Bool.or_eq_true] at h2
      rcases h2 with h2 | h2
      · obtain ⟨m, hm, hw⟩ := List.any_eq_true.1 h2
        have hmk := List.mem_range.1 hm
        cases hci : ci[m]? with
        | none => rw [hci] at hw; cases hw
        | some j =>
          rw [hci] at hw
          have h3 := h.w j (List.mem_of_getElem? hci) ((h.ch m j hci).2 hmk) i hw
          rw [hun] at h3; cases h3
      · exact h2
  obtain ⟨f', hf'⟩ := famT_le hle H0 f 0
  exact ⟨(Zs ++ hA (fun j => listed.getD j false) ws al, f'), by rw [h.H, hf, hf', List.append_assoc]⟩
theorem clOf_append (a b : List Nat) : clOf l ss (a ++ b) = clOf l ss a ++ clOf l ss b := by
  induction a with
  | nil => rfl
  | cons i a ih =>
    simp only [List.cons_append, clOf, ih]
    split <;> rfl
theorem clOf_length : ∀ (c : List Nat), (∀ i ∈ c, i < l.length ∧ i < ss.length) → (clOf l ss c).length = c.length
  | [], _ => rfl
  | i :: c, h => by
    obtain ⟨h1, h2⟩ := h i List.mem_cons_self
    simp only [clOf, List.getElem?_eq_getElem h1, List.getElem?_eq_getElem h2, List.length_cons]
    rw [clOf_length c (fun j hj => h j (List.mem_cons_of_mem _ hj))]
end
theorem wpA.drawZ {P : Program} {C : Ctx} {N : Nat} {Q : Exit → AEnv → AHeap → Prop} {σ : AEnv} {H : AHeap} {id : Nat} {l : List Oper} (bks : List (List Bool)) (qs : List (List Bool)) (lps : List (List Nat)) (al : List (Nat × AT)) (kA : Nat) (hm : P.follows .mixedOrders = true) (n : Nat) (ss : List (List (Nat × Nat))) (ci : List Nat)
    (hN : dstOk N l = true) (hB : phiOkC l.toArray n ss = true) (hss : Nat.ble n ss.length = true) (hC : chainOkZ l.toArray n ss (al.map Prod.fst) ci lps kA = true) (hkA : Nat.ble kA ci.length = true) (hnd : ci.Nodup) (hna : (al.map Prod.fst).Nodup)
    (hal : ∀ p ∈ al, ∀ o, l[p.1]? = some o → o.guard = none ∧ ∀ σ' H', OpH P C N o σ' H' (fun r H'' => ∃ b, r = p.2.res b ∧ H'' = p.2.blk b :: H'))
    (hq : famOk l.toArray n (al.map Prod.fst) ci bks qs = true) (hlen : Nat.ble lps.length (ci.length + 1) = true)
    (h : chainQ P N C σ (fun i (q : AHeap × (Nat → Bool × Blk)) => q.1 ++ famT (qs.getD i []) H q.2 0) (al.map Prod.fst ++ (lps.flatten ++ ci)) (fun accP => ((al.map Prod.fst ++ lps.flatten).all fun i => (lookR accP i).isNone) = true ∧
      planZ P C N σ (fun k => bks.getD k []) (fun i (q : AHeap × (Nat → Bool × Blk)) => q.1 ++ famT (qs.getD i []) H q.2 0) (fun k => clOf l ss (lps.getD k [])) H accP al
        (planZ P C N σ (fun k => bks.getD k []) (fun i (q : AHeap × (Nat → Bool × Blk)) => q.1 ++ famT (qs.getD i []) H q.2 0) (fun k => clOf l ss (lps.getD k [])) H accP []
          (fun cacc Zs Hr => wpB P C N l.toArray Q (l.drop n) (finA (cacc ++ accP) (l.take n) 0 σ) (Zs ++ Hr)) (clOf l ss (ci.drop kA)) kA) (clOf l ss (ci.take kA)) 0 [] [] H) (l.take n) ss 0 []) :
    wpA P C N (.region id l.toArray true) Q σ H := .padN (al := al) (by
  have hB0 := hB
  simp only [phiOkC, Bool.and_eq_true, Bool.or_eq_true] at hB
  obtain ⟨⟨⟨⟨⟨hle, hback⟩, hok⟩, hdst⟩, htail⟩, hseq⟩ := hB
  have hle' : n ≤ l.length := by simpa using Nat.le_of_ble_eq_true hle
  have hok' : ∀ i, i < n → opOkC l.toArray n ss i = true := fun i hi => List.all_eq_true.1 hok i (List.mem_range.2 hi)
  have hssl := Nat.le_of_ble_eq_true hss
  obtain ⟨full, ⟨hnone, hF⟩, _, hd⟩ := chainQ_elim (l.take n) ss 0 [] (fun j r hj => by simp [lookR] at hj) h
  have hz := okZ hC
  have hC' := hz.chain
  unfold chainOk at hC'
  have hcin : ∀ i ∈ ci, i < n := fun i hi => by
    obtain ⟨m, hm⟩ := List.mem_iff_getElem?.1 hi
    have h1 := List.all_eq_true.1 hC' m (List.mem_range.2 (List.getElem?_eq_some_iff.1 hm).1)
    simp only [hm, Bool.and_eq_true] at h1
    simpa [Nat.blt_eq] using h1.1
  have hlpf : ∀ i, i ∈ lps.flatten ↔ lpMem lps ci.length i := fun i => by
    have hll := Nat.le_of_ble_eq_true hlen
    constructor
    · intro hi
      obtain ⟨L, hL, hi⟩ := List.mem_flatten.1 hi
      obtain ⟨m, hm, rfl⟩ := List.getElem_of_mem hL
      exact ⟨m, by omega, by simpa [List.getD, hm] using hi⟩
    · rintro ⟨m, _, hi⟩
      by_cases hm2 : m < lps.length
      · simp [List.getD, hm2] at hi
        exact List.mem_flatten.2 ⟨_, List.getElem_mem hm2, hi⟩
      · simp [List.getD, hm2] at hi
  have hcl := clOf_get (l := l) (ss := ss) ci (fun i hi => ⟨_, _, List.getElem?_eq_getElem (Nat.lt_of_lt_of_le (hcin i hi) hle'), List.getElem?_eq_getElem (Nat.lt_of_lt_of_le (hcin i hi) hssl)⟩)
  have hp : ∀ i o s, i < n → i ∉ al.map Prod.fst ++ (lps.flatten ++ ci) → l[i]? = some o → ss[i]? = some s → ∃ r, lookR full i = some r ∧ dutyQ P N C σ (fun q : AHeap × (Nat → Bool × Blk) => q.1 ++ famT (qs.getD i []) H q.2 0) full o s r := fun i o s hi hic ho hsi => by
    obtain ⟨r, acc', h1, h2, h3⟩ := hd i o s (by rw [List.getElem?_take, if_pos hi]; exact ho) hsi (by simpa using hic)
    rw [Nat.zero_add] at h1 h2 h3
    refine ⟨r, h1, fun H' => ?_⟩
    have hoi := hok' i hi
    unfold opOkC at hoi
    have ho' : l.toArray[i]? = some o := by simpa using ho
    simp only [ho', hsi, Bool.and_eq_true] at hoi
    have hback' : ∀ j, Region.waitsFor .any l.toArray i j = true → j < i := fun j hw => by
      obtain ⟨e, he, hb, heq⟩ := waits_mem ho' hw
      have hil : i < l.toArray.size := (Array.getElem?_eq_some_iff.1 ho').1
      have h4 := List.all_eq_true.1 hback i (List.mem_range.2 hil)
      simp only [ho', Array.all_eq_true_iff_forall_mem] at h4
      have h5 := h4 e he
      rw [hb] at h5
      have : e.on < i := by simpa [Nat.blt_eq] using h5
      omega
    have henv : ∀ t ∈ opTmps o, ∀ j, srcOf s t = some j → lookR acc' j = lookR full j := fun t ht j hj => by
      have h6 := List.all_eq_true.1 hoi.1 t ht
      unfold readOk at h6
      simp only [hj, Bool.and_eq_true] at h6
      exact h3 j (hback' j h6.2)
    have hdd := h2 H'
    unfold dutyA at hdd ⊢
    rw [← envOf_congr' henv]
    cases hg : o.guard with
    | none => rw [hg] at hdd; exact hdd
    | some p =>
      obtain ⟨g, want⟩ := p
      rw [hg] at hdd
      have h6 := hoi.2
      rw [hg] at h6
      simp only [Bool.and_eq_true] at h6
      simp only at hdd ⊢
      rw [← h3 g (hback' g h6.1.2)]; exact hdd
  have hkA' := Nat.le_of_ble_eq_true hkA
  have hvalid : ∀ c : List Nat, (∀ i ∈ c, i ∈ ci) → ∀ i ∈ c, i < l.length ∧ i < ss.length := fun c hc i hi => ⟨Nat.lt_of_lt_of_le (hcin i (hc i hi)) hle', Nat.lt_of_lt_of_le (hcin i (hc i hi)) hssl⟩
  have hlA : (clOf l ss (ci.take kA)).length = kA := by
    rw [clOf_length _ (hvalid _ (fun i hi => List.mem_of_mem_take hi)), List.length_take]; omega
  have hlB : (clOf l ss ci).length = ci.length := clOf_length _ (hvalid _ (fun i hi => hi))
  have hdrop : (clOf l ss ci).drop (clOf l ss (ci.take kA)).length = clOf l ss (ci.drop kA) := by
    have := clOf_append (l := l) (ss := ss) (ci.take kA) (ci.drop kA)
    rw [List.take_append_drop] at this
    rw [this, List.drop_left]
  have hclA : ∀ (m i : Nat) (o : Oper) (s : List (Nat × Nat)), m < (clOf l ss (ci.take kA)).length → ci[m]? = some i → l[i]? = some o → ss[i]? = some s → (clOf l ss (ci.take kA))[m]? = some (i, o, s) := fun m i o s hm hi ho hs =>
    clOf_get (ci.take kA) (fun i hi => by
      obtain ⟨h1, h2⟩ := hvalid _ (fun i hi => List.mem_of_mem_take hi) i hi
      exact ⟨_, _, List.getElem?_eq_getElem h1, List.getElem?_eq_getElem h2⟩) m i o s (by rw [List.getElem?_take, if_pos (by omega)]; exact hi) ho hs
  have hzB := hz.zero
  let FB : List (Nat × AV) → AHeap → AHeap → Prop := fun cacc Zs Hr => wpB P C N l.toArray Q (l.drop n) (finA (cacc ++ full) (l.take n) 0 σ) (Zs ++ Hr)
  let FA : List (Nat × AV) → AHeap → AHeap → Prop := planZ P C N σ (fun k => bks.getD k []) (fun i (q : AHeap × (Nat → Bool × Blk)) => q.1 ++ famT (qs.getD i []) H q.2 0) (fun k => clOf l ss (lps.getD k [])) H full [] FB (clOf l ss (ci.drop kA)) kA
  have htoB : ∀ {k c1 Zs Hr ws listed cacc H'}, InvZ P C N σ (fun k => bks.getD k []) (fun i (q : AHeap × (Nat → Bool × Blk)) => q.1 ++ famT (qs.getD i []) H q.2 0) l ss lps H full FA al ci (clOf l ss (ci.take kA)) k c1 Zs Hr ws listed cacc H' → k = kA → (∀ j ∈ al.map Prod.fst, listed.getD j false = true) →
      InvZ P C N σ (fun k => bks.getD k []) (fun i (q : AHeap × (Nat → Bool × Blk)) => q.1 ++ famT (qs.getD i []) H q.2 0) l ss lps H full FB [] ci (clOf l ss ci) k (c1 ++ rA ws al) (Zs ++ (al.map fun p => p.2.blk (ws p.1))) Hr ws listed cacc H' := fun {k c1 Zs Hr ws listed cacc H'} hiv hk hall =>
    hiv.toB hz hna (fun c Zs Hr h => by rw [hdrop, hlA]; exact h) (by rw [hlA]; exact hk) (by rw [hlA, hlB]; exact hkA') hall
  refine wpA.drawG' (fun i (q : AHeap × (Nat → Bool × Blk)) => q.1 ++ famT (qs.getD i []) H q.2 0) hm n ss (al.map Prod.fst ++ (lps.flatten ++ ci)) hN hB0 full
    (fun listed cacc H' => (∃ k c1 Zs Hr ws, InvZ P C N σ (fun k => bks.getD k []) (fun i (q : AHeap × (Nat → Bool × Blk)) => q.1 ++ famT (qs.getD i []) H q.2 0) l ss lps H full FA al ci (clOf l ss (ci.take kA)) k c1 Zs Hr ws listed cacc H') ∨
      ((∀ j ∈ al.map Prod.fst, listed.getD j false = true) ∧ ∃ k c1 Zs Hr ws, InvZ P C N σ (fun k => bks.getD k []) (fun i (q : AHeap × (Nat → Bool × Blk)) => q.1 ++ famT (qs.getD i []) H q.2 0) l ss lps H full FB [] ci (clOf l ss ci) k c1 Zs Hr ws listed cacc H')) ?_ hp ?_ ?_ ?_ ?_
  · refine .inl ⟨0, [], [], H, fun _ => 0, fun j _ hl => (by rw [getD_replicate_false] at hl; cases hl), Nat.zero_le _, Nat.zero_le _, fun m i hi => ⟨fun hl => ?_, fun h => by omega⟩, fun j _ => rfl, fun j _ _ => rfl, fun j _ => ?_, fun j _ => ⟨?_, fun hl => ?_⟩, fun m i o s hm hi => ?_, ?_, hF⟩
    · rw [getD_replicate_false] at hl; cases hl
    · rw [if_neg (by rw [getD_replicate_false]; decide)]; rfl
    · rw [if_neg (by rw [getD_replicate_false]; decide)]; rfl
    · rw [getD_replicate_false] at hl; cases hl
    · obtain ⟨_, _, _, _, _, ⟨hm0, _⟩, _⟩ := hz.lp m i (by omega) hi
      omega
    · rw [List.nil_append]
      congr 1
      exact (List.map_congr_left fun p _ => by simp only [getD_replicate_false]; rfl)
  · rintro listed cacc H' i hiv hin hnc hun
    rw [List.mem_append, List.mem_append, not_or, not_or] at hnc
    rcases hiv with ⟨k, c1, Zs, Hr, ws, hiv⟩ | ⟨_, k, c1, Zs, Hr, ws, hiv⟩
    · exact hiv.famI hq hin hnc.1 hnc.2.2 hun
    · exact hiv.famI hq hin hnc.1 hnc.2.2 hun
  · rintro listed cacc H' i hiv hni
    rw [List.mem_append, List.mem_append, not_or, not_or] at hni
    rcases hiv with ⟨k, c1, Zs, Hr, ws, hiv⟩ | ⟨hall, k, c1, Zs, Hr, ws, hiv⟩
    · exact .inl ⟨k, c1, Zs, Hr, ws, hiv.pure hz hni.2.2 hni.1 (fun hx => hni.2.1 ((hlpf i).2 hx))⟩
    · exact .inr ⟨fun j hj => getD_mono' i (hall j hj), k, c1, Zs, Hr, ws, hiv.pure hzB hni.2.2 (by simp) (fun hx => hni.2.1 ((hlpf i).2 hx))⟩
  · rintro listed cacc H' i o s hiv hic hol hs hun hw hlt
    rcases List.mem_append.1 hic with hk | hc
    · obtain ⟨p, hp, rfl⟩ := List.mem_map.1 hk
      obtain ⟨hg, hop⟩ := hal p hp o hol
      rcases hiv with ⟨k, c1, Zs, Hr, ws, hiv⟩ | ⟨hall, _⟩
      · obtain ⟨F', h1, h2⟩ := hiv.alloc hz hna hp hun hlt
        refine ⟨hg, OpH.into h1 ((hop _ _).mono fun r H'' ⟨b, hr, hH⟩ => ⟨_, hH, fun r0 h0 => ?_, by rw [hr]; exact .inl ⟨k, c1, Zs, Hr, _, h2 b⟩⟩)⟩
        have h3 := List.all_eq_true.1 hnone p.1 (List.mem_append_left _ hk)
        rw [h0] at h3; cases h3
      · rw [hall p.1 hk] at hun; cases hun
    · rcases List.mem_append.1 hc with hlp | hc
      · obtain ⟨m, hm, him⟩ := (hlpf i).1 hlp
        have hlz := hz.lp m i hm him
        have h3 := List.all_eq_true.1 hnone i (List.mem_append_right _ hlp)
        rcases hiv with ⟨k, c1, Zs, Hr, ws, hiv⟩ | ⟨hall, k, c1, Zs, Hr, ws, hiv⟩
        · obtain ⟨hg, hop⟩ := hiv.late hz hok' hm him hol hs hw hlt (hiv.famI hq hlz.1 hlz.2.2.1 hlz.2.1 hun) (Option.isNone_iff_eq_none.1 h3)
          exact ⟨hg, hop.mono fun r H' ⟨q1, q2⟩ => ⟨q1, .inl ⟨k, c1, Zs, Hr, ws, q2⟩⟩⟩
        · obtain ⟨hg, hop⟩ := hiv.late hzB hok' hm him hol hs hw hlt (hiv.famI hq hlz.1 hlz.2.2.1 hlz.2.1 hun) (Option.isNone_iff_eq_none.1 h3)
          exact ⟨hg, hop.mono fun r H' ⟨q1, q2⟩ => ⟨q1, .inr ⟨fun j hj => getD_mono' i (hall j hj), k, c1, Zs, Hr, ws, q2⟩⟩⟩
      · obtain ⟨m, hm⟩ := List.mem_iff_getElem?.1 hc
        have hml : m < ci.length := (List.getElem?_eq_some_iff.1 hm).1
        have hstepB : (∀ j ∈ al.map Prod.fst, listed.getD j false = true) → ∀ {k c1 Zs Hr ws}, InvZ P C N σ (fun k => bks.getD k []) (fun i (q : AHeap × (Nat → Bool × Blk)) => q.1 ++ famT (qs.getD i []) H q.2 0) l ss lps H full FB [] ci (clOf l ss ci) k c1 Zs Hr ws listed cacc H' →
            o.guard = none ∧ OpH P C N o (envOf σ (cacc ++ full) s (opTmps o)) H' (fun r H' => (∀ r0, lookR full i = some r0 → r = r0) ∧ ((∃ k c1 Zs Hr ws, InvZ P C N σ (fun k => bks.getD k []) (fun i (q : AHeap × (Nat → Bool × Blk)) => q.1 ++ famT (qs.getD i []) H q.2 0) l ss lps H full FA al ci (clOf l ss (ci.take kA)) k c1 Zs Hr ws (listed.setIfInBounds i true) ((i, r) :: cacc) H') ∨
              ((∀ j ∈ al.map Prod.fst, (listed.setIfInBounds i true).getD j false = true) ∧ ∃ k c1 Zs Hr ws, InvZ P C N σ (fun k => bks.getD k []) (fun i (q : AHeap × (Nat → Bool × Blk)) => q.1 ++ famT (qs.getD i []) H q.2 0) l ss lps H full FB [] ci (clOf l ss ci) k c1 Zs Hr ws (listed.setIfInBounds i true) ((i, r) :: cacc) H'))) := fun hall {k c1 Zs Hr ws} hiv => by
          have hkc : k < (clOf l ss ci).length := by
            rw [hlB]
            rcases Nat.lt_or_ge k ci.length with h | h
            · exact h
            · have := (hiv.ch m i hm).2 (by omega)
              rw [hun] at this; cases this
          obtain ⟨hg, hop⟩ := hiv.chain hzB hok' (fun m i o s _ => hcl m i o s) (.inr rfl) hkc hnd (hcin i hc) hc hol hs hun hw hlt
          exact ⟨hg, hop.mono fun r H' ⟨q1, c1', Zs', Hr', q2⟩ => ⟨q1, .inr ⟨fun j hj => getD_mono' i (hall j hj), k + 1, c1', Zs', Hr', ws, q2⟩⟩⟩
        rcases hiv with ⟨k, c1, Zs, Hr, ws, hiv⟩ | ⟨hall, k, c1, Zs, Hr, ws, hiv⟩
        · rcases Nat.lt_or_ge k (clOf l ss (ci.take kA)).length with hkc | hkc
          · obtain ⟨hg, hop⟩ := hiv.chain hz hok' hclA (.inl (Nat.le_of_eq hlA)) hkc hnd (hcin i hc) hc hol hs hun hw hlt
            exact ⟨hg, hop.mono fun r H' ⟨q1, c1', Zs', Hr', q2⟩ => ⟨q1, .inl ⟨k + 1, c1', Zs', Hr', ws, q2⟩⟩⟩
          · have hke : k = kA := by have := hiv.kp; omega
            have hmk : kA ≤ m := by
              rcases Nat.lt_or_ge m k with h | h
              · have := (hiv.ch m i hm).2 h
                rw [hun] at this; cases this
              · omega
            have hall : ∀ j ∈ al.map Prod.fst, listed.getD j false = true := fun j hj => hw j (hz.calc_ m i hmk hm j hj)
            exact hstepB hall (htoB hiv hke hall)
        · exact hstepB hall hiv
  · rintro listed cacc H' hiv hall
    have hlist : ∀ j ∈ al.map Prod.fst, listed.getD j false = true := fun j hj => hall j (hz.ksn j hj).1
    have hend : ∀ {k c1 Zs Hr ws}, InvZ P C N σ (fun k => bks.getD k []) (fun i (q : AHeap × (Nat → Bool × Blk)) => q.1 ++ famT (qs.getD i []) H q.2 0) l ss lps H full FB [] ci (clOf l ss ci) k c1 Zs Hr ws listed cacc H' → wpB P C N l.toArray Q (l.drop n) (finA (cacc ++ full) (l.take n) 0 σ) H' := fun {k c1 Zs Hr ws} hiv => by
      have hk := hiv.kle
      have hk' : k = ci.length := by
        rcases Nat.lt_or_ge k ci.length with h | h
        · have := (hiv.ch k _ (List.getElem?_eq_getElem h)).1 (hall _ (hcin _ (List.getElem_mem h)))
          omega
        · omega
      have hpl := hiv.pl
      rw [hk', List.drop_eq_nil_of_le (Nat.le_of_eq hlB), planZ] at hpl
      have h2 : wpB P C N l.toArray Q (l.drop n) (finA ((c1 ++ rA ws []) ++ full) (l.take n) 0 σ) ((Zs ++ []) ++ Hr) := hpl.2 ws
      rw [hiv.H]
      rw [List.append_nil] at h2
      rw [finA_congr (b := (c1 ++ rA ws []) ++ full) fun j => ?_]
      · exact h2
      · rw [lookR_append, lookR_append, lookR_append]
        by_cases hjl : lpMem lps ci.length j
        · obtain ⟨m, hm, him⟩ := hjl
          rw [(hiv.lp j ⟨m, hm, him⟩).1, if_pos (hall j (hz.lp m j hm him).1)]
          cases lookR c1 j <;> rfl
        · rw [hiv.oth j (by simp) hjl]
          cases lookR c1 j <;> rfl
    rcases hiv with ⟨k, c1, Zs, Hr, ws, hiv⟩ | ⟨_, k, c1, Zs, Hr, ws, hiv⟩
    · have hk' : k = kA := by
        have h1 := hiv.kp
        rw [hlA] at h1
        rcases Nat.lt_or_ge k kA with h | h
        · have hkl : k < ci.length := by omega
          have := (hiv.ch k _ (List.getElem?_eq_getElem hkl)).1 (hall _ (hcin _ (List.getElem_mem hkl)))
          omega
        · omega
      exact hend (htoB hiv hk' hlist)
    · exact hend hiv)
end Go.Ab
set_option linter.unusedVariables false
namespace Go.Ab
open Go.Fl Go.RowKit
open Rep (rep)
section rules
variable {P : Program} {C : Ctx} {N : Nat} {σ : AEnv} {H : AHeap} {d : Option Nat} {ty : TypeId} {ps : String} {af : Array Edge} {g : Option (Nat × Bool)} {K : AV → Prop} {KH : AV → AHeap → Prop} {x y z : Operand} {T T2 E S D U : TypeId} {o : Oper}
theorem OpP.slArrPC {β : Type} {n : Nat} {s : Rep β} {ag : Bool} {a : Arr n β} (hn : n ≤ 9223372036854775807) (hf : elemOff P T = some (n, Rep.size β, ag)) (hx : EvA C σ H x (.p a)) (k : K (.vc a.l)) : OpP P N C ⟨d, .slice T x none none none, ty, ps, af, g⟩ σ H K :=
  .vk k (fun ρ I L hs => by
    obtain ⟨u, h2, b, o, cs, rfl, h3, h4⟩ := hx ρ I L hs
    refine .sliceArr hf h2 ⟨⟨some ⟨b, o, none⟩, by rw [a.h]⟩, cs, ?_, h3⟩
    have hl := h3.len
    rw [a.h] at hl ⊢
    exact Sl.of_cells h4 hl (Nat.le_refl _) (by unfold maxLen; omega))
theorem appendXZ {m n by_ : Nat} {ρ : Env} {I : Im} {L : Lh} {zv : Value} {xs : List Value} {a0 : Option Addr} (hT : P.underlying T = some (.slice E)) (h1 : OneT P E by_ zv) (hz1 : zv.cells = #[zv]) (hone : zv.oneCell' = true) (hU : P.underlying U = some (.int .i64))
    (hx : ev ρ x = some (.slice a0 n n)) (hsl : Sl I 1 (.slice a0 n n) n xs) (hy : ev ρ y = some (i64 (m : Int))) (hb : (n + m) * by_ ≤ 140737488355328) (hn : n + m ≤ 9223372036854775807) :
    OpX P N ⟨d, .call ⟨.builtin .append, #[x, y], #[T, U]⟩, ty, ps, af, g⟩ ρ I L (fun v' J X => J = I ∧ ((X = [] ∧ m = 0 ∧ v' = .slice a0 n n) ∨ ∃ Y, X = [Y] ∧ OwnG E 1 v' (n + m) (xs ++ List.replicate m zv) Y)) := by
  obtain ⟨inf, hi, hz, hsz, hs2⟩ := h1.get
  refine OpX.push fun a w ha hm => ?_
  have hzc : ∀ q, Builtin.zeroCells zv.cells q = (List.replicate q zv).toArray := fun q => by
    apply Array.ext'
    simp [Builtin.zeroCells, hz1, Nat.mod_one]
    rw [List.map_const']
    simp
  have hw : IntKind.wrap .i64 (m : Int) = (m : Int) := wrap_i64 (by omega) (by omega)
  have hm00 : ¬ ((m : Int) < 0) := by omega
  have hw0 : IntKind.wrap .i64 0 = 0 := wrap_i64 (by omega) (by omega)
  rw [← hs2] at hb
  have hmb : ¬ ((m : Int) * (inf.bytes : Int) > 281474976710656) := by
    have : m * inf.bytes ≤ (n + m) * inf.bytes := Nat.mul_le_mul_right _ (by omega)
    have h2 : ((m * inf.bytes : Nat) : Int) ≤ 140737488355328 := Int.ofNat_le.2 (Nat.le_trans this hb)
    rw [Int.natCast_mul] at h2
    omega
  have hmb' : ¬ (281474976710656 < (m : Int) * (inf.bytes : Int)) := hmb
  have hop : ∀ r, (Builtin.append_ #[T, U] ty #[.slice a0 n n, i64 (m : Int)]).run P w = r → (execOp a.eval ⟨d, .call ⟨.builtin .append, #[x, y], #[T, U]⟩, ty, ps, af, g⟩).run P w = r.andThen fun v w' => .ok (.value v) w' := fun r hr => by
    simp [execOp, resolve, invoke, builtin, ha.ev hx, ha.ev hy, hr]
  by_cases hm0 : m = 0
  · left
    subst hm0
    refine ⟨.slice a0 n n, ?_, rfl, .inl ⟨rfl, rfl, rfl⟩⟩
    rw [hop (.ok (.slice a0 n n) w)]
    · rfl
    · cases a0 <;> simp [Builtin.append_, run_underlying hT, run_underlying hU, sizeOf, typeInfo, zeroValue, hi, hz, asInt, asIntOf, hw0, storeCells]
  · right
    have hlt : n < n + m := by omega
    have hold : (Builtin.firstCells 1 n (.slice a0 n n)).run P w.drew = .ok xs.toArray w.drew := by
      have hm' : Mem I L w.drew := ⟨hm.im, hm.loc, hm.sep, hm.nodup⟩
      have := (Src.sl (P := P) (L := L) hsl).cells w.drew hm' n (Nat.le_refl _)
      rw [← hsl.len, List.take_length] at this; exact this
    have hge := grownCap_ge w (n + m) n E
    have hcm : grownCap w (n + m) n E ≤ maxLen := grownCap_le_maxLen w _ _ E (by unfold maxLen; omega)
    have hfit : ¬ (281474976710656 < Builtin.nextslicecap (n + m) n * inf.bytes) := by have := growslice_fits hlt hb; omega
    have hnle : ¬ (n + m ≤ n) := by omega
    have h63' : ¬ (9223372036854775807 < ((n : Int) + (m : Int))) := by omega
    have hr : (Builtin.append_ #[T, U] ty #[.slice a0 n n, i64 (m : Int)]).run P w = .ok (.slice (some ⟨w.heap.size, 0, none⟩) (n + m) (grownCap w (n + m) n E))
        (w.drew.alloc (.cells (xs.toArray ++ (List.replicate m zv).toArray ++ Builtin.zeroCells zv.cells (grownCap w (n + m) n E - (n + m))) E)) := by
      simp [Builtin.append_, run_underlying hT, run_underlying hU, sizeOf, typeInfo, zeroValue, hi, hz, asInt, asIntOf, hw, hm00, hmb', hnle, h63', hfit, Question.forced, newRow, grownCap, hold, hsz, hzc, hm0]
    refine ⟨.slice (some ⟨w.heap.size, 0, none⟩) (n + m) (grownCap w (n + m) n E), w.drew.alloc (.cells (xs.toArray ++ (List.replicate m zv).toArray ++ Builtin.zeroCells zv.cells (grownCap w (n + m) n E - (n + m))) E),
      .cells (xs.toArray ++ (List.replicate m zv).toArray ++ Builtin.zeroCells zv.cells (grownCap w (n + m) n E - (n + m))) E, by rw [hop _ hr]; rfl, rfl, rfl, rfl, rfl, rfl, .inr ⟨_, rfl, ?_⟩⟩
    have hxl : xs.length = n * 1 := hsl.len
    refine .inr ⟨w.heap.size, grownCap w (n + m) n E, (Builtin.zeroCells zv.cells (grownCap w (n + m) n E - (n + m))).toList, (0, 0), rfl, ?_, ?_, ?_, hge, hcm, .inl rfl⟩
    · congr 3
      apply Array.ext'; simp
    · rw [List.length_append, hxl, List.length_replicate, Nat.add_mul]; omega
    · rw [hzc]
      simp only [List.length_append, hxl, List.length_replicate]
      omega
theorem OpP.appendZC {α : Type} {r : Rep α} {i0 : Inhabited α} {by_ : Nat} {l : List α} {m : Int} {zv : Value} (hT : P.underlying T = some (.slice E)) (h1 : OneT P E by_ zv) (hz1 : zv.cells = #[zv]) (hone : zv.oneCell' = true) (hsz : Rep.size α = 1)
    (hz : ∀ I, rep I (default : α) [zv]) (hU : P.underlying U = some (.int .i64)) (hx : EvA C σ H x (.vc l)) (hy : EvA C σ H y (.v m)) (h0 : 0 ≤ m) (hb : (l.length + m.toNat) * by_ ≤ 140737488355328) (hn : l.length + m.toNat ≤ 9223372036854775807)
    (k : K (.v (l ++ List.replicate m.toNat (default : α)))) : OpP P N C ⟨d, .call ⟨.builtin .append, #[x, y], #[T, U]⟩, ty, ps, af, g⟩ σ H K := fun ρ I L hs => by
  obtain ⟨u, h2, ⟨a0, rfl⟩, xs, hsl, hrl⟩ := hx ρ I L hs
  obtain ⟨h3, _⟩ := hy.int hs
  have hm : m = ((m.toNat : Nat) : Int) := by omega
  rw [hm] at h3
  rw [hsz] at hsl
  refine OpX.frz fun a w ha hmm => (appendXZ hT h1 hz1 hone hU h2 hsl h3 hb hn a w ha hmm).mono ?_
  rintro v' w' ⟨J, X, q1, q2, q3, q4, q5, rfl, hq⟩
  have hrz : ∀ J', repL J' (List.replicate m.toNat (default : α)) (List.replicate m.toNat zv) := fun J' => by
    have := repL_replicate (hz J') m.toNat
    have e : ∀ n, (List.replicate n [zv]).flatten = List.replicate n zv := fun n => by
      induction n with
      | zero => rfl
      | succ n ih => rw [List.replicate_succ, List.flatten_cons, ih, List.replicate_succ]; rfl
    rwa [e] at this
  refine ⟨J, X, q1, q2, q3, q4, q5, fun J' hle hp => ⟨rfl, .v (l ++ List.replicate m.toNat default), ?_, k⟩⟩
  rcases hq with ⟨rfl, hm0, rfl⟩ | ⟨Y, rfl, hown⟩
  · rw [hm0, List.replicate_zero, List.append_nil]
    exact ⟨_, ⟨_, rfl, xs, by rw [hsz]; exact hsl.mono hle, hrl.mono hle⟩, rfl⟩
  · have hown' : (Blk.own E v' (l ++ List.replicate m.toNat (default : α))).brep J Y := ⟨_, by rw [List.length_append, List.length_replicate, hsz]; exact hown, hrl.append (hrz J)⟩
    exact freeze_own hown' hle (fun p hq => hp p (by simp [hq]))
end rules
section forget
variable {P : Program} {C : Ctx} {N : Nat} {σ : AEnv} {H : AHeap}
end forget
def FlatH (r : AV) (Hs : List Blk) : Prop := FlatV r ∧ ∀ I J L, repK I Hs L → repK J Hs L
theorem FlatV.raw {u : Value} : FlatV (.raw u) := fun I J v h => h
theorem FlatH.own {E : TypeId} {α : Type} [Rep α] [RepF α] {u : Value} {l : List α} : FlatH (.raw u) [.own E u l] := ⟨.raw, fun I J L h => by
  obtain ⟨X, R, rfl, ⟨xs, h1, h2⟩, h3⟩ := h
  exact ⟨X, R, rfl, ⟨xs, h1, h2.any⟩, h3⟩⟩
section calls
variable {P : Program} {C : Ctx} {N : Nat} {σ : AEnv} {H : AHeap} {G : Gl} (hG : G.p C.I0) {f : FuncId} {d : Option Nat} {args : Array Operand} {tys : Array TypeId} {ty : TypeId} {ps : String} {af : Array Edge} {g : Option (Nat × Bool)} {ags : List AV}
include hG
theorem OpH.lend0 {post : AV → List Blk → Prop} {K : AV → AHeap → Prop} (h : FunH G P f ags [] post) (hv : EvLs C σ H args.toList ags) (hf : ∀ r Hs, post r Hs → FlatH r Hs) (k : ∀ r Hs, post r Hs → K r (Hs.map (fun B => (true, B)) ++ H)) :
    OpH P C N ⟨d, .call ⟨.value (.func f), args, tys⟩, ty, ps, af, g⟩ σ H K := fun ρ I L hs => by
  obtain ⟨vs, h1, h2⟩ := hv.get hs
  intro a w ha hst
  have hm := hst.mem
  have hcs : ∀ p ∈ L.flatten, I p.1 = none := hm.sep
  have hle0 : Le I (I.with L.flatten) := Im.with_le hcs
  have hM := h (I.with L.flatten) [] vs (G.mono (hs.im0.trans hle0) hG) (h2 _ hle0 (fun p hp => Im.with_mem hm.nodup hp)) rfl
  have hm2 : Mem (I.with L.flatten) [] w := ⟨fun b o hb => by
    rcases Im.with_some hb with h | h
    · exact hm.loc (b, o) h
    · exact hm.im b o h, by simp, by simp, by simp⟩
  rw [run_callOp hM.ok rfl (ha.ev (x := .func f) rfl) (ha.evL h1)]
  refine (hM.run w hm2).mono ?_
  rintro e w' ⟨v, J, L', rfl, hc, hle, hn, hm', hown, r, Hs', q1, q2, q3⟩
  obtain ⟨f1, f2⟩ := hf r Hs' q3
  have hlt : ∀ p ∈ L.flatten, p.1 < w.heap.size := fun p hp => lt_of_get (hm.loc p hp)
  have hnew : ∀ p ∈ L'.flatten, w.heap.size ≤ p.1 := fun p hp => by simpa using hown p hp
  have hmem : Mem I (L' ++ L) w' := by
    refine ⟨fun b o hb => (hc.block b (lt_of_get (hm.im b o hb)) (by simp)).trans (hm.im b o hb), fun p hp => ?_, fun p hp => ?_, ?_⟩
    · simp only [List.flatten_append, List.mem_append] at hp
      rcases hp with hp | hp
      · exact hm'.loc p hp
      · exact (hc.block p.1 (hlt p hp) (by simp)).trans (hm.loc p hp)
    · simp only [List.flatten_append, List.mem_append] at hp
      rcases hp with hp | hp
      · cases hj : I p.1 with
        | none => rfl
        | some o => have := lt_of_get (hm.im p.1 o hj); have := hnew p hp; omega
      · exact hm.sep p hp
    · simp only [List.flatten_append, List.map_append]
      refine List.nodup_append.2 ⟨hm'.nodup, hm.nodup, ?_⟩
      rintro x hx y hy rfl
      obtain ⟨p, hp, rfl⟩ := List.mem_map.1 hx
      obtain ⟨q, hq, hqe⟩ := List.mem_map.1 hy
      have := hnew p hp
      have := hlt q hq
      omega
  refine ⟨v, rfl, I, L' ++ L, hst.step (by simpa using hc) (Le.refl I) (fun b h0 h1 => absurd h0 h1) hmem hnew, Le.refl I, r, _, f1 _ _ _ q1, ?_, k r Hs' q3⟩
  exact ((f2 J I L' q2).toT (fun p hp => Nat.le_trans hst.chg.size (hnew p hp))).append hs.heap
end calls
end Go.Ab
set_option linter.unusedVariables false
namespace Go.Fl
open Go.RowKit
section
variable {P : Program} {C : Ctx} {N : Nat} {ρ : Env} {I : Im} {L : Lh} {d : Option Nat} {F : Operand} {args : Array Operand} {tys : Array TypeId} {ty : TypeId} {ps : String} {af : Array Edge} {g : Option (Nat × Bool)} {vs : List Value}
end
end Go.Fl
set_option linter.unusedVariables false
namespace Go.Fl
open Go.RowKit
section
variable {P : Program} {C : Ctx} {N : Nat} {Q : Exit → Env → Im → Lh → Prop} {ρ : Env} {I : Im} {L : Lh}
end
abbrev Chunk := List (Nat × Obj)
end Go.Fl
set_option linter.unusedVariables false
namespace Go.Ab
open Go.Fl Go.RowKit
open Rep (rep)
structure Iter where
  K : Nat → Im → Chunk → Prop
  Kx : Im → Chunk → Prop
  mono : ∀ k I J Z, Le I J → K k I Z → K k J Z
  monox : ∀ I J Z, Le I J → Kx I Z → Kx J Z
structure ItSt where
  it : Iter
  st : Option Nat
section
variable {P : Program} {C : Ctx} {N : Nat} {Q : Exit → AEnv → AHeap → Prop} {σ : AEnv} {H : AHeap}
end
end Go.Ab
set_option linter.unusedVariables false
namespace Go.Ab
open Go.Fl Go.RowKit
open Rep (rep)
universe u
class TyI (P : Program) (T : TypeId) (α : outParam Type) (r : outParam (Rep α)) (i : outParam (Inhabited α)) : Prop where h : TyIs P T α
class UnI (P : Program) (T : TypeId) (d : outParam TypeDesc) : Prop where h : P.underlying T = some d
class SlI (P : Program) (T : TypeId) (E : outParam TypeId) (α : outParam Type) (n : outParam Nat) (r : outParam (Rep α)) (i : outParam (Inhabited α)) : Prop where h : SlT P T E α n
class FdI (P : Program) (T : TypeId) (i : Nat) (β : outParam Type) (s : outParam (Rep β)) (γ : outParam Type) (q : outParam (Rep γ)) (m : outParam (Lens β γ)) (f : outParam (β → γ)) : Prop where
  h : ∃ sz, fieldOff P T i = some (m.off, sz + 1, Rep.agg γ) ∧ sz + 1 = Rep.size γ
  e : ∀ x, m.get x = f x
  b : Rep.agg β = true
class LnI {β γ : Type} {s : Rep β} {q : Rep γ} (m : Lens β γ) (f : outParam (β → γ)) (g : outParam (γ → β → β)) : Prop where
  e : ∀ x, m.get x = f x
  u : ∀ y x, m.set y x = g y x
class EqS {α : Type u} (x : Option α) (a : outParam α) : Prop where h : x = some a
class TrB (b : Bool) : Prop where h : b = true
class FaB (b : Bool) : Prop where h : b = false
class AsC (c : Bool) (a : AV) (b : outParam AV) : Prop where h : ∀ I u, c = true → RepV I a u → RepV I b u
class VaQ (a : AV) (α : outParam Type) (r : outParam (Rep α)) (x : outParam α) : Prop where h : ∀ I u, RepV I a u → RepV I (.v x) u
class EvQ (c : Bool) (σ : AEnv) (x : Operand) (a : outParam AV) : Prop where h : ∀ C H, c = true → EvA C σ H x a
class EvV (c : Bool) (σ : AEnv) (x : Operand) (α : outParam Type) (r : outParam (Rep α)) (v : outParam α) : Prop where h : ∀ C H, c = true → EvA C σ H x (.v v)
section
variable {P : Program} {σ : AEnv} {x y z : Operand} {c bo : Bool} {n : Nat}
end
class HoQ (H : AHeap) (w : Value) (B : outParam (Bool × Blk)) (F : outParam (Bool × Blk → AHeap)) : Prop where h : Hole H B F
class OpQ (G : Gl) (P : Program) (c : Bool) (o : Oper) (σ : AEnv) (H : AHeap) (r : outParam AV) : Prop where h : ∀ N C, G.p C.I0 → c = true → OpP P N C o σ H (fun a => a = r)
class LdQ (P : Program) (T : TypeId) (a : AV) (H : AHeap) (r : outParam AV) : Prop where h : ∀ N C σ x d ty ps af g, EvA C σ H x a → OpP P N C ⟨d, .load T x, ty, ps, af, g⟩ σ H (fun a => a = r)
class FaQ (P : Program) (T : TypeId) (i : Nat) (a : AV) (r : outParam AV) : Prop where h : ∀ N C σ H x d ty ps af g, EvA C σ H x a → OpP P N C ⟨d, .fieldAddr T x i, ty, ps, af, g⟩ σ H (fun a => a = r)
section
variable {G : Gl} {P : Program} {N : Nat} {c : Bool} {σ : AEnv} {H : AHeap} {d : Option Nat} {ty : TypeId} {ps : String} {af : Array Edge} {g : Option (Nat × Bool)} {x y z : Operand} {T T2 E : TypeId} {bo : Bool} {a b : AV}
section
variable {m n : Int} [hx : EvV c σ x Int inferInstance m] [hy : EvV c σ y Int inferInstance n]
end
section
variable {m n : UInt64} [hx : EvV c σ x UInt64 inferInstance m] [hy : EvV c σ y UInt64 inferInstance n]
end
section
variable {m n : UInt8} [hx : EvV c σ x UInt8 inferInstance m] [hy : EvV c σ y UInt8 inferInstance n]
end
section
variable {m n : Str} [hx : EvV c σ x Str inferInstance m] [hy : EvV c σ y Str inferInstance n]
end
end
class StQ (G : Gl) (P : Program) (ops : List Oper) (o : Oper) (σ : AEnv) (H : AHeap) (σ' : outParam AEnv) (H' : outParam AHeap) : Prop where
  h : ∀ N C Q rest, G.p C.I0 → wpB P C N ops.toArray Q rest σ' H' → wpB P C N ops.toArray Q (o :: rest) σ H
class SoQ (P : Program) (T : TypeId) (a b : AV) (H : AHeap) (H' : outParam AHeap) : Prop where
  h : ∀ N C σ x y ty ps af g KH, EvA C σ H x a → EvA C σ H y b → KH .any H' → OpH P C N ⟨none, .store T x y, ty, ps, af, g⟩ σ H KH
section
variable {G : Gl} {P : Program} {ops : List Oper} {Q : Exit → AEnv → AHeap → Prop} {rest : List Oper} {σ : AEnv} {H H' : AHeap} {ps : String} {af : Array Edge} {x y : Operand} {T ty : TypeId}
end
class AsQ (c : Bool) (σ : AEnv) (xs : List Operand) (ags : outParam (List AV)) : Prop where h : ∀ C H, c = true → EvAs C σ H xs ags
class PlQ (a : AV) (b : outParam AV) : Prop where h : ∀ I u, RepV I a u → RepV I b u
class ElQ (c : Bool) (σ : AEnv) (i : Nat) (ps : List (Nat × Operand)) (α : outParam Type) (r : outParam (Rep α)) (l : outParam (List α)) : Prop where h : ∀ C H, c = true → Elems C σ H i ps l
class SrQ (P : Program) (U : TypeId) (σ : AEnv) (H : AHeap) (y : Operand) (α : Type) (r : Rep α) (m : outParam (List α)) : Prop where
  h : ∀ C, SrcA P C σ H y m
  u : (∃ E2, P.underlying U = some (.slice E2)) ∨ P.underlying U = some .string
section
variable {G : Gl} {P : Program} {C : Ctx} {N : Nat} {c : Bool} {ops : List Oper} {Q : Exit → AEnv → AHeap → Prop} {rest : List Oper} {σ : AEnv} {H : AHeap} {d : Nat} {ps : String} {af : Array Edge} {x y : Operand} {T T2 E U ty : TypeId} {m n : Int}
end
inductive It where
  | a (c : Code) (Q : Exit → AEnv → AHeap → Prop)
  | b (ops : List Oper) (Q : Exit → AEnv → AHeap → Prop) (l : List Oper)
  | q (Q : Exit → AEnv → AHeap → Prop) (e : Exit)
@[reducible] def It.G (P : Program) (C : Ctx) (N : Nat) : It → AEnv → AHeap → Prop
  | .a c Q, σ, H => wpA P C N c Q σ H
  | .b ops Q l, σ, H => wpB P C N ops.toArray Q l σ H
  | .q Q e, σ, H => Q e σ H
class Rn (G : Gl) (P : Program) (C : Ctx) (N : Nat) (n : Nat) (i : It) (σ : AEnv) (H : AHeap) (A : outParam Prop) : Prop where h : G.p C.I0 → A → i.G P C N σ H
section
variable {G : Gl} {P : Program} {C : Ctx} {N n : Nat} {A : Prop} {ops : List Oper} {Q Q0 : Exit → AEnv → AHeap → Prop} {l : List Oper} {σ : AEnv} {H : AHeap} {c x y : Code} {e : Exit} {id i : Nat}
end
end Go.Ab
set_option maxRecDepth 1000000
namespace Go.Proofs.YtdhfibhjfahdcaaDoor
open Go.Ab Go.Mac
theorem ty3 : TyIs Tryd.prog 3 Int := .of (by kernel_rfl) (by kernel_rfl) (by kernel_rfl) (by decide)
theorem ty4 : TyIs Tryd.prog 4 Bool := .of (by kernel_rfl) (by kernel_rfl) (by kernel_rfl) (by decide)
theorem ty5 : TyIs Tryd.prog 5 UInt8 := .of (by kernel_rfl) (by kernel_rfl) (by kernel_rfl) (by decide)
theorem ty22 : TyIs Tryd.prog 22 (List Int) := .of (by kernel_rfl) (by kernel_rfl) (by kernel_rfl) (by decide)
theorem ty23 : TyIs Tryd.prog 23 (List UInt8) := .of (by kernel_rfl) (by kernel_rfl) (by kernel_rfl) (by decide)
theorem ty28 : TyIs Tryd.prog 28 (Arr 32 UInt8) := .of (by kernel_rfl) (by kernel_rfl) (by kernel_rfl) (by decide)
theorem ty29 : TyIs Tryd.prog 29 (List G_api_Mac) := .of (by kernel_rfl) (by kernel_rfl) (by kernel_rfl) (by decide)
theorem ty30 : TyIs Tryd.prog 30 (List G_api_Sealed) := .of (by kernel_rfl) (by kernel_rfl) (by kernel_rfl) (by decide)
theorem ty32 : TyIs Tryd.prog 32 G_api_Algebra := .of (by kernel_rfl) (by kernel_rfl) (by kernel_rfl) (by decide)
theorem ty35 : TyIs Tryd.prog 35 Int := .of (by kernel_rfl) (by kernel_rfl) (by kernel_rfl) (by decide)
theorem ty44 : TyIs Tryd.prog 44 G_macaroonmade_Deck := .of (by kernel_rfl) (by kernel_rfl) (by kernel_rfl) (by decide)
theorem ty53 : TyIs Tryd.prog 53 G_api_Mac := .of (by kernel_rfl) (by kernel_rfl) (by kernel_rfl) (by decide)
theorem ty55 : TyIs Tryd.prog 55 G_api_Sealed := .of (by kernel_rfl) (by kernel_rfl) (by kernel_rfl) (by decide)
theorem st23 : SlT Tryd.prog 23 5 UInt8 1 := ⟨.of (by kernel_rfl), ty5⟩
theorem st29 : SlT Tryd.prog 29 53 G_api_Mac 88 := ⟨.of (by kernel_rfl), ty53⟩
theorem st30 : SlT Tryd.prog 30 55 G_api_Sealed 88 := ⟨.of (by kernel_rfl), ty55⟩
end Go.Proofs.YtdhfibhjfahdcaaDoor
set_option maxRecDepth 1000000
set_option linter.unusedVariables false
namespace Go.Mac
open Go.Fl Go.Ab Go.Sha
abbrev Tag := Arr 32 UInt8
def h8 (a : Arr 8 UInt32) : H8 := ⟨a.l.getD 0 0, a.l.getD 1 0, a.l.getD 2 0, a.l.getD 3 0, a.l.getD 4 0, a.l.getD 5 0, a.l.getD 6 0, a.l.getD 7 0⟩
def arr8 (x : H8) : Arr 8 UInt32 := ⟨x.l, rfl⟩
theorem h8_arr8 (x : H8) : h8 (arr8 x) = x := rfl
theorem h8_l (a : Arr 8 UInt32) : (h8 a).l = a.l := by
  obtain ⟨l, h⟩ := a
  match l, h with
  | [a, b, c, d, e, f, g, i], _ => rfl
def sha (l : List UInt8) : Tag := ⟨sha256 l, sha256_length l⟩
theorem digest_length (x : H8) (r : List UInt8) (n : Nat) : (digest x r n).length = 32 := by rw [digest, flat_length, H8.length]
def hNew : G_api_Hash := ⟨arr8 iv, [], 0⟩
def hWrite (h : G_api_Hash) (b : List UInt8) : G_api_Hash := ⟨arr8 (absorb (h8 h.H) (h.Rest ++ b)), rest (h.Rest ++ b), h.Len + b.length⟩
def hSum (h : G_api_Hash) : Tag := ⟨digest (h8 h.H) h.Rest h.Len.toNat, digest_length _ _ _⟩
def hOf (l : List UInt8) : G_api_Hash := ⟨arr8 (absorb iv l), rest l, l.length⟩
@[simp] theorem hNew_eq : hNew = hOf [] := rfl
@[simp] theorem hWrite_hOf (l m : List UInt8) : hWrite (hOf l) m = hOf (l ++ m) := by
  simp only [hWrite, hOf, h8_arr8, absorb_append, rest_append, List.length_append]
  congr 1
@[simp] theorem hSum_hOf (l : List UInt8) : hSum (hOf l) = sha l := by
  apply Arr.ext
  show digest (h8 (arr8 (absorb iv l))) (rest l) (Int.toNat (l.length : Int)) = sha256 l
  rw [h8_arr8, Int.toNat_natCast]; rfl
@[simp] theorem hOf_Rest (l : List UInt8) : (hOf l).Rest.length = l.length % 64 := rest_length l
@[simp] theorem hOf_Len (l : List UInt8) : (hOf l).Len = l.length := rfl
end Go.Mac
namespace Go.Proofs.YtdhfibhjfahdcaaDoor
open Go.Fl Go.Ab Go.Sha Go.Mac
def glX : Gl := Gl.no
def gl : Gl := ⟨fun I => Cells I 0 0 (kk.map Fl.u32) ∧ glX.p I, fun hle h => ⟨h.1.mono hle, glX.mono hle h.2⟩⟩
theorem cells_h8 (a : Arr 8 UInt32) : a.l.map Fl.u32 = (h8 a).cells := by
  rw [← h8_l a]; rfl
theorem slA_u8 {I : Im} {v : Value} {l : List UInt8} : SlA I v l ↔ Sl I 1 v l.length (bytesV l) := by
  constructor
  · rintro ⟨xs, h1, h2⟩
    rw [repL_u8.1 h2] at h1; exact h1
  · intro h; exact ⟨_, h, repL_u8.2 rfl⟩
theorem hash_open {I : Im} {h : G_api_Hash} {u : Value} (hu : RepV I (.v h) u) : ∃ sv, u = .agg ((h8 h.H).cells ++ [sv, i64 h.Len]).toArray ∧ Sl I 1 sv h.Rest.length (bytesV h.Rest) := by
  obtain ⟨cs, ⟨c1, r1, rfl, h1, c2, r2, rfl, ⟨sv, rfl, h2⟩, c3, r3, rfl, ⟨rfl, _⟩, h4⟩, rfl⟩ := hu
  cases h4
  have := repL_u32.1 h1
  subst this
  exact ⟨sv, by rw [← cells_h8]; rfl, slA_u8.1 h2⟩
theorem hash_close {I : Im} {h : G_api_Hash} {sv : Value} (hs : Sl I 1 sv h.Rest.length (bytesV h.Rest)) (h1 : -9223372036854775808 ≤ h.Len) (h2 : h.Len ≤ 9223372036854775807) : RepV I (.v h) (.agg ((h8 h.H).cells ++ [sv, i64 h.Len]).toArray) := by
  refine ⟨h.H.l.map Fl.u32 ++ ([sv] ++ ([i64 h.Len] ++ [])), ⟨_, _, rfl, repL_u32.2 rfl, _, _, rfl, ⟨sv, rfl, slA_u8.2 hs⟩, _, _, rfl, ⟨rfl, h1, h2⟩, rfl⟩, ?_⟩
  rw [cells_h8]; rfl
theorem bytes_open {I : Im} {l : List UInt8} {u : Value} (hu : RepV I (.v l) u) : Sl I 1 u l.length (bytesV l) := by
  obtain ⟨cs, ⟨v, rfl, h⟩, rfl⟩ := hu
  exact slA_u8.1 h
theorem bytes_close {I : Im} {l : List UInt8} {u : Value} (h : Sl I 1 u l.length (bytesV l)) : RepV I (.v l) u := ⟨[u], ⟨u, rfl, slA_u8.2 h⟩, rfl⟩
theorem tag_close {I : Im} {t : Tag} : RepV I (.v t) (.agg (bytesV t.l).toArray) := ⟨bytesV t.l, repL_u8.2 rfl, rfl⟩
theorem New_c : FunA gl Tryd.prog 45 [] (fun r => r = .v hNew) := fun I vs hG hvs => by
  cases hvs
  refine (New_fun I).mono fun v J hle hv => ⟨_, ?_, rfl⟩
  subst hv
  exact hash_close (h := hNew) (Sl.nil J 1) (by decide) (by decide)
theorem Write_c (h : G_api_Hash) (b : List UInt8) (h0 : 0 ≤ h.Len) (h1 : h.Rest.length + b.length ≤ 35184372088832) (h2 : h.Len + b.length ≤ 4611686018427387904) :
    FunA gl Tryd.prog 44 [.v h, .v b] (fun r => r = .v (hWrite h b)) := fun I vs hG hvs => by
  obtain ⟨u, r, rfl, hu, u2, r2, rfl, hu2, rfl⟩ := hvs
  obtain ⟨sv, rfl, hs⟩ := hash_open hu
  obtain ⟨n, hn⟩ := Int.eq_ofNat_of_zero_le h0
  have hw := Write_fun I (h8 h.H) sv h.Rest n u2 b hs (bytes_open hu2) h1 (by omega) hG.1
  rw [hn]
  refine hw.mono fun v J hle ⟨sv', hv, hs'⟩ => ⟨_, ?_, rfl⟩
  subst hv
  have e : (hWrite h b).Len = ((n + b.length : Nat) : Int) := by simp [hWrite, hn]
  have := hash_close (I := J) (h := hWrite h b) (sv := sv') hs' (by rw [e]; omega) (by rw [e]; omega)
  rw [e] at this
  exact this
theorem Sum_c (h : G_api_Hash) (h0 : 0 ≤ h.Len) (h1 : h.Rest.length ≤ 17592186044416) (h2 : h.Len ≤ 2305843009213693952) : FunA gl Tryd.prog 43 [.v h] (fun r => r = .v (hSum h)) := fun I vs hG hvs => by
  obtain ⟨u, r, rfl, hu, rfl⟩ := hvs
  obtain ⟨sv, rfl, hs⟩ := hash_open hu
  obtain ⟨n, hn⟩ := Int.eq_ofNat_of_zero_le h0
  have hw := Sum_fun I (h8 h.H) sv h.Rest n hs h1 (by omega) hG.1
  rw [hn]
  refine hw.mono fun v J hle hv => ⟨_, ?_, rfl⟩
  subst hv
  have e : (hSum h).l = digest (h8 h.H) h.Rest n := by simp [hSum, hn]
  rw [← e]
  exact tag_close
theorem Of_c (b : List UInt8) (h1 : b.length ≤ 17592186044416) : FunA gl Tryd.prog 42 [.v b] (fun r => r = .v (sha b)) := fun I vs hG hvs => by
  obtain ⟨u, r, rfl, hu, rfl⟩ := hvs
  refine (Of_fun I u b (bytes_open hu) h1 hG.1).mono fun v J hle hv => ⟨_, ?_, rfl⟩
  subst hv
  exact tag_close (t := sha b)
theorem rSha_c (b : List UInt8) (h1 : b.length ≤ 17592186044416) : FunA gl Tryd.prog 47 [.v b] (fun r => r = .v (sha b)) := fun I vs hG hvs => by
  obtain ⟨u, r, rfl, hu, rfl⟩ := hvs
  refine (Sha_fun I u b (bytes_open hu) h1).mono fun v J hle hv => ⟨_, ?_, rfl⟩
  subst hv
  rw [refSha_eq]
  exact tag_close (t := sha b)
theorem Eight_c (n : UInt64) : FunA gl Tryd.prog 32 [.v n] (fun r => r = .v (be64 n 8)) := fun I vs hG hvs => by
  obtain ⟨u, r, rfl, hu, rfl⟩ := hvs
  obtain ⟨cs, rfl, rfl⟩ := hu
  exact (Eight_fun I n).mono fun v J hle hv => ⟨_, bytes_close (by rw [be64_length]; exact hv), rfl⟩
end Go.Proofs.YtdhfibhjfahdcaaDoor
set_option maxRecDepth 1000000
set_option linter.unusedVariables false
set_option linter.unusedSimpArgs false
namespace Go.Proofs.YtdhfibhjfahdcaaDoor
open Go.Fl Go.Ab Go.Mac
theorem u8_or_zero (a b : UInt8) : (a ||| b = 0) ↔ (a = 0 ∧ b = 0) := by
  rw [← UInt8.toBitVec_inj, ← UInt8.toBitVec_inj, ← UInt8.toBitVec_inj]
  simp only [UInt8.toBitVec_or, UInt8.toBitVec_ofNat]
  exact BitVec.or_eq_zero_iff
theorem u8_xor_zero (a b : UInt8) : (a ^^^ b = 0) ↔ a = b := by
  rw [← UInt8.toBitVec_inj, ← UInt8.toBitVec_inj]
  simp only [UInt8.toBitVec_xor, UInt8.toBitVec_ofNat]
  exact BitVec.xor_eq_zero_iff
theorem take_eq_succ {α : Type} (a b : List α) (k : Nat) (h1 : k < a.length) (h2 : k < b.length) : (a.take (k + 1) = b.take (k + 1)) ↔ (a.take k = b.take k ∧ a[k] = b[k]) := by
  rw [List.take_succ_eq_append_getElem h1, List.take_succ_eq_append_getElem h2]
  constructor
  · intro h
    have h3 := List.append_inj h (by simp; omega)
    exact ⟨h3.1, by simpa using h3.2⟩
  · rintro ⟨h3, h4⟩
    rw [h3, h4]
theorem Same_c (a b : List UInt8) : FunA gl Tryd.prog 27 [.v a, .v b] (fun r => r = .v (decide (a = b))) := by
  refine FunA.intro Tryd.func27 rfl (by kernel_rfl) 26 rfl rfl _ rfl fun C hC hG => ?_
  refine .seq ?_
  refine .region rfl ?_
  refine .p (.assign .b ?_)
  refine .nil ?_
  refine .seq ?_
  refine .seq ?_
  refine .lenLe 0 rfl fun hl0 => ?_
  refine .region rfl ?_
  refine .p (.move (.t rfl) (.p (.len Tryd.underlying23 (.t rfl) (.p (.move (.t rfl) (.p (.len Tryd.underlying23 (.t rfl) (.p (.neqI (.t rfl) (.t rfl) ?_)))))))))
  refine .nil ?_
  refine .condP (.t rfl) (fun hc10 => ?_) (fun hc10 => ?_)
  · refine .seq ?_
    refine .region rfl ?_
    refine .p (.assign .b ?_)
    refine .nil ?_
    refine .ret ?_
    refine ⟨_, .r1 rfl (.tmp rfl), ?_⟩
    exact congrArg AV.v (by rw [eq_comm, decide_eq_false_iff_not]; rintro rfl; exact hc10 rfl)
  · refine .skip ?_
    refine .seq ?_
    refine .seq ?_
    refine .region rfl ?_
    refine .p (.assign (.i rfl) ?_)
    refine .nil ?_
    refine .block ?_
    refine .loopR (α := Nat) [(0, _), (1, _)] (fun k R => (5, .v (k : Int)) :: R) (fun k => []) (fun k => k ≤ a.length ∧ a.take k = b.take k) (fun k => a.length - k) (0) (.cons rfl (.cons rfl (.nil _))) ?_ (.cons rfl (.cons rfl (.cons rfl (.nil _)))) (rfl) fun k hF => ?_
    · simp
    obtain ⟨h1, h2⟩ := hF
    refine .seq ?_
    refine .seq ?_
    refine .region rfl ?_
    refine .p (.move (.t rfl) (.p (.move (.t rfl) (.p (.len Tryd.underlying23 (.t rfl) (.p (.lss (.t rfl) (.t rfl) ?_)))))))
    refine .nil ?_
    refine .condP (.t rfl) (fun hc14 => ?_) (fun hc14 => ?_)
    · refine .skip ?_
      refine .seq ?_
      refine .block ?_
      refine .seq ?_
      refine .draw (by kernel_rfl) 9 [[], [], [(17, 0), (18, 1)], [(19, 2)], [], [], [(21, 4), (22, 5)], [(23, 6)], [(20, 3), (24, 7)]] rfl (by kernel_rfl) rfl ?_
      refine ⟨_, OpP.move (.t rfl) rfl, ?_⟩
      refine ⟨_, OpP.move (.t rfl) rfl, ?_⟩
      refine ⟨_, OpP.idx ty5 Tryd.underlying23 (.t rfl) (.t rfl) (by first | omega | (simp; done) | (simp; omega) | (simp at *; omega)) (by first | omega | (simp; done) | (simp; omega) | (simp at *; omega)) rfl, ?_⟩
      refine ⟨_, OpP.ldP ty5 (.t rfl) rfl, ?_⟩
      refine ⟨_, OpP.move (.t rfl) rfl, ?_⟩
      refine ⟨_, OpP.move (.t rfl) rfl, ?_⟩
      refine ⟨_, OpP.idx ty5 Tryd.underlying23 (.t rfl) (.t rfl) (by first | omega | (simp; done) | (simp; omega) | (simp at *; omega)) (by first | omega | (simp; done) | (simp; omega) | (simp at *; omega)) rfl, ?_⟩
      refine ⟨_, OpP.ldP ty5 (.t rfl) rfl, ?_⟩
      refine ⟨_, OpP.neq8 (.t rfl) (.t rfl) rfl, ?_⟩
      show wpB _ _ _ _ _ _ ((25, _) :: (24, _) :: (23, _) :: (22, _) :: (21, _) :: (20, _) :: (19, _) :: (18, _) :: (17, _) :: _) _
      refine .nil ?_
      refine .condP (.t rfl) (fun hc25 => ?_) (fun hc25 => ?_)
      · refine .seq ?_
        refine .region rfl ?_
        refine .p (.assign .b ?_)
        refine .nil ?_
        refine .ret ?_
        refine ⟨_, .r1 rfl (.tmp rfl), ?_⟩
        exact congrArg AV.v (by rw [eq_comm, decide_eq_false_iff_not]; rintro rfl; exact hc25 rfl)
      · refine .skip ?_
        refine .region rfl ?_
        refine .p (.move (.t rfl) (.p (.add (.t rfl) (.i rfl) (by first | omega | (simp; done) | (simp; omega) | (simp at *; omega)) (by first | omega | (simp; done) | (simp; omega) | (simp at *; omega)) (.p (.assign (.t rfl) ?_)))))
        refine .nil ?_
        refine ⟨k + 1, .cons rfl (.cons rfl (.cons rfl (.nil _))), rfl, ?_, by omega⟩
        exact ⟨by omega, (take_eq_succ a b k (by omega) (by omega)).2 ⟨h2, by simpa using hc25⟩⟩
    · refine .exit ?_
      refine .seq ?_
      refine .region rfl ?_
      refine .p (.assign .b ?_)
      refine .nil ?_
      refine .ret ?_
      refine ⟨_, .r1 rfl (.tmp rfl), ?_⟩
      refine congrArg AV.v (by rw [eq_comm, decide_eq_true_eq]; rwa [List.take_of_length_le (by omega), List.take_of_length_le (by omega)] at h2)
theorem Within_c (x n : Int) (h0 : 0 < n) (h1 : n ≤ 4611686018427387904) : FunA gl Tryd.prog 30 [.v x, .v n] (fun r => r = .v (x % n)) := by
  have h2 := Int.tmod_lt_of_pos x h0
  have h3 : -n < x.tmod n := Int.lt_tmod_of_pos x h0
  have h4 : (x.tmod n + n) % n = x % n := by
    rw [Int.add_emod_right, Int.tmod_def, Int.sub_mul_emod_self_left]
  refine FunA.intro Tryd.func30 rfl (by kernel_rfl) 12 rfl rfl _ rfl fun C hC hG => ?_
  refine .seq ?_
  refine .region rfl ?_
  refine .p (.assign (.i rfl) ?_)
  refine .nil ?_
  refine .seq ?_
  refine .region rfl ?_
  refine .p (.move (.t rfl) (.p (.move (.t rfl) (.p (.tmod (.t rfl) (.t rfl) (by omega) (.p (.move (.t rfl) (.p (.add (.t rfl) (.t rfl) (by first | omega | (simp; done) | (simp; omega) | (simp at *; omega)) (by first | omega | (simp; done) | (simp; omega) | (simp at *; omega)) (.p (.move (.t rfl) ?_)))))))))))
  refine .p (.rem (.t rfl) (.t rfl) (by first | omega | (simp; done) | (simp; omega) | (simp at *; omega)) (by first | omega | (simp; done) | (simp; omega) | (simp at *; omega)) (.p (.assign (.t rfl) ?_)))
  refine .nil ?_
  refine .ret ?_
  refine ⟨_, .r1 rfl (.tmp rfl), ?_⟩
  rw [h4]
def labelC (c : UInt8) : Bool := decide (97 ≤ c) && decide (c ≤ 122)
def isLabel (s : Str) : Bool := decide (1 ≤ s.l.length) && decide (s.l.length ≤ 16) && s.l.all labelC
theorem all_succ {α : Type} (p : α → Bool) (l : List α) (k : Nat) (h : k < l.length) : (l.take (k + 1)).all p = ((l.take k).all p && p l[k]) := by
  rw [List.take_succ_eq_append_getElem h, List.all_append]; simp
theorem all_at {α : Type} (p : α → Bool) (l : List α) (k : Nat) (h : k < l.length) (hf : p l[k] = false) : l.all p = false := by
  rw [List.all_eq_false]; exact ⟨l[k], List.getElem_mem h, by simp [hf]⟩
theorem Name_c (s : Str) : FunA gl Tryd.prog 49 [.v s] (fun r => r = .v (isLabel s)) := by
  refine FunA.intro Tryd.func49 rfl (by kernel_rfl) 28 rfl rfl _ rfl fun C hC hG => ?_
  refine .seq ?_
  refine .region rfl ?_
  refine .p (.assign .b ?_)
  refine .nil ?_
  refine .seq ?_
  refine .seq ?_
  refine .strLe 0 rfl fun hs => ?_
  refine .region rfl ?_
  refine .p (.move (.t rfl) (.p (.lenS Tryd.underlying9 (.t rfl) (.p (.lss (.t rfl) (.i rfl) (.p (.move (.t rfl) ?_)))))))
  refine .go 7 rfl (.t rfl) (fun hg8 => .move (.t rfl) rfl) ?_
  refine .go 7 rfl (.t rfl) (fun hg9 => .lenS Tryd.underlying9 (.o rfl (beq_iff_eq.2 hg9)) rfl) ?_
  refine .go 7 rfl (.t rfl) (fun hg10 => .gtr (.o rfl (beq_iff_eq.2 hg10)) (.i rfl) rfl) ?_
  refine .p (.pickOr (.t rfl) (fun hp => (.o rfl (beq_iff_eq.2 hp))) ?_)
  refine .nil ?_
  refine .cond (.t rfl) (fun hc11 => ?_) (fun hc11 => ?_)
  · refine .seq ?_
    refine .region rfl ?_
    refine .p (.assign .b ?_)
    refine .nil ?_
    refine .ret ?_
    refine ⟨_, .r1 rfl (.tmp rfl), ?_⟩
    refine congrArg AV.v ?_; simp only [Bool.or_eq_true, decide_eq_true_eq] at hc11; unfold isLabel; rcases hc11 with h | h
    · rw [decide_eq_false (show ¬ 1 ≤ s.l.length by omega)]; rfl
    · rw [decide_eq_false (show ¬ s.l.length ≤ 16 by omega)]; simp
  · refine .skip ?_
    refine .seq ?_
    refine .seq ?_
    refine .region rfl ?_
    refine .p (.assign (.i rfl) ?_)
    refine .nil ?_
    refine .block ?_
    refine .loopR (α := Nat) [(0, _)] (fun k R => (3, .v (k : Int)) :: R) (fun k => []) (fun k => k ≤ s.l.length ∧ (s.l.take k).all labelC = true) (fun k => s.l.length - k) (0) (.cons rfl (.nil _)) ?_ (.cons rfl (.cons rfl (.nil _))) (rfl) fun k hF => ?_
    · simp
    obtain ⟨h1, h2⟩ := hF
    refine .seq ?_
    refine .seq ?_
    refine .region rfl ?_
    refine .p (.move (.t rfl) (.p (.move (.t rfl) (.p (.lenS Tryd.underlying9 (.t rfl) (.p (.lss (.t rfl) (.t rfl) ?_)))))))
    refine .nil ?_
    refine .condP (.t rfl) (fun hc15 => ?_) (fun hc15 => ?_)
    · refine .skip ?_
      refine .seq ?_
      refine .block ?_
      refine .seq ?_
      refine .region rfl ?_
      refine .p (.move (.t rfl) (.p (.move (.t rfl) (.p (.ixStr Tryd.underlying9 (.t rfl) (.t rfl) (by first | omega | (simp; done) | (simp; omega) | (simp at *; omega)) (by first | omega | (simp; done) | (simp; omega) | (simp at *; omega)) (.p (.lss8 (.t rfl) (.u8 97 rfl) (.p (.move (.t rfl) ?_)))))))))
      refine .go 22 rfl (.t rfl) (fun hg23 => .move (.t rfl) rfl) ?_
      refine .go 22 rfl (.t rfl) (fun hg24 => .move (.t rfl) rfl) ?_
      refine .go 22 rfl (.t rfl) (fun hg25 => .ixStr Tryd.underlying9 (.o rfl (beq_iff_eq.2 hg25)) (.o rfl (beq_iff_eq.2 hg25)) (by first | omega | (simp; omega) | (have := hg25; simp at this; omega)) (by first | omega | (simp; omega) | (have := hg25; simp at this; omega)) rfl) ?_
      refine .go 22 rfl (.t rfl) (fun hg26 => .gtr8 (.o rfl (beq_iff_eq.2 hg26)) (.u8 122 rfl) rfl) ?_
      refine .p (.pickOr (.t rfl) (fun hp => (.o rfl (beq_iff_eq.2 hp))) ?_)
      refine .nil ?_
      refine .cond (.t rfl) (fun hc27 => ?_) (fun hc27 => ?_)
      · refine .seq ?_
        refine .region rfl ?_
        refine .p (.assign .b ?_)
        refine .nil ?_
        refine .ret ?_
        refine ⟨_, .r1 rfl (.tmp rfl), ?_⟩
        refine congrArg AV.v (Eq.symm ?_); unfold isLabel; rw [all_at labelC s.l k (by omega), Bool.and_false]; unfold labelC; simp only [Bool.or_eq_true, decide_eq_true_eq, Int.toNat_natCast] at hc27; rcases hc27 with h | h
        · rw [decide_eq_false (UInt8.not_le.2 h)]; rfl
        · rw [decide_eq_false (UInt8.not_le.2 h), Bool.and_false]
      · refine .skip ?_
        refine .region rfl ?_
        refine .p (.move (.t rfl) (.p (.add (.t rfl) (.i rfl) (by first | omega | (simp; done) | (simp; omega) | (simp at *; omega)) (by first | omega | (simp; done) | (simp; omega) | (simp at *; omega)) (.p (.assign (.t rfl) ?_)))))
        refine .nil ?_
        refine ⟨k + 1, .cons rfl (.cons rfl (.nil _)), rfl, ?_, by omega⟩
        refine ⟨by omega, ?_⟩; rw [all_succ _ _ _ (by omega), h2]; simp only [Bool.or_eq_false_iff, decide_eq_false_iff_not, UInt8.not_lt, Int.toNat_natCast] at hc27; simpa [labelC] using hc27
    · refine .exit ?_
      refine .seq ?_
      refine .region rfl ?_
      refine .p (.assign .b ?_)
      refine .nil ?_
      refine .ret ?_
      refine ⟨_, .r1 rfl (.tmp rfl), ?_⟩
      refine congrArg AV.v (Eq.symm ?_); simp only [Bool.or_eq_false_iff, decide_eq_false_iff_not] at hc11; unfold isLabel; rw [List.take_of_length_le (by omega)] at h2; rw [h2]; simp; omega
def key0 (key : List UInt8) : List UInt8 := key ++ List.replicate (64 - key.length) 0
def padded (key : List UInt8) (x : UInt8) : List UInt8 := (key0 key).map (· ^^^ x)
theorem key0_length (key : List UInt8) (h : key.length ≤ 64) : (key0 key).length = 64 := by simp [key0]; omega
@[simp] theorem padded_len (key : List UInt8) (x : UInt8) : (padded key x).length = max 64 key.length := by simp [padded, key0]; omega
theorem padded_length (key : List UInt8) (x : UInt8) (h : key.length ≤ 64) : (padded key x).length = 64 := by simp [padded, key0_length key h]
theorem map_front {α : Type} (f : α → α) (l : List α) (k : Nat) (h : k < l.length) : ((l.take k).map f ++ l.drop k).set k (f l[k]) = (l.take (k + 1)).map f ++ l.drop (k + 1) := by
  rw [List.set_append_right _ _ (by simp; omega)]
  have e : k - ((l.take k).map f).length = 0 := by simp; omega
  rw [e, List.drop_eq_getElem_cons h, List.set_cons_zero, List.take_succ_eq_append_getElem h]
  simp only [List.map_append, List.map_cons, List.map_nil, List.append_assoc, List.cons_append, List.nil_append]
theorem map_front_get {α : Type} (f : α → α) (l : List α) (k : Nat) (h : k < l.length) (h2 : k < ((l.take k).map f ++ l.drop k).length) : ((l.take k).map f ++ l.drop k)[k] = l[k] := by
  rw [List.getElem_append_right (by simp; omega)]
  simp [Nat.min_eq_left (Nat.le_of_lt h)]
theorem map_step {α : Type} (f : α → α) (l : List α) (k : Nat) (h : k < l.length) (h2 : k < ((l.take k).map f ++ l.drop k).length) : ((l.take k).map f ++ l.drop k).set k (f (((l.take k).map f ++ l.drop k)[k])) = (l.take (k + 1)).map f ++ l.drop (k + 1) := by
  rw [map_front_get f l k h h2]; exact map_front f l k h
theorem copy_zero (key : List UInt8) (f : UInt8 → UInt8) (hk : key.length ≤ 64) : key.take (List.replicate 64 (0 : UInt8)).length ++ (List.replicate 64 (0 : UInt8)).drop key.length = ((key0 key).take 0).map f ++ (key0 key).drop 0 := by
  rw [List.length_replicate, List.drop_replicate, List.take_of_length_le hk]
  rfl
theorem len64 (key : List UInt8) (hk : key.length ≤ 64) : (key.take (List.replicate (Int.toNat 64) (default : UInt8)).length ++ (List.replicate (Int.toNat 64) (default : UInt8)).drop key.length).length = 64 := by
  rw [List.length_append, List.length_take, List.length_drop, List.length_replicate]
  show min 64 key.length + (64 - key.length) = 64
  omega
theorem pad_c (key : List UInt8) (x : UInt8) (hk : key.length ≤ 64) : FunA gl Tryd.prog 46 [.v key, .v x] (fun r => r = .v (padded key x)) := by
  have hl := key0_length key hk
  have e64 := len64 key hk
  refine FunA.intro Tryd.func46 rfl (by kernel_rfl) 25 rfl rfl _ rfl fun C hC hG => ?_
  refine .seq ?_
  refine .region rfl ?_
  refine .p (.assign (.nilS (α := UInt8)) ?_)
  refine .nil ?_
  refine .seq ?_
  refine .region rfl ?_
  refine .h (.make st23 (.i rfl) (by first | omega | (simp; done) | (simp; omega) | (simp at *; omega)) (by first | omega | (simp; done) | (simp; omega) | (simp at *; omega)) (by first | omega | (simp; done) | (simp; omega) | (simp at *; omega)) fun b7 => .p (.assign (.t rfl) ?_))
  refine .nil ?_
  refine .seq ?_
  refine .region rfl ?_
  refine .p (.move (.t rfl) (.p (.move (.t rfl) (.h (.copyOwn ty5 Tryd.underlying23 rfl .z (.v (.t rfl)) (by first | omega | (simp; done) | (simp; omega) | (simp at *; omega)) ?_)))))
  refine .nil ?_
  refine .seq ?_
  refine .seq ?_
  refine .region rfl ?_
  refine .p (.move (.t rfl) (.p (.lenOwn Tryd.underlying23 rfl .z (.p (.move (.i rfl) ?_)))))
  refine .nil ?_
  refine .block ?_
  refine .loopR (α := Nat) [(1, _), (5, _), (12, _)] (fun k R => (13, .v (k : Int)) :: R) (fun k => [(true, .own 5 (slc b7 0 64 64) (((key0 key).take k).map (· ^^^ x) ++ (key0 key).drop k))]) (fun k => k ≤ 64) (fun k => 64 - k) (0) (.cons rfl (.cons rfl (.cons rfl (.nil _)))) ?_ (.cons rfl (.cons rfl (.cons rfl (.cons rfl (.nil _))))) (congrArg (fun q => [(true, Blk.own _ _ q)]) (copy_zero key _ hk)) fun k hF => ?_
  · simp
  refine .seq ?_
  refine .region rfl ?_
  refine .p (.lss (.t rfl) (.t rfl) ?_)
  refine .nil ?_
  refine .seq ?_
  refine .condP (.t rfl) (fun hc14 => ?_) (fun hc14 => ?_)
  · refine .skip ?_
    refine .seq ?_
    refine .block ?_
    refine .seq ?_
    refine .region rfl ?_
    refine .p (.move (.t rfl) (.p (.assign (.t rfl) ?_)))
    refine .nil ?_
    refine .region rfl ?_
    refine .p (.move (.t rfl) (.p (.move (.t rfl) (.p (.idxOwn ty5 Tryd.underlying23 rfl .z (.t rfl) (by first | omega | (simp; done) | (simp; omega) | (simp at *; omega)) (by first | omega | (simp; done) | (simp; omega) | (simp at *; omega)) (.p (.ldEW ty5 (.t rfl) .z (by first | omega | (simp; done) | (simp; omega) | (simp at *; omega)) (.p (.move (.t rfl) (.p (.xor8 (.t rfl) (.t rfl) ?_)))))))))))
    refine .p (.idxOwn ty5 Tryd.underlying23 rfl .z (.t rfl) (by first | omega | (simp; done) | (simp; omega) | (simp at *; omega)) (by first | omega | (simp; done) | (simp; omega) | (simp at *; omega)) (.n (.stEW ty5 (.t rfl) (.t rfl) .z (by first | omega | (simp; done) | (simp; omega) | (simp at *; omega)) ?_)))
    refine .nil ?_
    refine .region rfl ?_
    refine .p (.add (.t rfl) (.i rfl) (by first | omega | (simp; done) | (simp; omega) | (simp at *; omega)) (by first | omega | (simp; done) | (simp; omega) | (simp at *; omega)) (.p (.move (.t rfl) ?_)))
    refine .nil ?_
    refine ⟨k + 1, .cons rfl (.cons rfl (.cons rfl (.cons rfl (.nil _)))), congrArg (fun q => [(true, Blk.own _ _ q)]) (map_step (· ^^^ x) (key0 key) k (by omega) _), ?_, by omega⟩
    omega
  · refine .exit ?_
    refine .seq ?_
    refine .region rfl ?_
    refine .p (.move (.t rfl) (.p (.assign (.t rfl) ?_)))
    refine .nil ?_
    refine .frzOwn hC .z ?_
    refine .as 4 rfl .z ?_
    refine .ret ?_
    refine ⟨_, .r1 rfl (.tmp rfl), ?_⟩
    refine congrArg AV.v ?_; have : k = 64 := by simp at hc14; omega
    subst this; rw [List.take_of_length_le (by omega), List.drop_eq_nil_of_le (by omega), List.append_nil]; rfl
theorem set_next {α : Type} (P : List α) (z : α) (n k : Nat) (hn : P.length = n) (h : k < n) (v : α) (hv : P[k]'(by omega) = v) : (P.take k ++ List.replicate (n - k) z).set k v = P.take (k + 1) ++ List.replicate (n - (k + 1)) z := by
  rw [List.set_append_right _ _ (by simp; omega)]
  have e : k - (P.take k).length = 0 := by simp; omega
  rw [e, show n - k = (n - (k + 1)) + 1 by omega, List.replicate_succ, List.set_cons_zero, List.take_succ_eq_append_getElem (by omega), hv]
  simp
theorem padded_get (key : List UInt8) (x : UInt8) (k : Nat) (h : k < (padded key x).length) : (padded key x)[k] = (if h2 : k < key.length then key[k] ^^^ x else x) := by
  simp only [padded, key0, List.getElem_map]
  by_cases h2 : k < key.length
  · rw [List.getElem_append_left h2, dif_pos h2]
  · rw [List.getElem_append_right (by omega), dif_neg h2]; simp
theorem rpadded_c (key : List UInt8) (x : UInt8) (hk : key.length ≤ 64) : FunA gl Tryd.prog 48 [.v key, .v x] (fun r => r = .vc (padded key x)) := by
  have hl := key0_length key hk
  have hl2 := padded_length key x hk
  refine FunA.intro Tryd.func48 rfl (by kernel_rfl) 30 rfl rfl _ rfl fun C hC hG => ?_
  refine .seq ?_
  refine .region rfl ?_
  refine .p (.assign (.nilS (α := UInt8)) ?_)
  refine .nil ?_
  refine .seq ?_
  refine .region rfl ?_
  refine .h (.make st23 (.i rfl) (by first | omega | (simp; done) | (simp; omega) | (simp at *; omega)) (by first | omega | (simp; done) | (simp; omega) | (simp at *; omega)) (by first | omega | (simp; done) | (simp; omega) | (simp at *; omega)) fun b7 => .p (.assign (.t rfl) ?_))
  refine .nil ?_
  refine .seq ?_
  refine .seq ?_
  skip
  refine .region rfl ?_
  refine .p (.assign (.i rfl) ?_)
  refine .nil ?_
  refine .block ?_
  refine .loopR (α := Nat) [(0, _), (1, _), (5, _)] (fun k R => (6, .v (k : Int)) :: R) (fun k => [(true, .own 5 (slc b7 0 64 64) ((padded key x).take k ++ List.replicate (64 - k) 0))]) (fun k => k ≤ 64) (fun k => 64 - k) (0) (.cons rfl (.cons rfl (.cons rfl (.nil _)))) ?_ (.cons rfl (.cons rfl (.cons rfl (.cons rfl (.nil _))))) (rfl) fun k hF => ?_
  · omega
  refine .seq ?_
  refine .seq ?_
  refine .region rfl ?_
  refine .p (.move (.t rfl) (.p (.lss (.t rfl) (.i rfl) ?_)))
  refine .nil ?_
  refine .condP (.t rfl) (fun hc9 => ?_) (fun hc9 => ?_)
  · refine .skip ?_
    refine .seq ?_
    refine .block ?_
    refine .seq ?_
    refine .region rfl ?_
    refine .p (.move (.t rfl) (.p (.move (.t rfl) (.p (.move (.t rfl) (.p (.idxOwn ty5 Tryd.underlying23 rfl .z (.t rfl) (by first | omega | (simp; done) | (simp; omega) | (simp at *; omega)) (by first | omega | (simp; done) | (simp; omega) | (simp at *; omega)) (.n (.stEW ty5 (.t rfl) (.t rfl) .z (by first | omega | (simp; done) | (simp; omega) | (simp at *; omega)) ?_)))))))))
    refine .nil ?_
    refine .seq ?_
    refine .region rfl ?_
    refine .p (.move (.t rfl) (.p (.move (.t rfl) (.p (.len Tryd.underlying23 (.t rfl) (.p (.lss (.t rfl) (.t rfl) ?_)))))))
    refine .nil ?_
    refine .condP (.t rfl) (fun hc19 => ?_) (fun hc19 => ?_)
    · refine .region rfl ?_
      refine .p (.move (.t rfl) (.p (.move (.t rfl) (.p (.move (.t rfl) (.p (.move (.t rfl) (.p (.idx ty5 Tryd.underlying23 (.t rfl) (.t rfl) (by first | omega | (simp; done) | (simp; omega) | (simp at *; omega)) (by first | omega | (simp; done) | (simp; omega) | (simp at *; omega)) (.p (.ldP ty5 (.t rfl) ?_)))))))))))
      refine .p (.move (.t rfl) (.p (.xor8 (.t rfl) (.t rfl) (.p (.idxOwn ty5 Tryd.underlying23 rfl .z (.t rfl) (by first | omega | (simp; done) | (simp; omega) | (simp at *; omega)) (by first | omega | (simp; done) | (simp; omega) | (simp at *; omega)) (.n (.stEW ty5 (.t rfl) (.t rfl) .z (by first | omega | (simp; done) | (simp; omega) | (simp at *; omega)) ?_)))))))
      refine .nil ?_
      refine .region rfl ?_
      refine .p (.move (.t rfl) (.p (.add (.t rfl) (.i rfl) (by first | omega | (simp; done) | (simp; omega) | (simp at *; omega)) (by first | omega | (simp; done) | (simp; omega) | (simp at *; omega)) (.p (.assign (.t rfl) ?_)))))
      refine .nil ?_
      refine ⟨k + 1, .cons rfl (.cons rfl (.cons rfl (.cons rfl (.nil _)))), congrArg (fun q => [(true, Blk.own _ _ q)]) (by first | exact set_next _ 0 64 k hl2 (by omega) x (by rw [padded_get, dif_neg (by omega)]) | exact (List.set_set ..).trans (set_next _ 0 64 k hl2 (by omega) _ (by rw [padded_get, dif_pos (by omega)]; rfl))), ?_, by omega⟩
      omega
    · refine .skip ?_
      refine .region rfl ?_
      refine .p (.move (.t rfl) (.p (.add (.t rfl) (.i rfl) (by first | omega | (simp; done) | (simp; omega) | (simp at *; omega)) (by first | omega | (simp; done) | (simp; omega) | (simp at *; omega)) (.p (.assign (.t rfl) ?_)))))
      refine .nil ?_
      refine ⟨k + 1, .cons rfl (.cons rfl (.cons rfl (.cons rfl (.nil _)))), congrArg (fun q => [(true, Blk.own _ _ q)]) (by first | exact set_next _ 0 64 k hl2 (by omega) x (by rw [padded_get, dif_neg (by omega)]) | exact (List.set_set ..).trans (set_next _ 0 64 k hl2 (by omega) _ (by rw [padded_get, dif_pos (by omega)]; rfl))), ?_, by omega⟩
      omega
  · refine .exit ?_
    refine .seq ?_
    refine .region rfl ?_
    refine .p (.move (.t rfl) (.p (.assign (.t rfl) ?_)))
    refine .nil ?_
    refine .frzC hC .z (by rw [List.length_append, List.length_take, List.length_replicate, hl2]; omega) ?_
    refine .as 4 rfl .z ?_
    refine .ret ?_
    refine ⟨_, .r1 rfl (.tmp rfl), ?_⟩
    refine congrArg AV.vc ?_; have : k = 64 := by omega
    subst this; rw [List.take_of_length_le (by rw [padded_length key x hk]; omega)]; simp
def hmac (key m : List UInt8) : Tag :=
  let k := if key.length > 64 then (sha key).l else key
  sha (padded k 92 ++ (sha (padded k 54 ++ m)).l)
theorem rHmac_c (key m : List UInt8) (h1 : key.length ≤ 1000000) (h2 : m.length ≤ 1000000) : FunA gl Tryd.prog 25 [.v key, .v m] (fun r => r = .v (hmac key m)) := by
  refine FunA.intro Tryd.func25 rfl (by kernel_rfl) 23 rfl rfl _ rfl fun C hC hG => ?_
  refine .seq ?_
  refine .region rfl ?_
  refine .h (.alloc ty28 fun b4 => ?_)
  refine .nil ?_
  refine .seq ?_
  refine .seq ?_
  refine .region rfl ?_
  refine .p (.move (.t rfl) (.p (.len Tryd.underlying23 (.t rfl) (.p (.gtr (.t rfl) (.i rfl) ?_)))))
  refine .nil ?_
  refine .condP (.t rfl) (fun hc9 => ?_) (fun hc9 => ?_)
  · refine .seq ?_
    refine .region rfl ?_
    refine .p (.move (.t rfl) (.p (.call1 hG (rSha_c _ (by first | omega | (simp; done) | (simp; omega) | (simp at *; omega))) (.cons (.t rfl) .nil) (.h (.alloc ty28 fun b5 => .n (.stW ty28 (.t rfl) (.t rfl) .z ?_))))))
    refine .frzOb hC .z ?_
    refine .asP 5 rfl .z ?_
    refine .nil ?_
    refine .region rfl ?_
    refine .p (.slArrP (by decide) ar28 (.t rfl) (.p (.assign (.t rfl) ?_)))
    refine .nil ?_
    refine .seq ?_
    refine .region rfl ?_
    refine .p (.move (.t rfl) (.p (.call1 hG (rpadded_c _ _ (by first | omega | (simp; done) | (simp; omega) | (simp at *; omega))) (.cons (.t rfl) (.cons (.u8 54 rfl) .nil)) (.p (.move (.t rfl) (.p (.appendC st23 (.inl ⟨_, Tryd.underlying23⟩) (.t rfl) (.v (.t rfl)) (by first | omega | (simp; done) | (simp; omega) | (simp at *; omega)) (by first | omega | (simp; done) | (simp; omega) | (simp at *; omega)) (.p (.call1 hG (rSha_c _ (by first | omega | (simp; done) | (simp; omega) | (simp at *; omega))) (.cons (.t rfl) .nil) (.h (.alloc ty28 fun b6 => ?_)))))))))))
    refine .n (.stW ty28 (.t rfl) (.t rfl) .z ?_)
    refine .frzOb hC .z ?_
    refine .asP 6 rfl .z ?_
    refine .nil ?_
    refine .seq ?_
    refine .draw (by kernel_rfl) 5 [[], [(18, 0)], [], [(19, 1), (20, 2)], [(21, 3)]] rfl (by kernel_rfl) rfl ?_
    refine ⟨_, OpP.move (.t rfl) rfl, ?_⟩
    refine ⟨_, OpP.call1 hG (rpadded_c _ _ (by first | omega | (simp; done) | (simp; omega) | (simp at *; omega))) (.cons (.t rfl) (.cons (.u8 92 rfl) .nil)) rfl, ?_⟩
    refine ⟨_, OpP.slArrP (by decide) ar28 (.t rfl) rfl, ?_⟩
    refine ⟨_, OpP.appendC st23 (.inl ⟨_, Tryd.underlying23⟩) (.t rfl) (.v (.t rfl)) (by first | omega | (simp; done) | (simp; omega) | (simp at *; omega)) (by first | omega | (simp; done) | (simp; omega) | (simp at *; omega)) rfl, ?_⟩
    refine ⟨_, OpP.call1 hG (rSha_c _ (by first | omega | (simp; done) | (simp; omega) | (simp at *; omega))) (.cons (.t rfl) .nil) rfl, ?_⟩
    show wpB _ _ _ _ _ _ ((22, _) :: (21, _) :: (20, _) :: (19, _) :: (18, _) :: _) _
    refine .n (.stW ty28 (.t rfl) (.t rfl) (.s (.s .z)) ?_)
    refine .nil ?_
    refine .ret ?_
    refine ⟨_, .r1 rfl (.cell ty28 rfl (.s (.s .z))), ?_⟩
    show _ = AV.v (hmac key m)
    simp only [hmac, if_pos (show key.length > 64 by omega), hNew_eq, hWrite_hOf, hSum_hOf, List.nil_append]
  · refine .skip ?_
    refine .seq ?_
    refine .region rfl ?_
    refine .p (.move (.t rfl) (.p (.call1 hG (rpadded_c _ _ (by first | omega | (simp; done) | (simp; omega) | (simp at *; omega))) (.cons (.t rfl) (.cons (.u8 54 rfl) .nil)) (.p (.move (.t rfl) (.p (.appendC st23 (.inl ⟨_, Tryd.underlying23⟩) (.t rfl) (.v (.t rfl)) (by first | omega | (simp; done) | (simp; omega) | (simp at *; omega)) (by first | omega | (simp; done) | (simp; omega) | (simp at *; omega)) (.p (.call1 hG (rSha_c _ (by first | omega | (simp; done) | (simp; omega) | (simp at *; omega))) (.cons (.t rfl) .nil) (.h (.alloc ty28 fun b6 => ?_)))))))))))
    refine .n (.stW ty28 (.t rfl) (.t rfl) .z ?_)
    refine .frzOb hC .z ?_
    refine .asP 6 rfl .z ?_
    refine .nil ?_
    refine .seq ?_
    refine .draw (by kernel_rfl) 5 [[], [(18, 0)], [], [(19, 1), (20, 2)], [(21, 3)]] rfl (by kernel_rfl) rfl ?_
    refine ⟨_, OpP.move (.t rfl) rfl, ?_⟩
    refine ⟨_, OpP.call1 hG (rpadded_c _ _ (by first | omega | (simp; done) | (simp; omega) | (simp at *; omega))) (.cons (.t rfl) (.cons (.u8 92 rfl) .nil)) rfl, ?_⟩
    refine ⟨_, OpP.slArrP (by decide) ar28 (.t rfl) rfl, ?_⟩
    refine ⟨_, OpP.appendC st23 (.inl ⟨_, Tryd.underlying23⟩) (.t rfl) (.v (.t rfl)) (by first | omega | (simp; done) | (simp; omega) | (simp at *; omega)) (by first | omega | (simp; done) | (simp; omega) | (simp at *; omega)) rfl, ?_⟩
    refine ⟨_, OpP.call1 hG (rSha_c _ (by first | omega | (simp; done) | (simp; omega) | (simp at *; omega))) (.cons (.t rfl) .nil) rfl, ?_⟩
    show wpB _ _ _ _ _ _ ((22, _) :: (21, _) :: (20, _) :: (19, _) :: (18, _) :: _) _
    refine .n (.stW ty28 (.t rfl) (.t rfl) (.s .z) ?_)
    refine .nil ?_
    refine .ret ?_
    refine ⟨_, .r1 rfl (.cell ty28 rfl (.s .z)), ?_⟩
    show _ = AV.v (hmac key m)
    simp only [hmac, if_neg (show ¬ key.length > 64 by omega), hNew_eq, hWrite_hOf, hSum_hOf, List.nil_append]
theorem hmacOf_c (key m : List UInt8) (h1 : key.length ≤ 1000000) (h2 : m.length ≤ 1000000) : FunA gl Tryd.prog 23 [.v key, .v m] (fun r => r = .v (hmac key m)) := by
  refine FunA.intro Tryd.func23 rfl (by kernel_rfl) 27 rfl rfl _ rfl fun C hC hG => ?_
  refine .seq ?_
  refine .region rfl ?_
  refine .h (.alloc ty28 fun b4 => ?_)
  refine .nil ?_
  refine .seq ?_
  refine .seq ?_
  refine .region rfl ?_
  refine .p (.move (.t rfl) (.p (.len Tryd.underlying23 (.t rfl) (.p (.gtr (.t rfl) (.i rfl) ?_)))))
  refine .nil ?_
  refine .condP (.t rfl) (fun hc9 => ?_) (fun hc9 => ?_)
  · refine .seq ?_
    refine .region rfl ?_
    refine .p (.move (.t rfl) (.p (.call1 hG (Of_c _ (by first | omega | (simp; done) | (simp; omega) | (simp at *; omega))) (.cons (.t rfl) .nil) (.h (.alloc ty28 fun b5 => .n (.stW ty28 (.t rfl) (.t rfl) .z ?_))))))
    refine .frzOb hC .z ?_
    refine .asP 5 rfl .z ?_
    refine .nil ?_
    refine .region rfl ?_
    refine .p (.slArrP (by decide) ar28 (.t rfl) (.p (.assign (.t rfl) ?_)))
    refine .nil ?_
    refine .seq ?_
    refine .region rfl ?_
    refine .p (.call1 hG (New_c) .nil (.p (.move (.t rfl) (.p (.call1 hG (pad_c _ _ (by first | omega | (simp; done) | (simp; omega) | (simp at *; omega))) (.cons (.t rfl) (.cons (.u8 54 rfl) .nil)) (.p (.call1 hG (Write_c _ _ (by first | omega | (simp; done) | (simp; omega) | (simp at *; omega)) (by first | omega | (simp; done) | (simp; omega) | (simp at *; omega)) (by first | omega | (simp; done) | (simp; omega) | (simp at *; omega))) (.cons (.t rfl) (.cons (.t rfl) .nil)) (.p (.move (.t rfl) (.p (.call1 hG (Write_c _ _ (by first | omega | (simp; done) | (simp; omega) | (simp at *; omega)) (by first | omega | (simp; done) | (simp; omega) | (simp at *; omega)) (by first | omega | (simp; done) | (simp; omega) | (simp at *; omega))) (.cons (.t rfl) (.cons (.t rfl) .nil)) ?_)))))))))))
    refine .p (.call1 hG (Sum_c _ (by first | omega | (simp; done) | (simp; omega) | (simp at *; omega)) (by first | omega | (simp; done) | (simp; omega) | (simp at *; omega)) (by first | omega | (simp; done) | (simp; omega) | (simp at *; omega))) (.cons (.t rfl) .nil) (.h (.alloc ty28 fun b6 => .n (.stW ty28 (.t rfl) (.t rfl) .z ?_))))
    refine .frzOb hC .z ?_
    refine .asP 6 rfl .z ?_
    refine .nil ?_
    refine .seq ?_
    refine .draw (by kernel_rfl) 7 [[], [], [(21, 1)], [(20, 0), (22, 2)], [], [(23, 3), (24, 4)], [(25, 5)]] rfl (by kernel_rfl) rfl ?_
    refine ⟨_, OpP.call1 hG (New_c) .nil rfl, ?_⟩
    refine ⟨_, OpP.move (.t rfl) rfl, ?_⟩
    refine ⟨_, OpP.call1 hG (pad_c _ _ (by first | omega | (simp; done) | (simp; omega) | (simp at *; omega))) (.cons (.t rfl) (.cons (.u8 92 rfl) .nil)) rfl, ?_⟩
    refine ⟨_, OpP.call1 hG (Write_c _ _ (by first | omega | (simp; done) | (simp; omega) | (simp at *; omega)) (by first | omega | (simp; done) | (simp; omega) | (simp at *; omega)) (by first | omega | (simp; done) | (simp; omega) | (simp at *; omega))) (.cons (.t rfl) (.cons (.t rfl) .nil)) rfl, ?_⟩
    refine ⟨_, OpP.slArrP (by decide) ar28 (.t rfl) rfl, ?_⟩
    refine ⟨_, OpP.call1 hG (Write_c _ _ (by first | omega | (simp; done) | (simp; omega) | (simp at *; omega)) (by first | omega | (simp; done) | (simp; omega) | (simp at *; omega)) (by first | omega | (simp; done) | (simp; omega) | (simp at *; omega))) (.cons (.t rfl) (.cons (.t rfl) .nil)) rfl, ?_⟩
    refine ⟨_, OpP.call1 hG (Sum_c _ (by first | omega | (simp; done) | (simp; omega) | (simp at *; omega)) (by first | omega | (simp; done) | (simp; omega) | (simp at *; omega)) (by first | omega | (simp; done) | (simp; omega) | (simp at *; omega))) (.cons (.t rfl) .nil) rfl, ?_⟩
    show wpB _ _ _ _ _ _ ((26, _) :: (25, _) :: (24, _) :: (23, _) :: (22, _) :: (21, _) :: (20, _) :: _) _
    refine .n (.stW ty28 (.t rfl) (.t rfl) (.s (.s .z)) ?_)
    refine .nil ?_
    refine .ret ?_
    refine ⟨_, .r1 rfl (.cell ty28 rfl (.s (.s .z))), ?_⟩
    show _ = AV.v (hmac key m)
    simp only [hmac, if_pos (show key.length > 64 by omega), hNew_eq, hWrite_hOf, hSum_hOf, List.nil_append]
  · refine .skip ?_
    refine .seq ?_
    refine .region rfl ?_
    refine .p (.call1 hG (New_c) .nil (.p (.move (.t rfl) (.p (.call1 hG (pad_c _ _ (by first | omega | (simp; done) | (simp; omega) | (simp at *; omega))) (.cons (.t rfl) (.cons (.u8 54 rfl) .nil)) (.p (.call1 hG (Write_c _ _ (by first | omega | (simp; done) | (simp; omega) | (simp at *; omega)) (by first | omega | (simp; done) | (simp; omega) | (simp at *; omega)) (by first | omega | (simp; done) | (simp; omega) | (simp at *; omega))) (.cons (.t rfl) (.cons (.t rfl) .nil)) (.p (.move (.t rfl) (.p (.call1 hG (Write_c _ _ (by first | omega | (simp; done) | (simp; omega) | (simp at *; omega)) (by first | omega | (simp; done) | (simp; omega) | (simp at *; omega)) (by first | omega | (simp; done) | (simp; omega) | (simp at *; omega))) (.cons (.t rfl) (.cons (.t rfl) .nil)) ?_)))))))))))
    refine .p (.call1 hG (Sum_c _ (by first | omega | (simp; done) | (simp; omega) | (simp at *; omega)) (by first | omega | (simp; done) | (simp; omega) | (simp at *; omega)) (by first | omega | (simp; done) | (simp; omega) | (simp at *; omega))) (.cons (.t rfl) .nil) (.h (.alloc ty28 fun b6 => .n (.stW ty28 (.t rfl) (.t rfl) .z ?_))))
    refine .frzOb hC .z ?_
    refine .asP 6 rfl .z ?_
    refine .nil ?_
    refine .seq ?_
    refine .draw (by kernel_rfl) 7 [[], [], [(21, 1)], [(20, 0), (22, 2)], [], [(23, 3), (24, 4)], [(25, 5)]] rfl (by kernel_rfl) rfl ?_
    refine ⟨_, OpP.call1 hG (New_c) .nil rfl, ?_⟩
    refine ⟨_, OpP.move (.t rfl) rfl, ?_⟩
    refine ⟨_, OpP.call1 hG (pad_c _ _ (by first | omega | (simp; done) | (simp; omega) | (simp at *; omega))) (.cons (.t rfl) (.cons (.u8 92 rfl) .nil)) rfl, ?_⟩
    refine ⟨_, OpP.call1 hG (Write_c _ _ (by first | omega | (simp; done) | (simp; omega) | (simp at *; omega)) (by first | omega | (simp; done) | (simp; omega) | (simp at *; omega)) (by first | omega | (simp; done) | (simp; omega) | (simp at *; omega))) (.cons (.t rfl) (.cons (.t rfl) .nil)) rfl, ?_⟩
    refine ⟨_, OpP.slArrP (by decide) ar28 (.t rfl) rfl, ?_⟩
    refine ⟨_, OpP.call1 hG (Write_c _ _ (by first | omega | (simp; done) | (simp; omega) | (simp at *; omega)) (by first | omega | (simp; done) | (simp; omega) | (simp at *; omega)) (by first | omega | (simp; done) | (simp; omega) | (simp at *; omega))) (.cons (.t rfl) (.cons (.t rfl) .nil)) rfl, ?_⟩
    refine ⟨_, OpP.call1 hG (Sum_c _ (by first | omega | (simp; done) | (simp; omega) | (simp at *; omega)) (by first | omega | (simp; done) | (simp; omega) | (simp at *; omega)) (by first | omega | (simp; done) | (simp; omega) | (simp at *; omega))) (.cons (.t rfl) .nil) rfl, ?_⟩
    show wpB _ _ _ _ _ _ ((26, _) :: (25, _) :: (24, _) :: (23, _) :: (22, _) :: (21, _) :: (20, _) :: _) _
    refine .n (.stW ty28 (.t rfl) (.t rfl) (.s .z) ?_)
    refine .nil ?_
    refine .ret ?_
    refine ⟨_, .r1 rfl (.cell ty28 rfl (.s .z)), ?_⟩
    show _ = AV.v (hmac key m)
    simp only [hmac, if_neg (show ¬ key.length > 64 by omega), hNew_eq, hWrite_hOf, hSum_hOf, List.nil_append]
end Go.Proofs.YtdhfibhjfahdcaaDoor
set_option maxRecDepth 1000000
set_option linter.unusedVariables false
set_option linter.unusedSimpArgs false
namespace Go.Proofs.YtdhfibhjfahdcaaDoor
open Go.Fl Go.Ab Go.Mac Go.Sha
theorem ofInt_shr (n : Int) (h0 : 0 ≤ n) (h1 : n < 9223372036854775808) (k : Nat) (hk : k < 64) : UInt8.ofInt (n >>> k) = (UInt64.ofInt n >>> UInt64.ofNat k).toUInt8 := by
  obtain ⟨m, rfl⟩ := Int.eq_ofNat_of_zero_le h0
  rw [show ((m : Int) >>> k) = ((m >>> k : Nat) : Int) from rfl]
  apply UInt8.toNat_inj.1
  have e1 : (UInt64.ofInt (m : Int)).toNat = m % 2 ^ 64 := by
    simp [UInt64.ofInt]; omega
  have e2 : (UInt64.ofNat k).toNat = k := by simp; omega
  have e3 : (UInt8.ofInt ((m >>> k : Nat) : Int)).toNat = (m >>> k) % 256 := by
    generalize m >>> k = q
    simp [UInt8.ofInt]; omega
  rw [e3, UInt64.toNat_toUInt8, UInt64.toNat_shiftRight, e1, e2]
  rw [Nat.mod_eq_of_lt hk, Nat.mod_eq_of_lt (show m < 2 ^ 64 by omega)]
attribute [local simp] be64_length
def derive (key : Tag) (name : Str) (n : Int) : Tag × Int :=
  if isLabel name = false then (default, 7) else if n < 0 ∨ 281474976710656 < n then (default, 1) else (hmac key.l (name.l ++ [0] ++ be64 (UInt64.ofInt n) 8), 0)
theorem rDerive_c (key : Tag) (name : Str) (n : Int) (hs : name.l.length ≤ 1000) : FunA gl Tryd.prog 31 [.v key, .v name, .v n] (fun r => r = .t2 (.v (derive key name n).1) (.v (derive key name n).2)) := by
  refine FunA.intro Tryd.func31 rfl (by kernel_rfl) 29 rfl rfl _ rfl fun C hC hG => ?_
  refine .seq ?_
  refine .region rfl ?_
  refine .h (.box (.t rfl) fun b3 => .h (.alloc ty28 fun b6 => .p (.assign (.i rfl) ?_)))
  refine .nil ?_
  refine .seq ?_
  refine .seq ?_
  refine .region rfl ?_
  refine .p (.move (.t rfl) (.p (.call1 hG (Name_c _) (.cons (.t rfl) .nil) (.p (.not (.t rfl) ?_)))))
  refine .nil ?_
  refine .cond (.t rfl) (fun hc10 => ?_) (fun hc10 => ?_)
  · refine .seq ?_
    refine .region rfl ?_
    refine .p (.buildA (default : (Arr 32 UInt8)) ty28 ar28 .nil rfl (.n (.stW ty28 (.t rfl) (.t rfl) .z (.p (.assign (.i rfl) ?_)))))
    refine .nil ?_
    refine .ret ?_
    refine ⟨_, .r2 rfl (.cell ty28 rfl .z) (.tmp rfl), ?_⟩
    have e : derive key name n = (default, 7) := by unfold derive; rw [if_pos (by simpa using hc10)]
    rw [e]
  · refine .skip ?_
    refine .seq ?_
    refine .seq ?_
    refine .region rfl ?_
    refine .p (.move (.t rfl) (.p (.lss (.t rfl) (.i rfl) (.p (.move (.t rfl) ?_)))))
    refine .go 14 rfl (.t rfl) (fun hg15 => .move (.t rfl) rfl) ?_
    refine .go 14 rfl (.t rfl) (fun hg16 => .gtr (.o rfl (beq_iff_eq.2 hg16)) (.i rfl) rfl) ?_
    refine .p (.pickOr (.t rfl) (fun hp => (.o rfl (beq_iff_eq.2 hp))) ?_)
    refine .nil ?_
    refine .cond (.t rfl) (fun hc17 => ?_) (fun hc17 => ?_)
    · refine .seq ?_
      refine .region rfl ?_
      refine .p (.buildA (default : (Arr 32 UInt8)) ty28 ar28 .nil rfl (.n (.stW ty28 (.t rfl) (.t rfl) .z (.p (.assign (.i rfl) ?_)))))
      refine .nil ?_
      refine .ret ?_
      refine ⟨_, .r2 rfl (.cell ty28 rfl .z) (.tmp rfl), ?_⟩
      have e : derive key name n = (default, 1) := by unfold derive; rw [if_neg (by simpa using hc10), if_pos (by simpa using hc17)]
      rw [e]
    · refine .skip ?_
      refine .seq ?_
      refine .frzOb hC (.s .z) ?_
      refine .asP 3 rfl (.s .z) ?_
      refine .drawC (by kernel_rfl) 10 [[], [], [(20, 1)], [], [(21, 2), (22, 3)], [], [(24, 5)], [(25, 6)], [(23, 4), (26, 7)], [(19, 0), (27, 8)]] [2, 4, 8, 9] rfl (by kernel_rfl) rfl (by kernel_rfl) (by decide) ?_
      refine ⟨_, fun H => OpP.slArrP (by decide) ar28 (.t rfl) rfl, ?_⟩
      refine ⟨_, fun H => OpP.move (.t rfl) rfl, ?_⟩
      refine .inl ?_
      refine ⟨_, fun H => OpP.buildSliceF (α := UInt8) ty5 Tryd.underlying23 (.cons (.u8 0 rfl) .nil) rfl (by decide) rfl, ?_⟩
      refine .inl ?_
      refine ⟨_, fun H => OpP.move (.t rfl) rfl, ?_⟩
      refine ⟨_, fun H => OpP.conv64 Tryd.underlying3 Tryd.underlying69 (.t rfl) rfl, ?_⟩
      refine ⟨_, fun H => OpP.call1 hG (Eight_c _) (.cons (.t rfl) .nil) rfl, ?_⟩
      refine .inl ?_
      refine .inl ?_
      refine OpH.strBytes Tryd.underlying9 Tryd.underlying23 Tryd.underlying5 (.t rfl) fun w21 => ?_
      refine OpH.append st23 (.inl ⟨_, Tryd.underlying23⟩) rfl .z (.v (.c rfl)) (by first | omega | (simp; done) | (simp; omega) | (simp at *; omega)) (by first | omega | (simp; done) | (simp; omega) | (simp at *; omega)) (fun w23 => ?_) rfl
      refine OpH.append st23 (.inl ⟨_, Tryd.underlying23⟩) rfl .z (.v (.t rfl)) (by first | omega | (simp; done) | (simp; omega) | (simp at *; omega)) (by first | omega | (simp; done) | (simp; omega) | (simp at *; omega)) (fun w27 => ?_) rfl
      refine OpH.frzOwn hC .z (OpH.as 27 rfl .z (OpH.ofP (OpP.call1 hG (rHmac_c _ _ (by first | omega | (simp; done) | (simp; omega) | (simp at *; omega)) (by first | omega | (simp; done) | (simp; omega) | (simp at *; omega))) (.cons (.t rfl) (.cons (.t rfl) .nil)) ?_)))
      show wpB _ _ _ _ _ _ ((28, _) :: (27, _) :: (26, _) :: (25, _) :: (24, _) :: (23, _) :: (22, _) :: (21, _) :: (20, _) :: (19, _) :: _) _
      refine .n (.stW ty28 (.t rfl) (.t rfl) (.s .z) (.p (.assign (.i rfl) ?_)))
      refine .nil ?_
      refine .ret ?_
      refine ⟨_, .r2 rfl (.cell ty28 rfl (.s .z)) (.tmp rfl), ?_⟩
      have e : derive key name n = (hmac key.l (name.l ++ [0] ++ be64 (UInt64.ofInt n) 8), 0) := by unfold derive; rw [if_neg (by simpa using hc10), if_neg (by simpa using hc17)]
      rw [e]
abbrev dk (w : Value) : AV := .ln w (Lens.id (α := G_macaroonmade_Deck))
theorem deckNew_c (l : List Int) : FunH gl Tryd.prog 5 [.v l] [] (fun r Hs => ∃ b, r = dk (ptr b 0) ∧ Hs = [.ob (ptr b 0) (⟨l, 0⟩ : G_macaroonmade_Deck)]) := by
  refine FunH.intro Tryd.func5 rfl (by kernel_rfl) 6 rfl rfl _ rfl _ rfl fun C hC hG => ?_
  refine .seq ?_
  refine .region rfl ?_
  refine .p (.assign .raw ?_)
  refine .nil ?_
  refine .seq ?_
  refine .region rfl ?_
  refine .p (.move (.t rfl) (.p (.bS1 G_macaroonmade_Deck.l0 rfl ty44 fo44 (fun c0 => (⟨c0, 0⟩ : G_macaroonmade_Deck)) (fun _ => rfl) rfl rfl (.t rfl) (.h (.box (.t rfl) fun b5 => .p (.assign (.t rfl) ?_))))))
  refine .nil ?_
  refine .ret ?_
  refine ⟨_, .r1 rfl (.tmp rfl), ?_⟩
  exact ⟨b5, rfl, rfl⟩
def deckNext (d : G_macaroonmade_Deck) (n : Int) : Int × G_macaroonmade_Deck :=
  if h : d.At.toNat < d.L.length then (d.L[d.At.toNat] % n, ⟨d.L, d.At + 1⟩) else (0, d)
def DeckOk (d : G_macaroonmade_Deck) : Prop := 0 ≤ d.At
theorem deckNext_ok {d : G_macaroonmade_Deck} {n : Int} (h : DeckOk d) : DeckOk (deckNext d n).2 := by
  unfold deckNext; split
  · show 0 ≤ d.At + 1
    unfold DeckOk at h; omega
  · exact h
theorem deckNext_le {d : G_macaroonmade_Deck} {n : Int} (h : 0 < n) : 0 ≤ (deckNext d n).1 ∧ (deckNext d n).1 < n := by
  unfold deckNext; split
  · exact ⟨Int.emod_nonneg _ (by omega), Int.emod_lt_of_pos _ h⟩
  · exact ⟨Int.le_refl 0, h⟩
theorem Next_c (w : Value) (d : G_macaroonmade_Deck) (n : Int) (hd : DeckOk d) (h0 : 0 < n) (h1 : n ≤ 4611686018427387904) :
    FunH gl Tryd.prog 14 [dk w, .v n] [.ob w d] (fun r Hs => r = .v (deckNext d n).1 ∧ Hs = [.ob w (deckNext d n).2]) := by
  unfold DeckOk at hd
  refine FunH.intro Tryd.func14 rfl (by kernel_rfl) 35 rfl rfl _ rfl _ rfl fun C hC hG => ?_
  refine .seq ?_
  refine .region rfl ?_
  refine .p (.assign (.i rfl) ?_)
  refine .nil ?_
  refine .seq ?_
  refine .seq ?_
  refine .draw (by kernel_rfl) 10 [[], [(5, 0)], [(6, 1)], [(7, 2)], [], [(9, 4)], [(10, 5)], [(11, 6)], [(12, 7)], [(8, 3), (13, 8)]] rfl (by kernel_rfl) rfl ?_
  refine ⟨_, OpP.move (.t rfl) rfl, ?_⟩
  refine ⟨_, OpP.nilCheckL (.t rfl) rfl, ?_⟩
  refine ⟨_, OpP.fldW G_macaroonmade_Deck.l1 fd44_1 rfl (.t rfl) rfl, ?_⟩
  refine ⟨_, OpP.ldF (fun x => x.At) ty3 (.t rfl) .z (fun _ => rfl) rfl, ?_⟩
  refine ⟨_, OpP.move (.t rfl) rfl, ?_⟩
  refine ⟨_, OpP.nilCheckL (.t rfl) rfl, ?_⟩
  refine ⟨_, OpP.fldW G_macaroonmade_Deck.l0 fd44_0 rfl (.t rfl) rfl, ?_⟩
  refine ⟨_, OpP.ldF (fun x => x.L) ty22 (.t rfl) .z (fun _ => rfl) rfl, ?_⟩
  refine ⟨_, OpP.len Tryd.underlying22 (.t rfl) rfl, ?_⟩
  refine ⟨_, OpP.geq (.t rfl) (.t rfl) rfl, ?_⟩
  show wpB _ _ _ _ _ _ ((14, _) :: (13, _) :: (12, _) :: (11, _) :: (10, _) :: (9, _) :: (8, _) :: (7, _) :: (6, _) :: (5, _) :: _) _
  refine .nil ?_
  refine .condP (.t rfl) (fun hc14 => ?_) (fun hc14 => ?_)
  · refine .seq ?_
    refine .region rfl ?_
    refine .p (.assign (.i rfl) ?_)
    refine .nil ?_
    refine .ret ?_
    refine ⟨_, .r1 rfl (.tmp rfl), ?_⟩
    have e : deckNext d n = (0, d) := by unfold deckNext; rw [dif_neg (by omega)]
    rw [e]; exact ⟨rfl, rfl⟩
  · refine .skip ?_
    refine .seq ?_
    refine .lenLe 12 rfl fun hl => ?_
    refine .region rfl ?_
    refine .p (.move (.t rfl) (.p (.nilCheckL (.t rfl) (.p (.fldW G_macaroonmade_Deck.l1 fd44_1 rfl (.t rfl) (.p (.ldF (fun x => x.At) ty3 (.t rfl) .z (fun _ => rfl) (.p (.add (.t rfl) (.i rfl) (by first | omega | (simp; done) | (simp; omega) | (simp at *; omega)) (by first | omega | (simp; done) | (simp; omega) | (simp at *; omega)) (.p (.nilCheckL (.t rfl) ?_)))))))))))
    refine .p (.fldW G_macaroonmade_Deck.l1 fd44_1 rfl (.t rfl) (.n (.stF (fun y x => { x with At := y }) ty3 (.t rfl) (.t rfl) .z (fun _ _ => rfl) ?_)))
    refine .nil ?_
    refine .seq ?_
    refine .draw (by kernel_rfl) 14 [[], [(22, 0)], [(23, 1)], [(24, 2)], [], [(26, 4)], [(27, 5)], [(28, 6)], [(29, 7)], [(25, 3), (30, 8)], [(31, 9)], [], [(32, 10), (33, 11)], [(34, 12)]] rfl (by kernel_rfl) rfl ?_
    refine ⟨_, OpP.move (.t rfl) rfl, ?_⟩
    refine ⟨_, OpP.nilCheckL (.t rfl) rfl, ?_⟩
    refine ⟨_, OpP.fldW G_macaroonmade_Deck.l0 fd44_0 rfl (.t rfl) rfl, ?_⟩
    refine ⟨_, OpP.ldF (fun x => x.L) ty22 (.t rfl) .z (fun _ => rfl) rfl, ?_⟩
    refine ⟨_, OpP.move (.t rfl) rfl, ?_⟩
    refine ⟨_, OpP.nilCheckL (.t rfl) rfl, ?_⟩
    refine ⟨_, OpP.fldW G_macaroonmade_Deck.l1 fd44_1 rfl (.t rfl) rfl, ?_⟩
    refine ⟨_, OpP.ldF (fun x => x.At) ty3 (.t rfl) .z (fun _ => rfl) rfl, ?_⟩
    refine ⟨_, OpP.sub (.t rfl) (.i rfl) (by first | omega | (simp; done) | (simp; omega) | (simp at *; omega)) (by first | omega | (simp; done) | (simp; omega) | (simp at *; omega)) rfl, ?_⟩
    refine ⟨_, OpP.idx ty3 Tryd.underlying22 (.t rfl) (.t rfl) (by first | omega | (simp; done) | (simp; omega) | (simp at *; omega)) (by first | omega | (simp; done) | (simp; omega) | (simp at *; omega)) rfl, ?_⟩
    refine ⟨_, OpP.ldP ty3 (.t rfl) rfl, ?_⟩
    refine ⟨_, OpP.move (.t rfl) rfl, ?_⟩
    refine ⟨_, OpP.call1 hG (Within_c _ _ (by first | omega | (simp; done) | (simp; omega) | (simp at *; omega)) (by first | omega | (simp; done) | (simp; omega) | (simp at *; omega))) (.cons (.t rfl) (.cons (.t rfl) .nil)) rfl, ?_⟩
    refine ⟨_, OpP.assign (.t rfl) rfl, ?_⟩
    show wpB _ _ _ _ _ _ ((4, _) :: (34, _) :: (33, _) :: (32, _) :: (31, _) :: (30, _) :: (29, _) :: (28, _) :: (27, _) :: (26, _) :: (25, _) :: (24, _) :: (23, _) :: (22, _) :: _) _
    refine .nil ?_
    refine .ret ?_
    refine ⟨_, .r1 rfl (.tmp rfl), ?_⟩
    have e : deckNext d n = (d.L[d.At.toNat]'(by omega) % n, ⟨d.L, d.At + 1⟩) := by unfold deckNext; rw [dif_pos (by omega)]
    rw [e]; refine ⟨congrArg AV.v ?_, rfl⟩; simp only [Int.add_sub_cancel]
end Go.Proofs.YtdhfibhjfahdcaaDoor
set_option maxRecDepth 1000000
set_option linter.unusedVariables false
set_option linter.unusedSimpArgs false
namespace Go.Proofs.YtdhfibhjfahdcaaDoor
open Go.Fl Go.Ab Go.Mac Go.Sha
theorem bytesEqual_c (a b : List UInt8) : FunA gl Tryd.prog 41 [.v a, .v b] (fun r => r = .v (decide (a = b))) := by
  refine FunA.intro Tryd.func41 rfl (by kernel_rfl) 10 rfl rfl _ rfl fun C hC hG => ?_
  refine .seq ?_
  refine .region rfl ?_
  refine .p (.assign .b ?_)
  refine .nil ?_
  refine .seq ?_
  refine .region rfl ?_
  refine .p (.move (.t rfl) (.p (.bytesStr Tryd.underlying23 Tryd.underlying5 Tryd.underlying9 (.t rfl) (.p (.move (.t rfl) (.p (.bytesStr Tryd.underlying23 Tryd.underlying5 Tryd.underlying9 (.t rfl) (.p (.eqlS (.t rfl) (.t rfl) (.p (.assign (.t rfl) ?_)))))))))))
  refine .nil ?_
  refine .ret ?_
  refine ⟨_, .r1 rfl (.tmp rfl), ?_⟩
  refine congrArg AV.v ?_
  rw [decide_eq_decide]; exact ⟨fun h => congrArg Str.l h, fun h => congrArg Str.mk h⟩
theorem bytesClone_c (b : List UInt8) (hb : b.length ≤ 1000000) : FunA gl Tryd.prog 38 [.v b] (fun r => r = .v b) := by
  refine FunA.intro Tryd.func38 rfl (by kernel_rfl) 8 rfl rfl _ rfl fun C hC hG => ?_
  refine .seq ?_
  refine .region rfl ?_
  refine .p (.assign (.nilS (α := UInt8)) ?_)
  refine .nil ?_
  refine .seq ?_
  refine .seq ?_
  refine .region rfl ?_
  refine .p (.move (.t rfl) (.p (.eqNilS Tryd.underlying23 (.t rfl) fun c4 hn4 => ?_)))
  refine .nil ?_
  refine .cond (.t rfl) (fun hc4 => ?_) (fun hc4 => ?_)
  · refine .seq ?_
    refine .region rfl ?_
    refine .p (.assign (.nilS (α := UInt8)) ?_)
    refine .nil ?_
    refine .ret ?_
    refine ⟨_, .r1 rfl (.tmp rfl), ?_⟩
    rw [hn4 hc4]
  · refine .skip ?_
    refine .seq ?_
    refine .region rfl ?_
    refine .h (.buildSlice (α := UInt8) ty5 Tryd.underlying23 .nil rfl (by decide) fun b5 => .p (.move (.t rfl) (.h (.append st23 (.inl ⟨_, Tryd.underlying23⟩) rfl .z (.v (.t rfl)) (by first | omega | (simp; done) | (simp; omega) | (simp at *; omega)) (by first | omega | (simp; done) | (simp; omega) | (simp at *; omega)) (fun w7 => .p (.assign (.t rfl) ?_)) rfl))))
    refine .nil ?_
    refine .frzOwn hC .z ?_
    refine .as 2 rfl .z ?_
    refine .ret ?_
    refine ⟨_, .r1 rfl (.tmp rfl), ?_⟩
    rw [List.nil_append]
def macEq (k : Tag) (m : List UInt8) (x : G_api_Mac) : Bool := decide (x.Key = k) && decide (x.Message = m)
theorem find1_c (k : Tag) (m : List UInt8) (x : G_api_Mac) : FunA gl Tryd.prog 40 [.v x, .p k, .p m] (fun r => r = .v (macEq k m x)) := by
  refine FunA.intro Tryd.func40 rfl (by kernel_rfl) 15 rfl rfl _ rfl fun C hC hG => ?_
  refine .seq ?_
  refine .region rfl ?_
  refine .h (.box (.t rfl) fun b3 => .p (.assign .b ?_))
  refine .nil ?_
  refine .seq ?_
  refine .region rfl ?_
  refine .p (.fldW G_api_Mac.l0 fd53_0 rfl (.t rfl) (.p (.ldF (fun x => x.Key) ty28 (.t rfl) .z (fun _ => rfl) (.p (.ldP ty28 (.t rfl) (.p (.eqlA8 Tryd.underlying28 sz5 Tryd.underlying5 gd28 (.t rfl) (.t rfl) (.p (.move (.t rfl) ?_)))))))))
  refine .go 9 rfl (.t rfl) (fun hg10 => .fldW G_api_Mac.l1 fd53_1 rfl (.t rfl) rfl) ?_
  refine .go 9 rfl (.t rfl) (fun hg11 => .ldF (fun x => x.Message) ty23 (.o rfl (beq_iff_eq.2 hg11)) .z (fun _ => rfl) rfl) ?_
  refine .go 9 rfl (.t rfl) (fun hg12 => .ldP ty23 (.t rfl) rfl) ?_
  refine .go 9 rfl (.t rfl) (fun hg13 => .call1 hG (bytesEqual_c _ _) (.cons (.o rfl (beq_iff_eq.2 hg13)) (.cons (.o rfl (beq_iff_eq.2 hg13)) .nil)) rfl) ?_
  refine .p (.pickAnd (.t rfl) (fun hp => (.o rfl (beq_iff_eq.2 hp))) (.p (.assign (.t rfl) ?_)))
  refine .nil ?_
  refine .ret ?_
  refine ⟨_, .r1 rfl (.tmp rfl), ?_⟩
  rfl
def idx {α : Type} (l : List α) (p : α → Bool) : Int := if l.findIdx p < l.length then (l.findIdx p : Int) else -1
theorem idx_at {α : Type} {l : List α} {p : α → Bool} {k : Nat} (h : k < l.length) (h1 : p l[k] = true) (h2 : ∀ j (hj : j < l.length), j < k → p l[j] = false) : idx l p = (k : Int) := by
  have e : l.findIdx p = k := (List.findIdx_eq h).2 ⟨h1, fun j hj => h2 j (by omega) hj⟩
  unfold idx; rw [e, if_pos h]
theorem idx_none {α : Type} {l : List α} {p : α → Bool} (h : ∀ j (hj : j < l.length), p l[j] = false) : idx l p = -1 := by
  have e : l.findIdx p = l.length := List.findIdx_eq_length.2 fun x hx => by
    obtain ⟨j, hj, rfl⟩ := List.getElem_of_mem hx
    exact h j hj
  unfold idx; rw [e, if_neg (by omega)]
theorem indexMac_c (l : List G_api_Mac) (p : G_api_Mac → Bool) : FunA gl Tryd.prog 39 [.v l, .clo1 Tryd.prog p] (fun r => r = .v (idx l p)) := by
  refine FunA.intro Tryd.func39 rfl (by kernel_rfl) 19 rfl rfl _ rfl fun C hC hG => ?_
  refine .seq ?_
  refine .region rfl ?_
  refine .p (.assign (.i rfl) ?_)
  refine .nil ?_
  refine .seq ?_
  refine .seq ?_
  refine .lenLe 0 rfl fun hl0 => ?_
  refine .region rfl ?_
  refine .p (.move (.t rfl) (.p (.len Tryd.underlying29 (.t rfl) (.p (.move (.i rfl) ?_)))))
  refine .nil ?_
  refine .block ?_
  refine .loopR (α := Nat) [(0, _), (1, _), (7, _)] (fun k R => (8, .v (k : Int)) :: R) (fun k => []) (fun k => k ≤ l.length ∧ ∀ j (hj : j < l.length), j < k → p l[j] = false) (fun k => l.length - k) (0) (.cons rfl (.cons rfl (.cons rfl (.nil _)))) ?_ (.cons rfl (.cons rfl (.cons rfl (.cons rfl (.nil _))))) (rfl) fun k hF => ?_
  · simp
  obtain ⟨h1, h2⟩ := hF
  refine .seq ?_
  refine .region rfl ?_
  refine .p (.lss (.t rfl) (.t rfl) ?_)
  refine .nil ?_
  refine .seq ?_
  refine .condP (.t rfl) (fun hc9 => ?_) (fun hc9 => ?_)
  · refine .skip ?_
    refine .seq ?_
    refine .block ?_
    refine .seq ?_
    refine .region rfl ?_
    refine .p (.move (.t rfl) (.p (.assign (.t rfl) ?_)))
    refine .nil ?_
    refine .seq ?_
    refine .region rfl ?_
    refine .p (.move (.t rfl) (.p (.move (.t rfl) (.p (.move (.t rfl) (.p (.idx ty53 Tryd.underlying29 (.t rfl) (.t rfl) (by first | omega | (simp; done) | (simp; omega) | (simp at *; omega)) (by first | omega | (simp; done) | (simp; omega) | (simp at *; omega)) (.p (.ldP ty53 (.t rfl) (.p (.callClo1 rfl (.t rfl) ?_)))))))))))
    refine .nil ?_
    refine .cond (.t rfl) (fun hc16 => ?_) (fun hc16 => ?_)
    · refine .seq ?_
      refine .region rfl ?_
      refine .p (.move (.t rfl) (.p (.assign (.t rfl) ?_)))
      refine .nil ?_
      refine .ret ?_
      refine ⟨_, .r1 rfl (.tmp rfl), ?_⟩
      rw [idx_at (by omega) (by simpa using hc16) h2]
    · refine .skip ?_
      refine .region rfl ?_
      refine .p (.add (.t rfl) (.i rfl) (by first | omega | (simp; done) | (simp; omega) | (simp at *; omega)) (by first | omega | (simp; done) | (simp; omega) | (simp at *; omega)) (.p (.move (.t rfl) ?_)))
      refine .nil ?_
      refine ⟨k + 1, .cons rfl (.cons rfl (.cons rfl (.cons rfl (.nil _)))), rfl, ?_, by omega⟩
      refine ⟨by omega, fun j hj hjk => ?_⟩; rcases Nat.lt_or_ge j k with h | h; exact h2 j hj h; (obtain rfl : j = k := by omega); simpa using hc16
  · refine .exit ?_
    refine .seq ?_
    refine .region rfl ?_
    refine .p (.assign (.i rfl) ?_)
    refine .nil ?_
    refine .ret ?_
    refine ⟨_, .r1 rfl (.tmp rfl), ?_⟩
    rw [idx_none fun j hj => h2 j hj (by omega)]
theorem find_c (l : List G_api_Mac) (k : Tag) (m : List UInt8) : FunA gl Tryd.prog 22 [.v l, .v k, .v m] (fun r => r = .v (idx l (macEq k m))) := by
  refine FunA.intro Tryd.func22 rfl (by kernel_rfl) 10 rfl rfl _ rfl fun C hC hG => ?_
  refine .seq ?_
  refine .region rfl ?_
  refine .h (.box (.t rfl) fun b4 => .h (.box (.t rfl) fun b5 => .p (.assign (.i rfl) ?_)))
  refine .nil ?_
  refine .seq ?_
  refine .frzOb hC (.s .z) ?_
  refine .asP 4 rfl (.s .z) ?_
  refine .frzOb hC .z ?_
  refine .asP 5 rfl .z ?_
  refine .region rfl ?_
  refine .p (.move (.t rfl) (.p (.mkClo1 hG (fun x => find1_c k m x) (.cons (.t rfl) (.cons (.t rfl) .nil)) (.p (.call1 hG (indexMac_c _ _) (.cons (.t rfl) (.cons (.t rfl) .nil)) (.p (.assign (.t rfl) ?_)))))))
  refine .nil ?_
  refine .ret ?_
  refine ⟨_, .r1 rfl (.tmp rfl), ?_⟩
  rfl
theorem clipMac_c (l : List G_api_Mac) : FunA gl Tryd.prog 35 [.v l] (fun r => r = .vc l) := by
  refine FunA.intro Tryd.func35 rfl (by kernel_rfl) 9 rfl rfl _ rfl fun C hC hG => ?_
  refine .seq ?_
  refine .region rfl ?_
  refine .p (.assign (.nilS (α := G_api_Mac)) ?_)
  refine .nil ?_
  refine .seq ?_
  refine .region rfl ?_
  refine .p (.move (.t rfl) (.p (.move (.t rfl) (.p (.len Tryd.underlying29 (.t rfl) (.p (.move (.t rfl) (.p (.len Tryd.underlying29 (.t rfl) (.p (.slClip ty53 Tryd.underlying29 (.t rfl) (.t rfl) (.t rfl) ?_)))))))))))
  refine .p (.assign (.t rfl) ?_)
  refine .nil ?_
  refine .ret ?_
  refine ⟨_, .r1 rfl (.tmp rfl), ?_⟩
  rfl
theorem clipSealed_c (l : List G_api_Sealed) : FunA gl Tryd.prog 36 [.v l] (fun r => r = .vc l) := by
  refine FunA.intro Tryd.func36 rfl (by kernel_rfl) 9 rfl rfl _ rfl fun C hC hG => ?_
  refine .seq ?_
  refine .region rfl ?_
  refine .p (.assign (.nilS (α := G_api_Sealed)) ?_)
  refine .nil ?_
  refine .seq ?_
  refine .region rfl ?_
  refine .p (.move (.t rfl) (.p (.move (.t rfl) (.p (.len Tryd.underlying30 (.t rfl) (.p (.move (.t rfl) (.p (.len Tryd.underlying30 (.t rfl) (.p (.slClip ty55 Tryd.underlying30 (.t rfl) (.t rfl) (.t rfl) ?_)))))))))))
  refine .p (.assign (.t rfl) ?_)
  refine .nil ?_
  refine .ret ?_
  refine ⟨_, .r1 rfl (.tmp rfl), ?_⟩
  rfl
end Go.Proofs.YtdhfibhjfahdcaaDoor
set_option maxRecDepth 1000000
set_option linter.unusedVariables false
set_option linter.unusedSimpArgs false
namespace Go.Proofs.YtdhfibhjfahdcaaDoor
open Go.Fl Go.Ab Go.Mac Go.Sha
def symL (kind : UInt8) (n : Int) (k : Nat) : List UInt8 := [115, 121, 109, 98, 111, 108] ++ [kind] ++ be64 (UInt64.ofInt n) k
def symTag (kind : UInt8) (n : Int) : Tag := arrCopy default (symL kind n 8)
theorem shr_split (k : Nat) (hk : k ≤ 56) (q : Int) (m : Nat) : (18446744073709551616 * q + (m : Int)) / ((2 ^ k : Nat) : Int) = 256 * ((2 ^ (56 - k) : Nat) * q) + ((m / 2 ^ k : Nat) : Int) := by
  have hp : ((2 ^ k : Nat) : Int) ≠ 0 := by have := Nat.pow_pos (n := k) (show 0 < 2 by decide); omega
  have h64 : (18446744073709551616 : Int) = ((2 ^ k : Nat) : Int) * (256 * (2 ^ (56 - k) : Nat)) := by
    have : (18446744073709551616 : Nat) = 2 ^ k * (256 * 2 ^ (56 - k)) := by
      rw [show (256 : Nat) = 2 ^ 8 by decide, ← Nat.pow_add, ← Nat.pow_add, show k + (8 + (56 - k)) = 64 by omega]
    have h2 := congrArg (fun x : Nat => (x : Int)) this
    simp only [Int.natCast_mul] at h2
    exact h2
  rw [h64, Int.mul_assoc, Int.mul_add_ediv_left _ _ hp, Int.mul_assoc]
  simp
theorem ofInt_shr2 (n : Int) (k : Nat) (hk : k ≤ 56) : UInt8.ofInt (n >>> k) = (UInt64.ofInt n >>> UInt64.ofNat k).toUInt8 := by
  apply UInt8.toNat_inj.1
  have e1 : (UInt64.ofInt n).toNat = (n % 18446744073709551616).toNat := by simp [UInt64.ofInt]; omega
  have e2 : (UInt64.ofNat k).toNat = k := by simp; omega
  have e3 : (UInt8.ofInt (n >>> k)).toNat = ((n >>> k) % 256).toNat := by
    generalize n >>> k = q
    simp [UInt8.ofInt]; omega
  rw [e3, UInt64.toNat_toUInt8, UInt64.toNat_shiftRight, e1, e2, Nat.mod_eq_of_lt (show k < 64 by omega), Nat.shiftRight_eq_div_pow, Int.shiftRight_eq_div_pow]
  have h0 : 0 ≤ n % 18446744073709551616 := Int.emod_nonneg _ (by decide)
  obtain ⟨m, hm⟩ := Int.eq_ofNat_of_zero_le h0
  have hq := Int.mul_ediv_add_emod n 18446744073709551616
  rw [hm] at hq ⊢
  have e4 := shr_split k hk (n / 18446744073709551616) m
  rw [hq] at e4
  rw [e4, Int.toNat_natCast]
  generalize (((2 ^ (56 - k) : Nat) : Int) * (n / 18446744073709551616)) = z
  generalize m / 2 ^ k = y
  show ((256 * z + (y : Int)) % 256).toNat = y % 256
  omega
theorem algNew_c (free : Bool) (seed : Tag) : FunA gl Tryd.prog 28 [.v free, .v seed] (fun r => r = .v (⟨free, seed, 0, [], []⟩ : G_api_Algebra)) := by
  refine FunA.intro Tryd.func28 rfl (by kernel_rfl) 8 rfl rfl _ rfl fun C hC hG => ?_
  refine .seq ?_
  refine .region rfl ?_
  refine .h (.box (.t rfl) fun b3 => .h (.alloc ty32 fun b4 => ?_))
  refine .nil ?_
  refine .seq ?_
  refine .region rfl ?_
  refine .p (.move (.t rfl) (.p (.ldW ty28 (.t rfl) (.s .z) (.p (.bS2 G_api_Algebra.l0 G_api_Algebra.l1 rfl ty32 fo32 (fun c0 c1 => (⟨c0, c1, 0, [], []⟩ : G_api_Algebra)) (fun _ _ => rfl) rfl rfl rfl (.t rfl) (.t rfl) (.n (.stW ty32 (.t rfl) (.t rfl) .z ?_)))))))
  refine .nil ?_
  refine .ret ?_
  refine ⟨_, .r1 rfl (.cell ty32 rfl .z), ?_⟩
  rfl
theorem rNew_c (free : Bool) (seed : Tag) : FunA gl Tryd.prog 13 [.v free, .v seed] (fun r => r = .v (⟨free, seed, 0, [], []⟩ : G_api_Algebra)) := by
  refine FunA.intro Tryd.func13 rfl (by kernel_rfl) 8 rfl rfl _ rfl fun C hC hG => ?_
  refine .seq ?_
  refine .region rfl ?_
  refine .h (.box (.t rfl) fun b3 => .h (.alloc ty32 fun b4 => ?_))
  refine .nil ?_
  refine .seq ?_
  refine .region rfl ?_
  refine .p (.move (.t rfl) (.p (.ldW ty28 (.t rfl) (.s .z) (.p (.bS2 G_api_Algebra.l0 G_api_Algebra.l1 rfl ty32 fo32 (fun c0 c1 => (⟨c0, c1, 0, [], []⟩ : G_api_Algebra)) (fun _ _ => rfl) rfl rfl rfl (.t rfl) (.t rfl) (.n (.stW ty32 (.t rfl) (.t rfl) .z ?_)))))))
  refine .nil ?_
  refine .ret ?_
  refine ⟨_, .r1 rfl (.cell ty32 rfl .z), ?_⟩
  rfl
theorem rSymbol_c (kind : UInt8) (n : Int) : FunA gl Tryd.prog 26 [.v kind, .v n] (fun r => r = .v (symTag kind n)) := by
  refine FunA.intro Tryd.func26 rfl (by kernel_rfl) 18 rfl rfl _ rfl fun C hC hG => ?_
  have hbe := be64_length (UInt64.ofInt n) 8
  refine .seq ?_
  refine .region rfl ?_
  refine .h (.alloc ty28 fun b4 => ?_)
  refine .nil ?_
  refine .seq ?_
  refine .region rfl ?_
  refine .h (.alloc ty28 fun b5 => ?_)
  refine .nil ?_
  refine .seq ?_
  refine .drawCF [true, false] (by kernel_rfl) 11 [[], [], [(7, 1)], [], [(9, 3)], [(8, 2), (10, 4)], [], [(12, 6)], [(13, 7)], [(11, 5), (14, 8)], [(6, 0), (15, 9)]] [1, 2, 5, 9, 10] rfl (by kernel_rfl) rfl (by kernel_rfl) (by decide) ?_
  refine ⟨_, fun H => OpP.slArrL ar28 (.t rfl) rfl, ?_⟩
  refine .inl ?_
  refine .inl ?_
  refine ⟨_, fun H => OpP.move (.t rfl) rfl, ?_⟩
  refine ⟨_, fun H => OpP.buildSliceF (α := UInt8) ty5 Tryd.underlying23 (.cons (.t rfl) .nil) rfl (by decide) rfl, ?_⟩
  refine .inl ?_
  refine ⟨_, fun H => OpP.move (.t rfl) rfl, ?_⟩
  refine ⟨_, fun H => OpP.conv64 Tryd.underlying3 Tryd.underlying69 (.t rfl) rfl, ?_⟩
  refine ⟨_, fun H => OpP.call1 hG (Eight_c _) (.cons (.t rfl) .nil) rfl, ?_⟩
  refine .inl ?_
  refine .inl ?_
  refine ⟨⟨([], fun k => List.getD [_, (true, .none_)] k (true, .none_)), rfl⟩, ?_⟩
  refine OpH.buildSlice (α := UInt8) ty5 Tryd.underlying23 (.cons (.u8 115 rfl) (.cons (.u8 121 rfl) (.cons (.u8 109 rfl) (.cons (.u8 98 rfl) (.cons (.u8 111 rfl) (.cons (.u8 108 rfl) .nil)))))) rfl (by decide) fun b7 => ?_
  refine ⟨⟨([_], fun k => List.getD [_, (true, .none_)] k (true, .none_)), rfl⟩, ?_⟩
  refine OpH.same Tryd.underlying23 Tryd.underlying5 rfl .z (by simp) ?_
  refine ⟨⟨([_], fun k => List.getD [_, (true, .none_)] k (true, .none_)), rfl⟩, ?_⟩
  refine OpH.append st23 (.inl ⟨_, Tryd.underlying23⟩) rfl .z (.v (.c rfl)) (by first | omega | (simp; done) | (simp; omega) | (simp at *; omega)) (by first | omega | (simp; done) | (simp; omega) | (simp at *; omega)) (fun w11 => ?_) rfl
  refine ⟨⟨([_], fun k => List.getD [_, (true, .none_)] k (true, .none_)), rfl⟩, ?_⟩
  refine OpH.append st23 (.inl ⟨_, Tryd.underlying23⟩) rfl .z (.v (.t rfl)) (by first | omega | (simp; done) | (simp; omega) | (simp at *; omega)) (by first | omega | (simp; done) | (simp; omega) | (simp at *; omega)) (fun w15 => ?_) rfl
  refine ⟨⟨([_], fun k => List.getD [_, (true, .none_)] k (true, .none_)), rfl⟩, ?_⟩
  refine OpH.copySv ty5 Tryd.underlying23 (.t rfl) (.s .z) (.own rfl .z) (by first | omega | (simp; done) | (simp; omega) | (simp at *; omega)) ?_
  refine ⟨⟨([_], fun k => List.getD [_, (true, .none_)] k (true, .none_)), rfl⟩, ?_⟩
  show wpB _ _ _ _ _ _ ((16, _) :: (15, _) :: (14, _) :: (13, _) :: (12, _) :: (11, _) :: (10, _) :: (9, _) :: (8, _) :: (7, _) :: (6, _) :: _) _
  refine .nil ?_
  refine .seq ?_
  refine .region rfl ?_
  refine .p (.ldW ty28 (.t rfl) (.s .z) (.n (.stW ty28 (.t rfl) (.t rfl) (.s (.s .z)) ?_)))
  refine .nil ?_
  refine .ret ?_
  refine ⟨_, .r1 rfl (.cell ty28 rfl (.s (.s .z))), ?_⟩
  rfl
theorem symL_length (kind : UInt8) (n : Int) (k : Nat) : (symL kind n k).length = 7 + k := by simp [symL, be64_length]; omega
theorem arrCopy_set (m : List UInt8) (i : Nat) (h : i = m.length) (hi : i < 32) (c : UInt8) (h2 : _) : (⟨(arrCopy (default : Tag) m).l.set i c, h2⟩ : Tag) = arrCopy default (m ++ [c]) := by
  subst h
  apply Arr.ext
  show (m.take 32 ++ (List.replicate 32 default).drop m.length).set m.length c = (m ++ [c]).take 32 ++ (List.replicate 32 default).drop (m ++ [c]).length
  rw [List.take_of_length_le (by omega), List.take_of_length_le (by simp; omega), List.length_append, List.drop_replicate, List.drop_replicate, List.set_append_right _ _ (Nat.le_refl _), Nat.sub_self]
  obtain ⟨q, hq⟩ : ∃ q, 32 - m.length = q + 1 := ⟨31 - m.length, by omega⟩
  rw [hq, show 32 - (m.length + [c].length) = q by simp; omega, List.replicate_succ]
  simp
theorem Symbol_c (kind : UInt8) (n : Int) : FunA gl Tryd.prog 29 [.v kind, .v n] (fun r => r = .v (symTag kind n)) := by
  refine FunA.intro Tryd.func29 rfl (by kernel_rfl) 25 rfl rfl _ rfl fun C hC hG => ?_
  refine .seq ?_
  refine .region rfl ?_
  refine .h (.alloc ty28 fun b4 => ?_)
  refine .nil ?_
  refine .seq ?_
  refine .region rfl ?_
  refine .h (.alloc ty28 fun b5 => ?_)
  refine .nil ?_
  refine .seq ?_
  refine .region rfl ?_
  refine .p (.slArrL ar28 (.t rfl) (.h (.copySv ty5 Tryd.underlying23 (.t rfl) .z (.str (.s [115, 121, 109, 98, 111, 108] (by decide) (by decide))) (by first | omega | (simp; done) | (simp; omega) | (simp at *; omega)) ?_)))
  refine .nil ?_
  refine .seq ?_
  refine .region rfl ?_
  refine .p (.move (.t rfl) (.p (.idxW ar28 (.t rfl) (.i rfl) (by first | omega | (simp; done) | (simp; omega) | (simp at *; omega)) (by first | omega | (simp; done) | (simp; omega) | (simp at *; omega)) (.n (.stL ty5 (.t rfl) (.t rfl) .z ?_)))))
  refine .nil ?_
  refine .seq ?_
  refine .seq ?_
  refine .region rfl ?_
  refine .p (.move (.i rfl) ?_)
  refine .nil ?_
  refine .block ?_
  refine .loopR (α := Nat) [(1, _), (4, _), (5, _)] (fun k R => (11, .v (k : Int)) :: R) (fun k => [(true, .ob (ptr b5 0) (arrCopy (default : Tag) (symL kind n k))), (true, .ob (ptr b4 0) (default : Tag))]) (fun k => k ≤ 8) (fun k => 8 - k) (0) (.cons rfl (.cons rfl (.cons rfl (.nil _)))) ?_ (.cons rfl (.cons rfl (.cons rfl (.cons rfl (.nil _))))) (congrArg (fun q => [(true, Blk.ob _ q), _]) (Arr.ext rfl)) fun k hF => ?_
  · simp
  refine .seq ?_
  refine .region rfl ?_
  refine .p (.lss (.t rfl) (.i rfl) ?_)
  refine .nil ?_
  refine .seq ?_
  refine .condP (.t rfl) (fun hc12 => ?_) (fun hc12 => ?_)
  · refine .skip ?_
    refine .seq ?_
    refine .block ?_
    refine .seq ?_
    refine .region rfl ?_
    refine .p (.move (.t rfl) (.p (.assign (.t rfl) ?_)))
    refine .nil ?_
    refine .region rfl ?_
    refine .p (.move (.t rfl) (.p (.add (.i rfl) (.t rfl) (by first | omega | (simp; done) | (simp; omega) | (simp at *; omega)) (by first | omega | (simp; done) | (simp; omega) | (simp at *; omega)) (.p (.move (.t rfl) (.p (.move (.t rfl) (.p (.mul (.i rfl) (.t rfl) (by first | omega | (simp; done) | (simp; omega) | (simp at *; omega)) (by first | omega | (simp; done) | (simp; omega) | (simp at *; omega)) (.p (.sub (.i rfl) (.t rfl) (by first | omega | (simp; done) | (simp; omega) | (simp at *; omega)) (by first | omega | (simp; done) | (simp; omega) | (simp at *; omega)) ?_)))))))))))
    refine .p (.shrI (.t rfl) (.t rfl) (by first | omega | (simp; done) | (simp; omega) | (simp at *; omega)) (by first | omega | (simp; done) | (simp; omega) | (simp at *; omega)) (.p (.conv8 Tryd.underlying3 Tryd.underlying5 (.t rfl) (.p (.idxW ar28 (.t rfl) (.t rfl) (by first | omega | (simp; done) | (simp; omega) | (simp at *; omega)) (by first | omega | (simp; done) | (simp; omega) | (simp at *; omega)) (.n (.stL ty5 (.t rfl) (.t rfl) .z ?_)))))))
    refine .nil ?_
    refine .region rfl ?_
    refine .p (.add (.t rfl) (.i rfl) (by first | omega | (simp; done) | (simp; omega) | (simp at *; omega)) (by first | omega | (simp; done) | (simp; omega) | (simp at *; omega)) (.p (.move (.t rfl) ?_)))
    refine .nil ?_
    refine ⟨k + 1, .cons rfl (.cons rfl (.cons rfl (.cons rfl (.nil _)))), congrArg (fun q => [(true, Blk.ob _ q), _]) (by rw [show symL kind n (k + 1) = symL kind n k ++ [UInt8.ofInt (n >>> (56 - 8 * (k : Int)).toNat)] by rw [ofInt_shr2 _ _ (by omega), show (56 - 8 * (k : Int)).toNat = 56 - 8 * k by omega, symL, symL, be64_succ, List.append_assoc, List.append_assoc, List.append_assoc]]; exact arrCopy_set _ _ (by rw [symL_length]; omega) (by omega) _ _), ?_, by omega⟩
    omega
  · refine .exit ?_
    refine .seq ?_
    refine .region rfl ?_
    refine .p (.ldW ty28 (.t rfl) .z (.n (.stW ty28 (.t rfl) (.t rfl) (.s .z) ?_)))
    refine .nil ?_
    refine .ret ?_
    refine ⟨_, .r1 rfl (.cell ty28 rfl (.s .z)), ?_⟩
    obtain rfl : k = 8 := by omega
    rfl
end Go.Proofs.YtdhfibhjfahdcaaDoor
set_option maxRecDepth 1000000
set_option linter.unusedVariables false
set_option linter.unusedSimpArgs false
namespace Go.Proofs.YtdhfibhjfahdcaaDoor
open Go.Fl Go.Ab Go.Mac Go.Sha
abbrev Alg := G_api_Algebra
def freshStr : Str := ⟨[102, 114, 101, 115, 104]⟩
def algKey (a : Alg) : Alg × Tag × Int :=
  if 65536 ≤ a.Fresh then (default, default, 2) else
  (⟨a.Free, a.Seed, a.Fresh + 1, a.Macs, a.Boxes⟩, (if a.Free then symTag 107 (a.Fresh + 1) else (derive a.Seed freshStr (a.Fresh + 1)).1), 0)
def algFind (a : Alg) (k : Tag) (m : List UInt8) : Option G_api_Mac := a.Macs.find? (macEq k m)
def algEntry (a : Alg) (k : Tag) (m : List UInt8) : Tag × Bool := match algFind a k m with | some x => (x.Tag, true) | none => (default, false)
def newTag (a : Alg) (k : Tag) (m : List UInt8) : Tag := if a.Free then symTag 109 (a.Macs.length + 1) else hmac k.l m
def algMac (a : Alg) (k : Tag) (m : List UInt8) : Alg × Tag × Int :=
  if 4096 < m.length then (default, default, 2) else
  match algFind a k m with
  | some x => (a, x.Tag, 0)
  | none => if 65536 ≤ a.Macs.length then (default, default, 2) else
    (⟨a.Free, a.Seed, a.Fresh, a.Macs ++ [⟨k, m, newTag a k m⟩], a.Boxes⟩, newTag a k m, 0)
def algLook (a : Alg) (k : Tag) (m : List UInt8) : Tag × Bool :=
  if a.Free then algEntry a k m else if 4096 < m.length then (default, false) else (hmac k.l m, true)
theorem rKey_c (a : Alg) (h0 : 0 ≤ a.Fresh) : FunA gl Tryd.prog 16 [.v a] (fun r => r = .t3 (.v (algKey a).1) (.v (algKey a).2.1) (.v (algKey a).2.2)) := by
  refine FunA.intro Tryd.func16 rfl (by kernel_rfl) 32 rfl rfl _ rfl fun C hC hG => ?_
  refine .seq ?_
  refine .region rfl ?_
  refine .h (.box (.t rfl) fun b1 => .h (.alloc ty32 fun b2 => .h (.alloc ty28 fun b3 => .p (.assign (.i rfl) ?_))))
  refine .nil ?_
  refine .seq ?_
  refine .seq ?_
  refine .region rfl ?_
  refine .p (.fldW G_api_Algebra.l2 fd32_2 rfl (.t rfl) (.p (.ldF (fun x => x.Fresh) ty3 (.t rfl) (.s (.s .z)) (fun _ => rfl) (.p (.geq (.t rfl) (.i rfl) ?_)))))
  refine .nil ?_
  refine .condP (.t rfl) (fun hc9 => ?_) (fun hc9 => ?_)
  · refine .seq ?_
    refine .region rfl ?_
    refine .p (.bS0 (α := G_api_Algebra) rfl ty32 fo32 (.p (.buildA (default : (Arr 32 UInt8)) ty28 ar28 .nil rfl (.n (.stW ty32 (.t rfl) (.t rfl) (.s .z) (.n (.stW ty28 (.t rfl) (.t rfl) .z (.p (.assign (.i rfl) ?_)))))))))
    refine .nil ?_
    refine .ret ?_
    refine ⟨_, .r3 rfl (.cell ty32 rfl (.s .z)) (.cell ty28 rfl .z) (.tmp rfl), ?_⟩
    have e : algKey a = (default, default, 2) := by unfold algKey; rw [if_pos hc9]
    rw [e]
  · refine .skip ?_
    refine .seq ?_
    refine .region rfl ?_
    refine .p (.fldW G_api_Algebra.l2 fd32_2 rfl (.t rfl) (.p (.ldF (fun x => x.Fresh) ty3 (.t rfl) (.s (.s .z)) (fun _ => rfl) (.p (.add (.t rfl) (.i rfl) (by first | omega | (simp; done) | (simp; omega) | (simp at *; omega)) (by first | omega | (simp; done) | (simp; omega) | (simp at *; omega)) (.p (.fldW G_api_Algebra.l2 fd32_2 rfl (.t rfl) (.n (.stF (fun y x => { x with Fresh := y }) ty3 (.t rfl) (.t rfl) (.s (.s .z)) (fun _ _ => rfl) ?_)))))))))
    refine .nil ?_
    refine .seq ?_
    refine .seq ?_
    refine .region rfl ?_
    refine .p (.fldW G_api_Algebra.l0 fd32_0 rfl (.t rfl) (.p (.ldF (fun x => x.Free) ty4 (.t rfl) (.s (.s .z)) (fun _ => rfl) ?_)))
    refine .nil ?_
    refine .cond (.t rfl) (fun hc17 => ?_) (fun hc17 => ?_)
    · refine .seq ?_
      refine .draw (by kernel_rfl) 4 [[], [], [(19, 1)], [(20, 2)]] rfl (by kernel_rfl) rfl ?_
      refine ⟨_, OpP.ldW ty32 (.t rfl) (.s (.s .z)) rfl, ?_⟩
      refine ⟨_, OpP.fldW G_api_Algebra.l2 fd32_2 rfl (.t rfl) rfl, ?_⟩
      refine ⟨_, OpP.ldF (fun x => x.Fresh) ty3 (.t rfl) (.s (.s .z)) (fun _ => rfl) rfl, ?_⟩
      refine ⟨_, OpP.call1 hG (rSymbol_c _ _) (.cons (.u8 107 rfl) (.cons (.t rfl) .nil)) rfl, ?_⟩
      show wpB _ _ _ _ _ _ ((21, _) :: (20, _) :: (19, _) :: (18, _) :: _) _
      refine .n (.stW ty32 (.t rfl) (.t rfl) (.s .z) (.n (.stW ty28 (.t rfl) (.t rfl) .z (.p (.assign (.i rfl) ?_)))))
      refine .nil ?_
      refine .ret ?_
      refine ⟨_, .r3 rfl (.cell ty32 rfl (.s .z)) (.cell ty28 rfl .z) (.tmp rfl), ?_⟩
      have e : algKey a = (⟨a.Free, a.Seed, a.Fresh + 1, a.Macs, a.Boxes⟩, symTag 107 (a.Fresh + 1), 0) := by unfold algKey; rw [if_neg hc9, if_pos hc17]
      rw [e]
    · refine .skip ?_
      refine .seq ?_
      refine .region rfl ?_
      refine .p (.fldW G_api_Algebra.l1 fd32_1 rfl (.t rfl) (.p (.ldF (fun x => x.Seed) ty28 (.t rfl) (.s (.s .z)) (fun _ => rfl) (.p (.fldW G_api_Algebra.l2 fd32_2 rfl (.t rfl) (.p (.ldF (fun x => x.Fresh) ty3 (.t rfl) (.s (.s .z)) (fun _ => rfl) (.p (.call1 hG (rDerive_c _ _ _ (by decide)) (.cons (.t rfl) (.cons (.s [102, 114, 101, 115, 104] (by decide) (by decide)) (.cons (.t rfl) .nil))) (.p (.move (.t rfl) ?_)))))))))))
      refine .p (.ext2_0 (.t rfl) (.p (.ext2_1 (.t rfl) (.h (.alloc ty28 fun b5 => .n (.stW ty28 (.t rfl) (.t rfl) .z (.p (.assign (.t rfl) ?_))))))))
      refine .nil ?_
      refine .seq ?_
      refine .drawCF [false, true, true, false] (by kernel_rfl) 5 [[], [], [(30, 0)], [(31, 1)], []] [2, 3] rfl (by kernel_rfl) rfl (by kernel_rfl) (by decide) ?_
      refine ⟨_, fun H => OpP.ldW ty32 (.t rfl) (Hole.app (.s (.s (.s .z)))) rfl, ?_⟩
      refine ⟨_, fun H => OpP.ldW ty28 (.t rfl) (Hole.app .z) rfl, ?_⟩
      refine .inl ?_
      refine .inl ?_
      refine ⟨_, fun H => OpP.assign (.i rfl) rfl, ?_⟩
      refine ⟨⟨([], fun k => List.getD [(true, .none_), _, _, (true, .none_)] k (true, .none_)), rfl⟩, ?_⟩
      refine OpH.stW ty32 (.t rfl) (.t rfl) (.s (.s .z)) ?_
      refine ⟨⟨([], fun k => List.getD [(true, .none_), _, _, (true, .none_)] k (true, .none_)), rfl⟩, ?_⟩
      refine OpH.stW ty28 (.t rfl) (.t rfl) (.s .z) ?_
      refine ⟨⟨([], fun k => List.getD [(true, .none_), _, _, (true, .none_)] k (true, .none_)), rfl⟩, ?_⟩
      show wpB _ _ _ _ _ _ ((4, _) :: (31, _) :: (30, _) :: _) _
      refine .nil ?_
      refine .ret ?_
      refine ⟨_, .r3 rfl (.cell ty32 rfl (.s (.s .z))) (.cell ty28 rfl (.s .z)) (.tmp rfl), ?_⟩
      have e : algKey a = (⟨a.Free, a.Seed, a.Fresh + 1, a.Macs, a.Boxes⟩, (derive a.Seed freshStr (a.Fresh + 1)).1, 0) := by unfold algKey; rw [if_neg hc9, if_neg (by rw [show a.Free = false from hc17]; decide)]
      rw [e]; rfl
theorem find_some {l : List G_api_Mac} {p : G_api_Mac → Bool} {k : Nat} (h : k < l.length) (h1 : p l[k] = true) (h2 : ∀ j (hj : j < l.length), j < k → p l[j] = false) : l.find? p = some l[k] :=
  List.find?_eq_some_iff_getElem.2 ⟨h1, k, h, rfl, fun j hj => by rw [h2 j (by omega) hj]; rfl⟩
theorem find_none {l : List G_api_Mac} {p : G_api_Mac → Bool} (h : ∀ j (hj : j < l.length), p l[j] = false) : l.find? p = none :=
  List.find?_eq_none.2 fun x hx => by
    obtain ⟨j, hj, rfl⟩ := List.getElem_of_mem hx
    rw [h j hj]; decide
theorem rEntry_c (a : Alg) (k : Tag) (m : List UInt8) : FunA gl Tryd.prog 24 [.v a, .v k, .v m] (fun r => r = .t2 (.v (algEntry a k m).1) (.v (algEntry a k m).2)) := by
  refine FunA.intro Tryd.func24 rfl (by kernel_rfl) 41 rfl rfl _ rfl fun C hC hG => ?_
  refine .seq ?_
  refine .region rfl ?_
  refine .h (.box (.t rfl) fun b3 => .h (.box (.t rfl) fun b4 => .h (.alloc ty28 fun b6 => .p (.assign .b ?_))))
  refine .nil ?_
  refine .seq ?_
  refine .seq ?_
  refine .frzOb hC (.s .z) ?_
  refine .asP 4 rfl (.s .z) ?_
  refine .frzOb hC (.s (.s .z)) ?_
  refine .asP 3 rfl (.s (.s .z)) ?_
  refine .region rfl ?_
  refine .p (.assign (.i rfl) ?_)
  refine .nil ?_
  refine .block ?_
  refine .loopR (α := Nat) [(2, _), (3, _), (4, _), (6, _)] (fun i R => (8, .v (i : Int)) :: R) (fun i => [(true, .ob (ptr b6 0) (default : Tag)), (true, .fz (ptr b4 0) (.p k)), (true, .fz (ptr b3 0) (.p a))]) (fun i => i ≤ a.Macs.length ∧ ∀ j (hj : j < a.Macs.length), j < i → macEq k m a.Macs[j] = false) (fun i => a.Macs.length - i) (0) (.cons rfl (.cons rfl (.cons rfl (.cons rfl (.nil _))))) ?_ (.cons rfl (.cons rfl (.cons rfl (.cons rfl (.cons rfl (.nil _)))))) (rfl) fun i hF => ?_
  · simp
  obtain ⟨h1, h2⟩ := hF
  refine .seq ?_
  refine .seq ?_
  refine .region rfl ?_
  refine .p (.move (.t rfl) (.p (.fldPF G_api_Algebra.l3 (fun x => x.Macs) fd32_3 rfl (fun _ => rfl) (.t rfl) (.p (.ldP ty29 (.t rfl) (.p (.len Tryd.underlying29 (.t rfl) (.p (.lss (.t rfl) (.t rfl) ?_)))))))))
  refine .nil ?_
  refine .condP (.t rfl) (fun hc13 => ?_) (fun hc13 => ?_)
  · refine .skip ?_
    refine .seq ?_
    refine .block ?_
    refine .seq ?_
    refine .draw (by kernel_rfl) 18 [[], [(16, 0)], [], [(17, 1), (18, 2)], [(19, 3)], [(20, 4)], [], [(21, 5), (22, 6)], [(23, 7)], [], [(25, 9)], [], [(26, 10), (27, 11)], [(28, 12)], [(29, 13)], [], [(30, 14), (31, 15)], [(24, 8), (32, 16)]] rfl (by kernel_rfl) rfl ?_
    refine ⟨_, OpP.fldPF G_api_Algebra.l3 (fun x => x.Macs) fd32_3 rfl (fun _ => rfl) (.t rfl) rfl, ?_⟩
    refine ⟨_, OpP.ldP ty29 (.t rfl) rfl, ?_⟩
    refine ⟨_, OpP.move (.t rfl) rfl, ?_⟩
    refine ⟨_, OpP.idx ty53 Tryd.underlying29 (.t rfl) (.t rfl) (by first | omega | (simp; done) | (simp; omega) | (simp at *; omega)) (by first | omega | (simp; done) | (simp; omega) | (simp at *; omega)) rfl, ?_⟩
    refine ⟨_, OpP.fldPF G_api_Mac.l0 (fun x => x.Key) fd53_0 rfl (fun _ => rfl) (.t rfl) rfl, ?_⟩
    refine ⟨_, OpP.ldP ty28 (.t rfl) rfl, ?_⟩
    refine ⟨_, OpP.ldP ty28 (.t rfl) rfl, ?_⟩
    refine ⟨_, OpP.eqlA8 Tryd.underlying28 sz5 Tryd.underlying5 gd28 (.t rfl) (.t rfl) rfl, ?_⟩
    refine ⟨_, OpP.move (.t rfl) rfl, ?_⟩
    refine ⟨_, ⟨_, _, rfl, rfl, fun hg25 => OpP.fldPF G_api_Algebra.l3 (fun x => x.Macs) fd32_3 rfl (fun _ => rfl) (.t rfl) rfl⟩, ?_⟩
    refine ⟨_, ⟨_, _, rfl, rfl, fun hg26 => OpP.ldP ty29 (.o rfl (beq_iff_eq.2 hg26)) rfl⟩, ?_⟩
    refine ⟨_, ⟨_, _, rfl, rfl, fun hg27 => OpP.move (.t rfl) rfl⟩, ?_⟩
    refine ⟨_, ⟨_, _, rfl, rfl, fun hg28 => OpP.idx ty53 Tryd.underlying29 (.o rfl (beq_iff_eq.2 hg28)) (.o rfl (beq_iff_eq.2 hg28)) (by first | omega | (simp; omega) | (have := hg28; simp at this; omega)) (by first | omega | (simp; omega) | (have := hg28; simp at this; omega)) rfl⟩, ?_⟩
    refine ⟨_, ⟨_, _, rfl, rfl, fun hg29 => OpP.fldPF G_api_Mac.l1 (fun x => x.Message) fd53_1 rfl (fun _ => rfl) (.o rfl (beq_iff_eq.2 hg29)) rfl⟩, ?_⟩
    refine ⟨_, ⟨_, _, rfl, rfl, fun hg30 => OpP.ldP ty23 (.o rfl (beq_iff_eq.2 hg30)) rfl⟩, ?_⟩
    refine ⟨_, ⟨_, _, rfl, rfl, fun hg31 => OpP.move (.t rfl) rfl⟩, ?_⟩
    refine ⟨_, ⟨_, _, rfl, rfl, fun hg32 => OpP.call1 hG (Same_c _ _) (.cons (.o rfl (beq_iff_eq.2 hg32)) (.cons (.o rfl (beq_iff_eq.2 hg32)) .nil)) rfl⟩, ?_⟩
    refine ⟨_, OpP.pickAnd (.t rfl) (fun hp => (.o rfl (beq_iff_eq.2 hp))) rfl, ?_⟩
    show wpB _ _ _ _ _ _ ((33, _) :: (32, _) :: (31, _) :: (30, _) :: (29, _) :: (28, _) :: (27, _) :: (26, _) :: (25, _) :: (24, _) :: (23, _) :: (22, _) :: (21, _) :: (20, _) :: (19, _) :: (18, _) :: (17, _) :: (16, _) :: _) _
    refine .nil ?_
    refine .cond (.t rfl) (fun hc33 => ?_) (fun hc33 => ?_)
    · refine .seq ?_
      refine .region rfl ?_
      refine .p (.fldPF G_api_Algebra.l3 (fun x => x.Macs) fd32_3 rfl (fun _ => rfl) (.t rfl) (.p (.ldP ty29 (.t rfl) (.p (.move (.t rfl) (.p (.idx ty53 Tryd.underlying29 (.t rfl) (.t rfl) (by first | omega | (simp; done) | (simp; omega) | (simp at *; omega)) (by first | omega | (simp; done) | (simp; omega) | (simp at *; omega)) (.p (.fldPF G_api_Mac.l2 (fun x => x.Tag) fd53_2 rfl (fun _ => rfl) (.t rfl) (.p (.ldP ty28 (.t rfl) ?_)))))))))))
      refine .n (.stW ty28 (.t rfl) (.t rfl) .z (.p (.assign .b ?_)))
      refine .nil ?_
      refine .ret ?_
      refine ⟨_, .r2 rfl (.cell ty28 rfl .z) (.tmp rfl), ?_⟩
      have e : algEntry a k m = (a.Macs[i].Tag, true) := by unfold algEntry algFind; rw [find_some (k := i) (by omega) hc33 h2]
      rw [e]; rfl
    · refine .skip ?_
      refine .lenLe 11 rfl fun hl11 => ?_
      refine .region rfl ?_
      refine .p (.move (.t rfl) (.p (.add (.t rfl) (.i rfl) (by first | omega | (simp; done) | (simp; omega) | (simp at *; omega)) (by first | omega | (simp; done) | (simp; omega) | (simp at *; omega)) (.p (.assign (.t rfl) ?_)))))
      refine .nil ?_
      refine ⟨i + 1, .cons rfl (.cons rfl (.cons rfl (.cons rfl (.cons rfl (.nil _))))), rfl, ?_, by omega⟩
      refine ⟨by omega, fun j hj hji => ?_⟩; rcases Nat.lt_or_ge j i with h | h; exact h2 j hj h; (obtain rfl : j = i := by omega); exact hc33
  · refine .exit ?_
    refine .seq ?_
    refine .region rfl ?_
    refine .p (.buildA (default : (Arr 32 UInt8)) ty28 ar28 .nil rfl (.n (.stW ty28 (.t rfl) (.t rfl) .z (.p (.assign .b ?_)))))
    refine .nil ?_
    refine .ret ?_
    refine ⟨_, .r2 rfl (.cell ty28 rfl .z) (.tmp rfl), ?_⟩
    have e : algEntry a k m = (default, false) := by unfold algEntry algFind; rw [find_none fun j hj => h2 j hj (by omega)]
    rw [e]
theorem algMac_long {a : Alg} {k : Tag} {m : List UInt8} (h : 4096 < m.length) : algMac a k m = (default, default, 2) := by unfold algMac; rw [if_pos h]
theorem algMac_found {a : Alg} {k : Tag} {m : List UInt8} (h : ¬ 4096 < m.length) (he : (algEntry a k m).2 = true) : algMac a k m = (a, (algEntry a k m).1, 0) := by
  unfold algMac; rw [if_neg h]; unfold algEntry at *
  cases hf : algFind a k m with
  | none => rw [hf] at he; cases he
  | some x => rfl
theorem entry_none {a : Alg} {k : Tag} {m : List UInt8} (he : (algEntry a k m).2 = false) : algFind a k m = none := by
  unfold algEntry at he
  cases hf : algFind a k m with
  | none => rfl
  | some x => rw [hf] at he; cases he
theorem algMac_full {a : Alg} {k : Tag} {m : List UInt8} (h : ¬ 4096 < m.length) (he : algFind a k m = none) (hl : 65536 ≤ a.Macs.length) : algMac a k m = (default, default, 2) := by
  unfold algMac; rw [if_neg h, he]; simp only []; rw [if_pos hl]
theorem algMac_new {a : Alg} {k : Tag} {m : List UInt8} (h : ¬ 4096 < m.length) (he : algFind a k m = none) (hl : ¬ 65536 ≤ a.Macs.length) :
    algMac a k m = (⟨a.Free, a.Seed, a.Fresh, a.Macs ++ [⟨k, m, newTag a k m⟩], a.Boxes⟩, newTag a k m, 0) := by
  unfold algMac; rw [if_neg h, he]; simp only []; rw [if_neg hl]
theorem newTag_free {a : Alg} {k : Tag} {m : List UInt8} (h : a.Free = true) : newTag a k m = symTag 109 (a.Macs.length + 1) := by unfold newTag; rw [if_pos h]
theorem newTag_real {a : Alg} {k : Tag} {m : List UInt8} (h : a.Free = false) : newTag a k m = hmac k.l m := by unfold newTag; rw [if_neg (by rw [h]; decide)]
theorem rMac_c (a : Alg) (k : Tag) (m : List UInt8) : FunA gl Tryd.prog 10 [.v a, .v k, .v m] (fun r => r = .t3 (.v (algMac a k m).1) (.v (algMac a k m).2.1) (.v (algMac a k m).2.2)) := by
  refine FunA.intro Tryd.func10 rfl (by kernel_rfl) 58 rfl rfl _ rfl fun C hC hG => ?_
  refine .seq ?_
  refine .region rfl ?_
  refine .h (.box (.t rfl) fun b3 => .h (.box (.t rfl) fun b4 => .h (.alloc ty32 fun b6 => .h (.alloc ty28 fun b7 => .p (.assign (.i rfl) ?_)))))
  refine .nil ?_
  refine .seq ?_
  refine .seq ?_
  refine .frzOb hC (.s (.s .z)) ?_
  refine .asP 4 rfl (.s (.s .z)) ?_
  refine .region rfl ?_
  refine .p (.move (.t rfl) (.p (.len Tryd.underlying23 (.t rfl) (.p (.gtr (.t rfl) (.i rfl) ?_)))))
  refine .nil ?_
  refine .condP (.t rfl) (fun hc14 => ?_) (fun hc14 => ?_)
  · refine .seq ?_
    refine .region rfl ?_
    refine .p (.bS0 (α := G_api_Algebra) rfl ty32 fo32 (.p (.buildA (default : (Arr 32 UInt8)) ty28 ar28 .nil rfl (.n (.stW ty32 (.t rfl) (.t rfl) (.s .z) (.n (.stW ty28 (.t rfl) (.t rfl) .z (.p (.assign (.i rfl) ?_)))))))))
    refine .nil ?_
    refine .ret ?_
    refine ⟨_, .r3 rfl (.cell ty32 rfl (.s .z)) (.cell ty28 rfl .z) (.tmp rfl), ?_⟩
    rw [algMac_long (a := a) (k := k) (m := m) (by omega)]
  · refine .skip ?_
    refine .seq ?_
    refine .seq ?_
    refine .region rfl ?_
    refine .p (.ldW ty32 (.t rfl) (.s (.s (.s .z))) (.p (.ldP ty28 (.t rfl) (.p (.move (.t rfl) (.p (.call1 hG (rEntry_c _ _ _) (.cons (.t rfl) (.cons (.t rfl) (.cons (.t rfl) .nil))) (.p (.move (.t rfl) (.p (.ext2_0 (.t rfl) ?_)))))))))))
    refine .p (.ext2_1 (.t rfl) (.h (.alloc ty28 fun b9 => .n (.stW ty28 (.t rfl) (.t rfl) .z (.p (.assign (.t rfl) ?_))))))
    refine .nil ?_
    refine .seq ?_
    refine .region rfl ?_
    refine .p (.move (.t rfl) ?_)
    refine .nil ?_
    refine .cond (.t rfl) (fun hc24 => ?_) (fun hc24 => ?_)
    · refine .seq ?_
      refine .drawCF [false, true, true, false, false] (by kernel_rfl) 5 [[], [], [(25, 0)], [(26, 1)], []] [2, 3] rfl (by kernel_rfl) rfl (by kernel_rfl) (by decide) ?_
      refine ⟨_, fun H => OpP.ldW ty32 (.t rfl) (Hole.app (.s (.s (.s (.s .z))))) rfl, ?_⟩
      refine ⟨_, fun H => OpP.ldW ty28 (.t rfl) (Hole.app .z) rfl, ?_⟩
      refine .inl ?_
      refine .inl ?_
      refine ⟨_, fun H => OpP.assign (.i rfl) rfl, ?_⟩
      refine ⟨⟨([], fun k => List.getD [(true, .none_), _, _, (true, .none_), (true, .none_)] k (true, .none_)), rfl⟩, ?_⟩
      refine OpH.stW ty32 (.t rfl) (.t rfl) (.s (.s .z)) ?_
      refine ⟨⟨([], fun k => List.getD [(true, .none_), _, _, (true, .none_), (true, .none_)] k (true, .none_)), rfl⟩, ?_⟩
      refine OpH.stW ty28 (.t rfl) (.t rfl) (.s .z) ?_
      refine ⟨⟨([], fun k => List.getD [(true, .none_), _, _, (true, .none_), (true, .none_)] k (true, .none_)), rfl⟩, ?_⟩
      show wpB _ _ _ _ _ _ ((8, _) :: (26, _) :: (25, _) :: _) _
      refine .nil ?_
      refine .ret ?_
      refine ⟨_, .r3 rfl (.cell ty32 rfl (.s (.s .z))) (.cell ty28 rfl (.s .z)) (.tmp rfl), ?_⟩
      rw [algMac_found (a := a) (k := k) (m := m) (by omega) hc24]
    · refine .skip ?_
      refine .seq ?_
      refine .seq ?_
      refine .region rfl ?_
      refine .p (.fldW G_api_Algebra.l3 fd32_3 rfl (.t rfl) (.p (.ldF (fun x => x.Macs) ty29 (.t rfl) (.s (.s (.s (.s .z)))) (fun _ => rfl) (.p (.len Tryd.underlying29 (.t rfl) (.p (.geq (.t rfl) (.i rfl) ?_)))))))
      refine .nil ?_
      refine .condP (.t rfl) (fun hc30 => ?_) (fun hc30 => ?_)
      · refine .seq ?_
        refine .region rfl ?_
        refine .p (.bS0 (α := G_api_Algebra) rfl ty32 fo32 (.p (.buildA (default : (Arr 32 UInt8)) ty28 ar28 .nil rfl (.n (.stW ty32 (.t rfl) (.t rfl) (.s (.s .z)) (.n (.stW ty28 (.t rfl) (.t rfl) (.s .z) (.p (.assign (.i rfl) ?_)))))))))
        refine .nil ?_
        refine .ret ?_
        refine ⟨_, .r3 rfl (.cell ty32 rfl (.s (.s .z))) (.cell ty28 rfl (.s .z)) (.tmp rfl), ?_⟩
        rw [algMac_full (a := a) (k := k) (m := m) (by omega) (entry_none hc24) (by omega)]
      · refine .skip ?_
        refine .seq ?_
        refine .region rfl ?_
        refine .p (.slArrP (by decide) ar28 (.t rfl) (.p (.move (.t rfl) (.p (.call1 hG (rHmac_c _ _ (by first | omega | (simp; done) | (simp; omega) | (simp at *; omega)) (by first | omega | (simp; done) | (simp; omega) | (simp at *; omega))) (.cons (.t rfl) (.cons (.t rfl) .nil)) (.h (.alloc ty28 fun b11 => .n (.stW ty28 (.t rfl) (.t rfl) .z ?_))))))))
        refine .nil ?_
        refine .seq ?_
        refine .seq ?_
        refine .region rfl ?_
        refine .p (.fldW G_api_Algebra.l0 fd32_0 rfl (.t rfl) (.p (.ldF (fun x => x.Free) ty4 (.t rfl) (.s (.s (.s (.s (.s .z))))) (fun _ => rfl) ?_)))
        refine .nil ?_
        refine .cond (.t rfl) (fun hc37 => ?_) (fun hc37 => ?_)
        · refine .region rfl ?_
          refine .p (.fldW G_api_Algebra.l3 fd32_3 rfl (.t rfl) (.p (.ldF (fun x => x.Macs) ty29 (.t rfl) (.s (.s (.s (.s (.s .z))))) (fun _ => rfl) (.p (.len Tryd.underlying29 (.t rfl) (.p (.add (.t rfl) (.i rfl) (by first | omega | (simp; done) | (simp; omega) | (simp at *; omega)) (by first | omega | (simp; done) | (simp; omega) | (simp at *; omega)) (.p (.call1 hG (rSymbol_c _ _) (.cons (.u8 109 rfl) (.cons (.t rfl) .nil)) (.n (.stW ty28 (.t rfl) (.t rfl) .z ?_)))))))))))
          refine .nil ?_
          refine .seq ?_
          refine .drawCF [false, false, false, false, false, false] (by kernel_rfl) 13 [[], [], [(44, 1)], [(43, 0), (45, 2)], [], [], [], [(48, 5), (49, 6)], [], [(47, 4), (50, 7), (51, 8)], [(52, 9)], [(46, 3), (53, 10)], []] [0, 3, 11] rfl (by kernel_rfl) rfl (by kernel_rfl) (by decide) ?_
          refine .inl ?_
          refine ⟨_, fun H => OpP.fldW G_api_Algebra.l3 fd32_3 rfl (.t rfl) rfl, ?_⟩
          refine ⟨_, fun H => OpP.ldF (fun x => x.Macs) ty29 (.t rfl) (Hole.app (.s (.s (.s (.s (.s .z)))))) (fun _ => rfl) rfl, ?_⟩
          refine .inl ?_
          refine ⟨_, fun H => OpP.ldP ty28 (.t rfl) rfl, ?_⟩
          refine ⟨_, fun H => OpP.buildSliceF (α := UInt8) ty5 Tryd.underlying23 .nil rfl (by decide) rfl, ?_⟩
          refine ⟨_, fun H => OpP.move (.t rfl) rfl, ?_⟩
          refine ⟨_, fun H => OpP.appendC st23 (.inl ⟨_, Tryd.underlying23⟩) (.t rfl) (.v (.t rfl)) (by first | omega | (simp; done) | (simp; omega) | (simp at *; omega)) (by first | omega | (simp; done) | (simp; omega) | (simp at *; omega)) rfl, ?_⟩
          refine ⟨_, fun H => OpP.ldW ty28 (.t rfl) (Hole.app .z) rfl, ?_⟩
          refine ⟨_, fun H => OpP.bS3 G_api_Mac.l0 G_api_Mac.l1 G_api_Mac.l2 rfl ty53 fo53 (fun c0 c1 c2 => (⟨c0, c1, c2⟩ : G_api_Mac)) (fun _ _ _ => rfl) rfl rfl rfl rfl (.t rfl) (.t rfl) (.t rfl) rfl, ?_⟩
          refine ⟨_, fun H => OpP.buildSliceF (α := G_api_Mac) ty53 Tryd.underlying29 (.cons (.t rfl) .nil) rfl (by decide) rfl, ?_⟩
          refine .inl ?_
          refine ⟨_, fun H => OpP.fldW G_api_Algebra.l3 fd32_3 rfl (.t rfl) rfl, ?_⟩
          refine ⟨⟨([], fun k => List.getD [(true, .none_), (true, .none_), (true, .none_), (true, .none_), (true, .none_), (true, .none_)] k (true, .none_)), rfl⟩, ?_⟩
          refine OpH.buildSlice (α := G_api_Mac) ty53 Tryd.underlying29 .nil rfl (by decide) fun b43 => ?_
          refine ⟨⟨([_], fun k => List.getD [(true, .none_), (true, .none_), (true, .none_), (true, .none_), (true, .none_), (true, .none_)] k (true, .none_)), rfl⟩, ?_⟩
          refine OpH.append st29 (.inl ⟨_, Tryd.underlying29⟩) rfl .z (.v (.t rfl)) (by first | omega | (simp; done) | (simp; omega) | (simp at *; omega)) (by first | omega | (simp; done) | (simp; omega) | (simp at *; omega)) (fun w46 => ?_) rfl
          refine ⟨⟨([_], fun k => List.getD [(true, .none_), (true, .none_), (true, .none_), (true, .none_), (true, .none_), (true, .none_)] k (true, .none_)), rfl⟩, ?_⟩
          refine OpH.append st29 (.inl ⟨_, Tryd.underlying29⟩) rfl .z (.v (.c rfl)) (by first | omega | (simp; done) | (simp; omega) | (simp at *; omega)) (by first | omega | (simp; done) | (simp; omega) | (simp at *; omega)) (fun w54 => ?_) rfl
          refine ⟨⟨([_], fun k => List.getD [(true, .none_), (true, .none_), (true, .none_), (true, .none_), (true, .none_), (true, .none_)] k (true, .none_)), rfl⟩, ?_⟩
          show wpB _ _ _ _ _ _ ((55, _) :: (54, _) :: (53, _) :: (52, _) :: (51, _) :: (50, _) :: (49, _) :: (48, _) :: (47, _) :: (46, _) :: (45, _) :: (44, _) :: (43, _) :: _) _
          refine .frzOwn hC .z ?_
          refine .as 54 rfl .z ?_
          refine .n (.stF (fun y x => { x with Macs := y }) ty29 (.t rfl) (.t rfl) (.s (.s (.s (.s (.s (.s .z)))))) (fun _ _ => rfl) ?_)
          refine .nil ?_
          refine .seq ?_
          refine .drawCF [false, false, false, true, true, false, false] (by kernel_rfl) 5 [[], [], [(56, 0)], [(57, 1)], []] [2, 3] rfl (by kernel_rfl) rfl (by kernel_rfl) (by decide) ?_
          refine ⟨_, fun H => OpP.ldW ty32 (.t rfl) (Hole.app (.s (.s (.s (.s (.s (.s .z))))))) rfl, ?_⟩
          refine ⟨_, fun H => OpP.ldW ty28 (.t rfl) (Hole.app (.s .z)) rfl, ?_⟩
          refine .inl ?_
          refine .inl ?_
          refine ⟨_, fun H => OpP.assign (.i rfl) rfl, ?_⟩
          refine ⟨⟨([], fun k => List.getD [(true, .none_), (true, .none_), (true, .none_), _, _, (true, .none_), (true, .none_)] k (true, .none_)), rfl⟩, ?_⟩
          refine OpH.stW ty32 (.t rfl) (.t rfl) (.s (.s (.s (.s .z)))) ?_
          refine ⟨⟨([], fun k => List.getD [(true, .none_), (true, .none_), (true, .none_), _, _, (true, .none_), (true, .none_)] k (true, .none_)), rfl⟩, ?_⟩
          refine OpH.stW ty28 (.t rfl) (.t rfl) (.s (.s (.s .z))) ?_
          refine ⟨⟨([], fun k => List.getD [(true, .none_), (true, .none_), (true, .none_), _, _, (true, .none_), (true, .none_)] k (true, .none_)), rfl⟩, ?_⟩
          show wpB _ _ _ _ _ _ ((8, _) :: (57, _) :: (56, _) :: _) _
          refine .nil ?_
          refine .ret ?_
          refine ⟨_, .r3 rfl (.cell ty32 rfl (.s (.s (.s (.s .z))))) (.cell ty28 rfl (.s (.s (.s .z)))) (.tmp rfl), ?_⟩
          rw [algMac_new (a := a) (k := k) (m := m) (by omega) (entry_none hc24) (by omega), newTag_free hc37]; rfl
        · refine .skip ?_
          refine .seq ?_
          refine .drawCF [false, false, false, false, false, false] (by kernel_rfl) 13 [[], [], [(44, 1)], [(43, 0), (45, 2)], [], [], [], [(48, 5), (49, 6)], [], [(47, 4), (50, 7), (51, 8)], [(52, 9)], [(46, 3), (53, 10)], []] [0, 3, 11] rfl (by kernel_rfl) rfl (by kernel_rfl) (by decide) ?_
          refine .inl ?_
          refine ⟨_, fun H => OpP.fldW G_api_Algebra.l3 fd32_3 rfl (.t rfl) rfl, ?_⟩
          refine ⟨_, fun H => OpP.ldF (fun x => x.Macs) ty29 (.t rfl) (Hole.app (.s (.s (.s (.s (.s .z)))))) (fun _ => rfl) rfl, ?_⟩
          refine .inl ?_
          refine ⟨_, fun H => OpP.ldP ty28 (.t rfl) rfl, ?_⟩
          refine ⟨_, fun H => OpP.buildSliceF (α := UInt8) ty5 Tryd.underlying23 .nil rfl (by decide) rfl, ?_⟩
          refine ⟨_, fun H => OpP.move (.t rfl) rfl, ?_⟩
          refine ⟨_, fun H => OpP.appendC st23 (.inl ⟨_, Tryd.underlying23⟩) (.t rfl) (.v (.t rfl)) (by first | omega | (simp; done) | (simp; omega) | (simp at *; omega)) (by first | omega | (simp; done) | (simp; omega) | (simp at *; omega)) rfl, ?_⟩
          refine ⟨_, fun H => OpP.ldW ty28 (.t rfl) (Hole.app .z) rfl, ?_⟩
          refine ⟨_, fun H => OpP.bS3 G_api_Mac.l0 G_api_Mac.l1 G_api_Mac.l2 rfl ty53 fo53 (fun c0 c1 c2 => (⟨c0, c1, c2⟩ : G_api_Mac)) (fun _ _ _ => rfl) rfl rfl rfl rfl (.t rfl) (.t rfl) (.t rfl) rfl, ?_⟩
          refine ⟨_, fun H => OpP.buildSliceF (α := G_api_Mac) ty53 Tryd.underlying29 (.cons (.t rfl) .nil) rfl (by decide) rfl, ?_⟩
          refine .inl ?_
          refine ⟨_, fun H => OpP.fldW G_api_Algebra.l3 fd32_3 rfl (.t rfl) rfl, ?_⟩
          refine ⟨⟨([], fun k => List.getD [(true, .none_), (true, .none_), (true, .none_), (true, .none_), (true, .none_), (true, .none_)] k (true, .none_)), rfl⟩, ?_⟩
          refine OpH.buildSlice (α := G_api_Mac) ty53 Tryd.underlying29 .nil rfl (by decide) fun b43 => ?_
          refine ⟨⟨([_], fun k => List.getD [(true, .none_), (true, .none_), (true, .none_), (true, .none_), (true, .none_), (true, .none_)] k (true, .none_)), rfl⟩, ?_⟩
          refine OpH.append st29 (.inl ⟨_, Tryd.underlying29⟩) rfl .z (.v (.t rfl)) (by first | omega | (simp; done) | (simp; omega) | (simp at *; omega)) (by first | omega | (simp; done) | (simp; omega) | (simp at *; omega)) (fun w46 => ?_) rfl
          refine ⟨⟨([_], fun k => List.getD [(true, .none_), (true, .none_), (true, .none_), (true, .none_), (true, .none_), (true, .none_)] k (true, .none_)), rfl⟩, ?_⟩
          refine OpH.append st29 (.inl ⟨_, Tryd.underlying29⟩) rfl .z (.v (.c rfl)) (by first | omega | (simp; done) | (simp; omega) | (simp at *; omega)) (by first | omega | (simp; done) | (simp; omega) | (simp at *; omega)) (fun w54 => ?_) rfl
          refine ⟨⟨([_], fun k => List.getD [(true, .none_), (true, .none_), (true, .none_), (true, .none_), (true, .none_), (true, .none_)] k (true, .none_)), rfl⟩, ?_⟩
          show wpB _ _ _ _ _ _ ((55, _) :: (54, _) :: (53, _) :: (52, _) :: (51, _) :: (50, _) :: (49, _) :: (48, _) :: (47, _) :: (46, _) :: (45, _) :: (44, _) :: (43, _) :: _) _
          refine .frzOwn hC .z ?_
          refine .as 54 rfl .z ?_
          refine .n (.stF (fun y x => { x with Macs := y }) ty29 (.t rfl) (.t rfl) (.s (.s (.s (.s (.s (.s .z)))))) (fun _ _ => rfl) ?_)
          refine .nil ?_
          refine .seq ?_
          refine .drawCF [false, false, false, true, true, false, false] (by kernel_rfl) 5 [[], [], [(56, 0)], [(57, 1)], []] [2, 3] rfl (by kernel_rfl) rfl (by kernel_rfl) (by decide) ?_
          refine ⟨_, fun H => OpP.ldW ty32 (.t rfl) (Hole.app (.s (.s (.s (.s (.s (.s .z))))))) rfl, ?_⟩
          refine ⟨_, fun H => OpP.ldW ty28 (.t rfl) (Hole.app (.s .z)) rfl, ?_⟩
          refine .inl ?_
          refine .inl ?_
          refine ⟨_, fun H => OpP.assign (.i rfl) rfl, ?_⟩
          refine ⟨⟨([], fun k => List.getD [(true, .none_), (true, .none_), (true, .none_), _, _, (true, .none_), (true, .none_)] k (true, .none_)), rfl⟩, ?_⟩
          refine OpH.stW ty32 (.t rfl) (.t rfl) (.s (.s (.s (.s .z)))) ?_
          refine ⟨⟨([], fun k => List.getD [(true, .none_), (true, .none_), (true, .none_), _, _, (true, .none_), (true, .none_)] k (true, .none_)), rfl⟩, ?_⟩
          refine OpH.stW ty28 (.t rfl) (.t rfl) (.s (.s (.s .z))) ?_
          refine ⟨⟨([], fun k => List.getD [(true, .none_), (true, .none_), (true, .none_), _, _, (true, .none_), (true, .none_)] k (true, .none_)), rfl⟩, ?_⟩
          show wpB _ _ _ _ _ _ ((8, _) :: (57, _) :: (56, _) :: _) _
          refine .nil ?_
          refine .ret ?_
          refine ⟨_, .r3 rfl (.cell ty32 rfl (.s (.s (.s (.s .z))))) (.cell ty28 rfl (.s (.s (.s .z)))) (.tmp rfl), ?_⟩
          rw [algMac_new (a := a) (k := k) (m := m) (by omega) (entry_none hc24) (by omega), newTag_real hc37]; rfl
end Go.Proofs.YtdhfibhjfahdcaaDoor
