import Derived.Test.YtlohppddhbimnaaDoorAbK
import Derived.Test.YtlohppddhbimnaaDoorFlR
import Derived.DataReads
/- Arguments that come in, as typed values. -/
set_option linter.unusedVariables false
namespace Go.Ab
open Go.Fl Go.RowKit Go.ChangeShapes Go.WideShapes Go.ChangeAt
open Rep (rep)
/-- What comes in at a type stands as a value of the Lean type does. -/
def Opens (P : Program) (T : TypeId) (α : Type) [Rep α] : Prop := P.cellsOf T = Rep.size α ∧
  ∀ (H : Type) (enc : TypeId × Value → H) (W : World) (base : Nat) (spare : Nat → Bool) (held : Bool) (fuel : Nat) (cs : List Value) (x : DataW H × List MemPlace), DataW.trod enc P W base spare held fuel T cs = some x → ∃ a : α, rep (imOf W) a cs
variable {P : Program} {T E : TypeId}
theorem Opens.i64 (hT : P.underlying T = some (.int .i64)) (hc : P.cellsOf T = 1) : Opens P T Int := ⟨hc, fun H enc W base spare held fuel cs x h => by
  obtain ⟨n, rfl, _, hw⟩ := DataW.trod_int hT h
  simp [Lit.wf, IntKind.min, IntKind.max, IntKind.signed, IntKind.bits] at hw
  exact ⟨n, rfl, by omega, by omega⟩⟩
theorem Opens.u8 (hT : P.underlying T = some (.int .u8)) (hc : P.cellsOf T = 1) : Opens P T UInt8 := ⟨hc, fun H enc W base spare held fuel cs x h => by
  obtain ⟨n, rfl, _, hw⟩ := DataW.trod_int hT h
  simp [Lit.wf, IntKind.min, IntKind.max, IntKind.signed, IntKind.bits] at hw
  refine ⟨UInt8.ofNat n.toNat, ?_⟩
  show [Value.int .u8 n] = [Fl.u8 _]
  unfold Fl.u8
  congr 2; simp; omega⟩
theorem Opens.u16 (hT : P.underlying T = some (.int .u16)) (hc : P.cellsOf T = 1) : Opens P T UInt16 := ⟨hc, fun H enc W base spare held fuel cs x h => by
  obtain ⟨n, rfl, _, hw⟩ := DataW.trod_int hT h
  simp [Lit.wf, IntKind.min, IntKind.max, IntKind.signed, IntKind.bits] at hw
  refine ⟨UInt16.ofNat n.toNat, ?_⟩
  show [Value.int .u16 n] = [Ab.u16 _]
  unfold Ab.u16
  congr 2; simp; omega⟩
theorem Opens.u32 (hT : P.underlying T = some (.int .u32)) (hc : P.cellsOf T = 1) : Opens P T UInt32 := ⟨hc, fun H enc W base spare held fuel cs x h => by
  obtain ⟨n, rfl, _, hw⟩ := DataW.trod_int hT h
  simp [Lit.wf, IntKind.min, IntKind.max, IntKind.signed, IntKind.bits] at hw
  refine ⟨UInt32.ofNat n.toNat, ?_⟩
  show [Value.int .u32 n] = [Fl.u32 _]
  unfold Fl.u32
  congr 2; simp; omega⟩
theorem Opens.u64 (hT : P.underlying T = some (.int .u64)) (hc : P.cellsOf T = 1) : Opens P T UInt64 := ⟨hc, fun H enc W base spare held fuel cs x h => by
  obtain ⟨n, rfl, _, hw⟩ := DataW.trod_int hT h
  simp [Lit.wf, IntKind.min, IntKind.max, IntKind.signed, IntKind.bits] at hw
  refine ⟨UInt64.ofNat n.toNat, ?_⟩
  show [Value.int .u64 n] = [Fl.u64 _]
  unfold Fl.u64
  congr 2; simp; omega⟩
theorem Opens.bool (hT : P.underlying T = some .bool) (hc : P.cellsOf T = 1) : Opens P T Bool := ⟨hc, fun H enc W base spare held fuel cs x h => by
  obtain ⟨n, rfl, _⟩ := DataW.trod_bool hT h
  exact ⟨n, rfl⟩⟩
theorem Opens.str (hT : P.underlying T = some .string) (hc : P.cellsOf T = 1) : Opens P T Str := ⟨hc, fun H enc W base spare held fuel cs x h => by
  obtain ⟨s, rfl, _, hs⟩ := DataW.trod_string hT h
  refine ⟨⟨s.data.toList⟩, ⟨s, rfl, rfl⟩, ?_⟩
  show s.data.toList.length ≤ _
  have : s.data.toList.length = s.size := rfl
  unfold maxLen at hs
  omega⟩
theorem add_add (a : Addr) (i j : Nat) : (a.add i).add j = a.add (i + j) := by
  unfold Addr.add
  rcases a with ⟨b, o, _ | s⟩ <;> by_cases hi : i = 0 <;> by_cases hj : j = 0 <;> simp [hi, hj, Nat.add_assoc]
theorem Opens.slice {α : Type} {r : Rep α} (hT : P.underlying T = some (.slice E)) (hc : P.cellsOf T = 1) (hE : Opens P E α) (hp : 0 < Rep.size α) : Opens P T (List α) := ⟨hc, fun H enc W base spare held fuel cs x h => by
  rcases DataW.trod_slice hT h with ⟨rfl, _⟩ | ⟨a, len, cap, elems, rest, n, _, rfl, _, hb, hl, hm, hel, hget, _⟩
  · exact ⟨[], _, rfl, [], Sl.nil _ _, rfl⟩
  · have key : ∀ k, k ≤ len → ∃ (l : List α) (xs : List Value), l.length = k ∧ repL (imOf W) l xs ∧ ∀ i v, xs[i]? = some v → W.cell? (a.add i) = some v := by
      intro k
      induction k with
      | zero => exact fun _ => ⟨[], [], rfl, rfl, fun i v hv => by simp at hv⟩
      | succ k ih =>
        intro hk
        obtain ⟨l, xs, h1, h2, h3⟩ := ih (by omega)
        have hg := hget k (by omega)
        rw [List.getElem?_eq_getElem (by omega)] at hg
        obtain ⟨c, hc1, hc2⟩ := Option.bind_eq_some_iff.1 hg
        obtain ⟨_, hcl, hcell⟩ := World.cells?_some hc1
        obtain ⟨y, hy⟩ := hE.2 H enc W base spare held n c _ hc2
        refine ⟨l ++ [y], xs ++ c, by simp [h1], h2.append (.one hy), fun i v hv => ?_⟩
        have hxl : xs.length = k * Rep.size α := by rw [h2.len, h1]
        by_cases hi : i < xs.length
        · rw [List.getElem?_append_left hi] at hv; exact h3 i v hv
        · rw [List.getElem?_append_right (by omega)] at hv
          have hj := (List.getElem?_eq_some_iff.1 hv).1
          have := hcell (i - xs.length) (by omega)
          rw [hv, hE.1, add_add, ← hxl, show xs.length + (i - xs.length) = i by omega] at this
          exact this
    obtain ⟨l, xs, h1, h2, h3⟩ := key len (Nat.le_refl _)
    have hxl := h2.len
    refine ⟨l, _, rfl, xs, ⟨_, _, by rw [h1], h2.len, by omega, hm, (fun h => by cases h), fun hne => ?_⟩, h2⟩
    rcases a with ⟨ab, ao, as⟩
    obtain ⟨v0, hv0⟩ : ∃ v, xs[0]? = some v := ⟨_, List.getElem?_eq_getElem (List.length_pos_iff.2 hne)⟩
    have hc0 := h3 0 v0 hv0
    obtain ⟨hsp, cs, e, fr, hob, _⟩ := cell_plain hc0
    have hsp2 : as = none := by
      cases as with
      | none => rfl
      | some q =>
        unfold Addr.add at hsp
        simp at hsp
    subst hsp2
    rw [Addr.add_plain] at hob
    have hob : W.heap[ab]? = some (Obj.cells cs e fr) := hob
    refine ⟨ab, ao, rfl, cs, e, fr, hob, fun i v hv => ?_⟩
    have hcv := h3 i v hv
    rw [Addr.add_plain] at hcv
    obtain ⟨_, cs2, e2, fr2, hob2, hv2⟩ := cell_plain hcv
    have : Obj.cells cs e fr = Obj.cells cs2 e2 fr2 := Option.some.inj (hob.symm.trans hob2)
    cases this
    exact hv2⟩
theorem Opens.array {α : Type} {r : Rep α} {n : Nat} (hT : P.underlying T = some (.array n E)) (hc : P.cellsOf T = n * Rep.size α) (hE : Opens P E α) : Opens P T (Arr n α) := ⟨hc, fun H enc W base spare held fuel cs x h => by
  obtain ⟨xs, m, _, _, hlen, hxl, hel⟩ := DataW.trod_array hT h
  have key : ∀ k, k ≤ n → ∃ l : List α, l.length = k ∧ repL (imOf W) l (cs.take (k * Rep.size α)) := by
    intro k
    induction k with
    | zero => exact fun _ => ⟨[], rfl, by simp [repL]⟩
    | succ k ih =>
      intro hk
      obtain ⟨l, h1, h2⟩ := ih (by omega)
      have hg := hel k (by omega)
      rw [List.getElem?_eq_getElem (by omega), hE.1] at hg
      obtain ⟨y, hy⟩ := hE.2 H enc W base spare held m _ _ hg
      refine ⟨l ++ [y], by simp [h1], ?_⟩
      have e : cs.take ((k + 1) * Rep.size α) = cs.take (k * Rep.size α) ++ (cs.drop (k * Rep.size α)).take (Rep.size α) := by
        rw [Nat.succ_mul, List.take_add]
      rw [e]
      exact h2.append (.one hy)
  obtain ⟨l, h1, h2⟩ := key n (Nat.le_refl _)
  refine ⟨⟨l, h1⟩, ?_⟩
  show repL (imOf W) l cs
  rwa [List.take_of_length_le (by rw [hlen, hc]; exact Nat.le_refl _)] at h2⟩
/-- The fields of a structure, from an offset on. -/
inductive OpensF (P : Program) : List Field → Nat → (β : Type) → Rep β → Prop
  | nil {off : Nat} : OpensF P [] off Unit inferInstance
  | cons {f : Field} {fs : List Field} {off : Nat} {α β : Type} {r : Rep α} {s : Rep β} (h1 : f.offset = off) (h2 : Opens P f.type α) (t : OpensF P fs (off + Rep.size α) β s) : OpensF P (f :: fs) off (α × β) inferInstance
theorem OpensF.run {fs : List Field} {off : Nat} {β : Type} {s : Rep β} (h : OpensF P fs off β s) {H : Type} {enc : TypeId × Value → H} {W : World} {base : Nat} {spare : Nat → Bool} {held : Bool} {n : Nat} {cs : List Value} (hl : cs.length = off + Rep.size β)
    (hg : ∀ (i : Nat) (f : Field), fs[i]? = some f → ∃ x, DataW.trod enc P W base spare held n f.type ((cs.drop f.offset).take (P.cellsOf f.type)) = some x) : ∃ b : β, rep (imOf W) b (cs.drop off) := by
  induction h with
  | nil => exact ⟨(), List.drop_eq_nil_of_le (by rw [hl]; exact Nat.le_refl _)⟩
  | @cons f fs off α β r s h1 h2 t ih =>
    obtain ⟨x, hx⟩ := hg 0 f rfl
    rw [h1, h2.1] at hx
    obtain ⟨y, hy⟩ := h2.2 H enc W base spare held n _ _ hx
    obtain ⟨b, hb⟩ := ih (by rw [hl]; show off + (Rep.size α + Rep.size β) = _; omega) (fun i f' hf => hg (i + 1) f' (by simpa using hf))
    refine ⟨(y, b), _, _, ?_, hy, hb⟩
    rw [← List.drop_drop, List.take_append_drop]
theorem Opens.struct {S β : Type} [s : Rep β] {fs : Array Field} (f : S → β) (g : β → S) (hfg : ∀ b, f (g b) = b) (hT : P.underlying T = some (.struct fs)) (hc : P.cellsOf T = Rep.size β) (h : OpensF P fs.toList 0 β s) : @Opens P T S (Rep.via f) :=
  letI : Rep S := Rep.via f
  ⟨hc, fun H enc W base spare held fuel cs x hx => by
    obtain ⟨xs, n, _, _, hlen, hxl, hel⟩ := DataW.trod_struct hT hx
    obtain ⟨b, hb⟩ := h.run (W := W) (enc := enc) (base := base) (spare := spare) (held := held) (n := n) (cs := cs) (by rw [hlen, hc]; omega) (fun i f hf => by
      have hf' : fs[i]? = some f := by simpa using hf
      have := hel i f hf'
      have hi := (Array.getElem?_eq_some_iff.1 hf').1
      exact ⟨_, this.trans (List.getElem?_eq_getElem (by omega))⟩)
    exact ⟨g b, by show rep (imOf W) (f (g b)) cs; rw [hfg]; simpa using hb⟩⟩
/-- A value that comes in. -/
theorem Opens.val {α : Type} {r : Rep α} (h : Opens P T α) {H : Type} {enc : TypeId × Value → H} {W : World} {base : Nat} {spare : Nat → Bool} {held : Bool} {v : Value} {d : DataW H} {p : List MemPlace} (ht : DataW.Trod enc P W base spare held T v d p)
    (hv : ∀ cs : List Value, v.cells.toList = cs → v = asV (Rep.agg α) cs) : ∃ a : α, RepV (imOf W) (.v a) v := by
  obtain ⟨fuel, hf⟩ := ht
  obtain ⟨a, ha⟩ := h.2 H enc W base spare held fuel _ _ hf
  exact ⟨a, _, ha, hv _ rfl⟩
theorem FunA.calls {G : Gl} {f : FuncId} {as : List AV} {vs : List Value} {W : World} (h : FunA G P f as (fun r => r = .v true)) (hG : G.p (imOf W)) (hv : RepVs (imOf W) as vs) :
    Calls P f vs.toArray W (fun e W' => e = .returned (.bool true) ∧ Below W.heap.size W W') :=
  Fun.calls ((h (imOf W) vs hG hv).mono fun v J _ ⟨r, h1, h2⟩ => by
    subst h2
    obtain ⟨cs, rfl, rfl⟩ := h1
    rfl)
theorem okWide_agg {dd : TypeDesc} (hT : P.underlying T = some dd) (hr : isRow dd = true) {W : World} {r : Reach} {base : Nat} {v : Value} (h : Value.okWide P W r base T v) : ∃ cs, v = .agg cs := by
  unfold Value.okWide at h
  rw [hT] at h
  cases dd <;> first | (simp [isRow] at hr; done) | (obtain ⟨cs, h1, _⟩ := h; exact ⟨cs, h1⟩)
theorem form_one {v : Value} (h : v.cells = #[v]) : ∀ cs : List Value, v.cells.toList = cs → v = asV false cs := fun cs hc => by
  rw [h] at hc; subst hc; rfl
theorem form_agg {xs : Array Value} : ∀ cs : List Value, (Value.agg xs).cells.toList = cs → Value.agg xs = asV true cs := fun cs hc => by
  subst hc; simp [asV, Value.cells]
end Go.Ab
