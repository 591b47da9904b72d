/- Walks over typed values: a slot or a chunk of own memory is known by a plain Lean value that it holds. Plain Lean over any program; built on the frames by facts. -/
import Derived.Test.YtiekhjbhlekaeaaDoorFl
import Derived.Laws.CopyRow
import Derived.Laws.IdiomStrings
set_option linter.unusedVariables false
namespace Go.Ab
open Go.Fl Go.RowKit

/-- How the values of a Lean type stand in cells. -/
class Rep (α : Type) where
  size : Nat
  agg : Bool
  rep : Im → α → List Value → Prop
  len : ∀ {I x cs}, rep I x cs → cs.length = size
  mono : ∀ {I J x cs}, Le I J → rep I x cs → rep J x cs
  one : agg = false → size = 1
  flat : ∀ {I x cs}, rep I x cs → ones cs = true
open Rep (rep)

def asV (ag : Bool) (cs : List Value) : Value := if ag then .agg cs.toArray else cs.headD undef

/-- The values of a list stand in cells one behind the other. -/
def repL {α : Type} [Rep α] (I : Im) : List α → List Value → Prop
  | [], cs => cs = []
  | x :: l, cs => ∃ c r, cs = c ++ r ∧ rep I x c ∧ repL I l r
theorem repL.mono {α : Type} [Rep α] {I J : Im} (hle : Le I J) : ∀ {l : List α} {cs : List Value}, repL I l cs → repL J l cs
  | [], _, h => h
  | x :: l, _, h => by obtain ⟨c, r, h1, h2, h3⟩ := h; exact ⟨c, r, h1, Rep.mono hle h2, repL.mono hle h3⟩
theorem repL.len {α : Type} [Rep α] {I : Im} : ∀ {l : List α} {cs : List Value}, repL I l cs → cs.length = l.length * Rep.size α
  | [], _, h => by simp [repL] at h; simp [h]
  | x :: l, _, h => by
    obtain ⟨c, r, rfl, h2, h3⟩ := h
    simp [Rep.len h2, h3.len, Nat.succ_mul, Nat.add_comm]
theorem ones_append {xs ys : List Value} (h : ones xs = true) (k : ones ys = true) : ones (xs ++ ys) = true := by
  simp only [ones, List.all_append, Bool.and_eq_true] at *; exact ⟨h, k⟩
theorem ones_left {xs ys : List Value} (h : ones (xs ++ ys) = true) : ones xs = true ∧ ones ys = true := by
  simpa only [ones, List.all_append, Bool.and_eq_true] using h
theorem repL.flat {α : Type} [Rep α] {I : Im} : ∀ {l : List α} {cs : List Value}, repL I l cs → ones cs = true
  | [], _, h => by simp [repL] at h; simp [h, ones]
  | x :: l, _, h => by
    obtain ⟨c, r, rfl, h2, h3⟩ := h
    exact ones_append (Rep.flat h2) h3.flat
theorem repL.append {α : Type} [Rep α] {I : Im} : ∀ {l m : List α} {cs ds : List Value}, repL I l cs → repL I m ds → repL I (l ++ m) (cs ++ ds)
  | [], _, _, _, h, k => by simp [repL] at h; simpa [h] using k
  | x :: l, _, _, _, h, k => by
    obtain ⟨c, r, rfl, h2, h3⟩ := h
    exact ⟨c, r ++ _, by simp, h2, h3.append k⟩
theorem repL.one {α : Type} [Rep α] {I : Im} {x : α} {c : List Value} (h : rep I x c) : repL I [x] c := ⟨c, [], by simp, h, rfl⟩
theorem repL.split {α : Type} [Rep α] {I : Im} : ∀ {l m : List α} {cs : List Value}, repL I (l ++ m) cs → repL I l (cs.take (l.length * Rep.size α)) ∧ repL I m (cs.drop (l.length * Rep.size α))
  | [], _, _, h => by simp [repL]; simpa using h
  | x :: l, m, _, h => by
    obtain ⟨c, r, rfl, h2, h3⟩ := h
    have hl := Rep.len h2
    obtain ⟨h4, h5⟩ := h3.split
    have e : (x :: l).length * Rep.size α = c.length + l.length * Rep.size α := by simp [hl, Nat.succ_mul, Nat.add_comm]
    rw [e, List.take_length_add_append, List.drop_length_add_append]
    exact ⟨⟨c, _, rfl, h2, h4⟩, h5⟩
theorem repL.get {α : Type} [Rep α] {I : Im} {l : List α} {cs : List Value} (h : repL I l cs) (k : Nat) (hk : k < l.length) : rep I l[k] (segGet cs (k * Rep.size α) (Rep.size α)) := by
  have e : l = l.take k ++ (l[k] :: l.drop (k + 1)) := by simp
  rw [e] at h
  obtain ⟨_, h2⟩ := h.split
  obtain ⟨c, r, h3, h4, h5⟩ := h2
  have hl : (l.take k).length = k := by simp; omega
  rw [hl] at h3
  have : segGet cs (k * Rep.size α) (Rep.size α) = c := by rw [segGet, h3, ← Rep.len h4]; simp
  rw [this]; exact h4
theorem repL.set {α : Type} [Rep α] {I : Im} {l : List α} {cs vs : List Value} {y : α} (h : repL I l cs) (k : Nat) (hk : k < l.length) (hy : rep I y vs) : repL I (l.set k y) (segSet cs (k * Rep.size α) vs) := by
  have e : l = l.take k ++ (l[k] :: l.drop (k + 1)) := by simp
  have e2 : l.set k y = l.take k ++ (y :: l.drop (k + 1)) := List.set_eq_take_append_cons_drop .. |>.trans (by simp [hk])
  rw [e] at h
  obtain ⟨h1, h2⟩ := h.split
  obtain ⟨c, r, h3, h4, h5⟩ := h2
  have hl : (l.take k).length = k := by simp; omega
  rw [hl] at h1 h3
  rw [e2, segSet]
  have hd : cs.drop (k * Rep.size α + vs.length) = r := by
    rw [← List.drop_drop, h3, Rep.len hy, ← Rep.len h4]; simp
  rw [hd, List.append_assoc]
  exact h1.append ⟨vs, r, rfl, hy, h5⟩

/-- An array of n values. -/
structure Arr (n : Nat) (α : Type) where
  l : List α
  h : l.length = n
instance {n : Nat} {α : Type} [DecidableEq α] : DecidableEq (Arr n α) := fun a b =>
  if h : a.l = b.l then isTrue (by cases a; cases b; cases h; rfl) else isFalse (fun e => h (by rw [e]))
@[simp] theorem Arr.len {n : Nat} {α : Type} (a : Arr n α) : a.l.length = n := a.h
theorem Arr.ext {n : Nat} {α : Type} {a b : Arr n α} (h : a.l = b.l) : a = b := by cases a; cases b; cases h; rfl
instance {n : Nat} {α : Type} [Inhabited α] : Inhabited (Arr n α) := ⟨⟨List.replicate n default, by simp⟩⟩
instance {n : Nat} {α : Type} [Rep α] : Rep (Arr n α) where
  size := n * Rep.size α
  agg := true
  rep I x cs := repL I x.l cs
  len {_ x _} h := by rw [h.len, x.h]
  mono hle h := h.mono hle
  one h := by cases h
  flat h := h.flat
/-- A part of a value: where it stands, how it is read and written. -/
structure Lens (α β : Type) [Rep α] [Rep β] where
  off : Nat
  get : α → β
  set : β → α → α
  fits : off + Rep.size β ≤ Rep.size α
  gets : ∀ {I x cs}, rep I x cs → rep I (get x) (segGet cs off (Rep.size β))
  sets : ∀ {I x cs y vs}, rep I x cs → rep I y vs → rep I (set y x) (segSet cs off vs)

/-- What a slice that does not turn holds. -/
def SlA {α : Type} [Rep α] (I : Im) (v : Value) (l : List α) : Prop := ∃ xs, Sl I (Rep.size α) v l.length xs ∧ repL I l xs
inductive AV : Type 1 where
  | v {α : Type} [r : Rep α] (x : α)
  | p {α : Type} [r : Rep α] (x : α)
  | raw (u : Value)
  | vc {α : Type} [r : Rep α] (l : List α)
  | ln {α β : Type} [r : Rep α] [s : Rep β] (w : Value) (l : Lens α β)
  | el {α β : Type} [r : Rep α] [s : Rep β] (w : Value) (k : Nat) (l : Lens α β)
  | sv {α β : Type} {n : Nat} [r : Rep α] [s : Rep β] (w : Value) (l : Lens α (Arr n β))
  | t2 (a b : AV)
  | t3 (a b c : AV)
  | t4 (a b c d : AV)
  | opt (c : Bool) (a : AV)
  | pr (p : Im → Value → Prop) (m : ∀ {I J : Im} {u : Value}, Le I J → p I u → p J u)
  | any
def baseOf : Value → Option Nat
  | .pointer (some ⟨b, 0, none⟩) => some b
  | .slice (some ⟨b, 0, none⟩) _ _ => some b
  | _ => none
def RepV (I : Im) : AV → Value → Prop
  | @AV.v α r x, u => ∃ cs, @Rep.rep α r I x cs ∧ u = asV (@Rep.agg α r) cs
  | @AV.p α r x, u => ∃ b o cs, u = ptr b o ∧ @Rep.rep α r I x cs ∧ Cells I b o cs
  | .raw w, u => u = w
  | @AV.vc α r l, u => (∃ a, u = .slice a l.length l.length) ∧ @SlA α r I u l
  | @AV.ln α β r s w l, u => ∃ b, baseOf w = some b ∧ u = ptr b (@Lens.off α β r s l)
  | @AV.el α β r s w k l, u => ∃ b, baseOf w = some b ∧ u = ptr b (k * @Rep.size α r + @Lens.off α β r s l)
  | @AV.sv α β n r s w l, u => ∃ b, baseOf w = some b ∧ u = slc b (@Lens.off α (Arr n β) r _ l) n n
  | .t2 a b, u => ∃ x y, u = .tuple #[x, y] ∧ RepV I a x ∧ RepV I b y
  | .t3 a b c, u => ∃ x y z, u = .tuple #[x, y, z] ∧ RepV I a x ∧ RepV I b y ∧ RepV I c z
  | .t4 a b c d, u => ∃ x y z t, u = .tuple #[x, y, z, t] ∧ RepV I a x ∧ RepV I b y ∧ RepV I c z ∧ RepV I d t
  | .opt c a, u => c = true → RepV I a u
  | .pr p _, u => p I u
  | .any, _ => True
theorem RepV.mono {I J : Im} (hle : Le I J) : ∀ {a : AV} {u : Value}, RepV I a u → RepV J a u
  | @AV.v α r x, _, h => by obtain ⟨cs, h1, h2⟩ := h; exact ⟨cs, @Rep.mono α r _ _ _ _ hle h1, h2⟩
  | @AV.p α r x, _, h => by obtain ⟨b, o, cs, h1, h2, h3⟩ := h; exact ⟨b, o, cs, h1, @Rep.mono α r _ _ _ _ hle h2, h3.mono hle⟩
  | .raw w, _, h => h
  | @AV.vc α r l, _, h => ⟨h.1, by obtain ⟨_, xs, h1, h2⟩ := h; exact ⟨xs, h1.mono hle, h2.mono hle⟩⟩
  | @AV.ln α β r s w l, _, h => h
  | @AV.el α β r s w k l, _, h => h
  | @AV.sv α β n r s w l, _, h => h
  | .t2 a b, _, h => by obtain ⟨x, y, h1, h2, h3⟩ := h; exact ⟨x, y, h1, h2.mono hle, h3.mono hle⟩
  | .t3 a b c, _, h => by obtain ⟨x, y, z, h1, h2, h3, h4⟩ := h; exact ⟨x, y, z, h1, h2.mono hle, h3.mono hle, h4.mono hle⟩
  | .t4 a b c d, _, h => by obtain ⟨x, y, z, t, h1, h2, h3, h4, h5⟩ := h; exact ⟨x, y, z, t, h1, h2.mono hle, h3.mono hle, h4.mono hle, h5.mono hle⟩
  | .opt c a, _, h => fun hc => (h hc).mono hle
  | .pr _ m, _, h => m hle h
  | .any, _, h => h

/-! ### Instances -/
instance : Rep Int where
  size := 1
  agg := false
  rep _ x cs := cs = [i64 x] ∧ -9223372036854775808 ≤ x ∧ x ≤ 9223372036854775807
  len h := by simp [h.1]
  mono _ h := h
  one _ := rfl
  flat h := by simp [h.1, ones, Value.oneCell']
instance : Rep UInt8 where
  size := 1
  agg := false
  rep _ x cs := cs = [u8 x]
  len h := by simp [h]
  mono _ h := h
  one _ := rfl
  flat h := by simp [h, ones, u8, Value.oneCell']
def u16 (x : UInt16) : Value := .int .u16 (x.toNat : Int)
instance : Rep UInt16 where
  size := 1
  agg := false
  rep _ x cs := cs = [u16 x]
  len h := by simp [h]
  mono _ h := h
  one _ := rfl
  flat h := by simp [h, ones, u16, Value.oneCell']
instance : Rep UInt32 where
  size := 1
  agg := false
  rep _ x cs := cs = [u32 x]
  len h := by simp [h]
  mono _ h := h
  one _ := rfl
  flat h := by simp [h, ones, u32, Value.oneCell']
instance : Rep UInt64 where
  size := 1
  agg := false
  rep _ x cs := cs = [u64 x]
  len h := by simp [h]
  mono _ h := h
  one _ := rfl
  flat h := by simp [h, ones, u64, Value.oneCell']
instance : Rep Bool where
  size := 1
  agg := false
  rep _ x cs := cs = [.bool x]
  len h := by simp [h]
  mono _ h := h
  one _ := rfl
  flat h := by simp [h, ones, Value.oneCell']
/-- A string. -/
structure Str where
  l : List UInt8
instance : Inhabited Str := ⟨⟨[]⟩⟩
instance : DecidableEq Str := fun a b => if h : a.l = b.l then isTrue (by cases a; cases b; cases h; rfl) else isFalse (fun e => h (by rw [e]))
instance : Rep Str where
  size := 1
  agg := false
  rep _ x cs := (∃ b : ByteArray, cs = [.string b] ∧ b.data.toList = x.l) ∧ x.l.length ≤ 9223372036854775807
  len h := by obtain ⟨⟨b, h, _⟩, _⟩ := h; simp [h]
  mono _ h := h
  one _ := rfl
  flat h := by obtain ⟨⟨b, h, _⟩, _⟩ := h; simp [h, ones, Value.oneCell']
instance {α : Type} [Rep α] : Rep (List α) where
  size := 1
  agg := false
  rep I x cs := ∃ v, cs = [v] ∧ SlA I v x
  len h := by obtain ⟨v, h, _⟩ := h; simp [h]
  mono hle h := by obtain ⟨v, h, xs, h1, h2⟩ := h; exact ⟨v, h, xs, h1.mono hle, h2.mono hle⟩
  one _ := rfl
  flat h := by
    obtain ⟨v, h, xs, h1, _⟩ := h
    obtain ⟨a, c, rfl, _⟩ := h1
    simp [h, ones, Value.oneCell']
instance : Rep Unit where
  size := 0
  agg := true
  rep _ _ cs := cs = []
  len h := by simp [h]
  mono _ h := h
  one h := by cases h
  flat h := by simp [h, ones]
instance {α β : Type} [Rep α] [Rep β] : Rep (α × β) where
  size := Rep.size α + Rep.size β
  agg := true
  rep I x cs := ∃ c r, cs = c ++ r ∧ rep I x.1 c ∧ rep I x.2 r
  len h := by obtain ⟨c, r, rfl, h1, h2⟩ := h; simp [Rep.len h1, Rep.len h2]
  mono hle h := by obtain ⟨c, r, e, h1, h2⟩ := h; exact ⟨c, r, e, Rep.mono hle h1, Rep.mono hle h2⟩
  one h := by cases h
  flat h := by obtain ⟨c, r, rfl, h1, h2⟩ := h; exact ones_append (Rep.flat h1) (Rep.flat h2)
/-- A structure stands as the tuple of its fields does. -/
@[reducible] def Rep.via {S T : Type} [Rep T] (f : S → T) : Rep S where
  size := Rep.size T
  agg := true
  rep I x cs := Rep.rep I (f x) cs
  len h := Rep.len h
  mono hle h := Rep.mono hle h
  one h := by cases h
  flat h := Rep.flat h

/-! ### Lenses -/
theorem segGet_self {cs : List Value} {n : Nat} (h : cs.length = n) : segGet cs 0 n = cs := by subst h; exact segGet_all cs
def Lens.id {α : Type} [Rep α] : Lens α α where
  off := 0
  get x := x
  set y _ := y
  fits := by simp
  gets h := by rw [segGet_self (Rep.len h)]; exact h
  sets h k := by rw [segSet_all _ _ (by rw [Rep.len h, Rep.len k])]; exact k
def Lens.fst {α β : Type} [Rep α] [Rep β] : Lens (α × β) α where
  off := 0
  get x := x.1
  set y x := (y, x.2)
  fits := by simp [Rep.size]
  gets h := by
    obtain ⟨c, r, rfl, h1, h2⟩ := h
    have : segGet (c ++ r) 0 (Rep.size α) = c := by rw [segGet, ← Rep.len h1]; simp
    rw [this]; exact h1
  sets h k := by
    obtain ⟨c, r, rfl, h1, h2⟩ := h
    refine ⟨_, r, ?_, k, h2⟩
    rw [segSet, Nat.zero_add, Rep.len k, ← Rep.len h1]; simp
def Lens.snd {α β : Type} [Rep α] [Rep β] : Lens (α × β) β where
  off := Rep.size α
  get x := x.2
  set y x := (x.1, y)
  fits := by simp [Rep.size]
  gets h := by
    obtain ⟨c, r, rfl, h1, h2⟩ := h
    have : segGet (c ++ r) (Rep.size α) (Rep.size β) = r := by rw [segGet, ← Rep.len h1, ← Rep.len h2]; simp
    rw [this]; exact h2
  sets h k := by
    obtain ⟨c, r, rfl, h1, h2⟩ := h
    refine ⟨c, _, ?_, h1, k⟩
    rw [segSet, Rep.len k, ← Rep.len h1, ← Rep.len h2]
    simp
theorem segGet_segGet {cs : List Value} {o n p m : Nat} (h : p + m ≤ n) : segGet (segGet cs o n) p m = segGet cs (o + p) m := by
  simp only [segGet, List.drop_take, List.take_take, List.drop_drop]
  congr 1; omega
theorem segSet_segSet {cs vs : List Value} {o n p : Nat} (h : p + vs.length ≤ n) (hn : o + n ≤ cs.length) : segSet cs o (segSet (segGet cs o n) p vs) = segSet cs (o + p) vs := by
  have hl : (segGet cs o n).length = n := by simp [segGet]; omega
  have hll : (segSet (segGet cs o n) p vs).length = n := by rw [segSet_length _ _ _ (by omega), hl]
  apply List.ext_getElem?
  intro i
  rw [segSet_get (cs := cs) (o := o) (by omega), segSet_get (cs := cs) (o := o + p) (by omega), hll]
  by_cases h1 : i < o
  · rw [if_pos h1, if_pos (by omega)]
  · rw [if_neg h1]
    by_cases h2 : i < o + n
    · rw [if_pos h2, segSet_get (by omega)]
      have hg : ∀ j, j < n → (segGet cs o n)[j]? = cs[o + j]? := fun j hj => by simp [segGet, hj]
      by_cases h3 : i - o < p
      · rw [if_pos h3, if_pos (by omega), hg _ (by omega)]; congr 1; omega
      · rw [if_neg h3, if_neg (show ¬ i < o + p by omega)]
        by_cases h4 : i - o < p + vs.length
        · rw [if_pos h4, if_pos (by omega)]; congr 1; omega
        · rw [if_neg h4, if_neg (by omega), hg _ (by omega)]; congr 1; omega
    · rw [if_neg h2, if_neg (by omega), if_neg (by omega)]
def Lens.comp {α β γ : Type} [Rep α] [Rep β] [Rep γ] (l : Lens α β) (m : Lens β γ) : Lens α γ where
  off := l.off + m.off
  get x := m.get (l.get x)
  set y x := l.set (m.set y (l.get x)) x
  fits := by have := l.fits; have := m.fits; omega
  gets h := by
    have := m.gets (l.gets h)
    rwa [segGet_segGet m.fits] at this
  sets h k := by
    have h1 := l.gets h
    have h2 := l.sets h (m.sets h1 k)
    have hf := l.fits
    have hm := m.fits
    rw [segSet_segSet (by rw [Rep.len k]; exact m.fits) (by rw [Rep.len h]; exact hf)] at h2
    exact h2
def Lens.idx {n : Nat} {α : Type} [Rep α] (k : Nat) (hk : k < n) : Lens (Arr n α) α where
  off := k * Rep.size α
  get x := x.l[k]'(by rw [x.h]; exact hk)
  set y x := ⟨x.l.set k y, by simp [x.h]⟩
  fits := by
    have := Nat.mul_le_mul_right (Rep.size α) (Nat.succ_le_of_lt hk)
    simp only [Rep.size, Nat.succ_mul] at *; exact this
  gets {_ x _} h := repL.get h k (by rw [x.h]; exact hk)
  sets {_ x _ _ _} h y := repL.set h k (by rw [x.h]; exact hk) y
/-- A field of a structure, given as a field of the tuple of its fields. -/
def Lens.via {S T β : Type} [r : Rep T] [Rep β] (f : S → T) (m : Lens T β) (get : S → β) (set : β → S → S) (hg : ∀ x, get x = m.get (f x)) (hs : ∀ y x, f (set y x) = m.set y (f x)) : @Lens S β (Rep.via f) _ :=
  letI : Rep S := Rep.via f
  { off := m.off, get := get, set := set, fits := m.fits, gets := fun {_ x _} h => by rw [hg]; exact m.gets h, sets := fun {_ x _ y _} h k => by
      have := m.sets h k
      rw [← hs] at this; exact this }
end Go.Ab
/- Growing slices of the call's own whose row may bear the mark of a converted string. -/
set_option linter.unusedVariables false
namespace Go.Ab
open Go.Fl Go.RowKit
open Rep (rep)
def OwnG (e : TypeId) (s : Nat) (v : Value) (n : Nat) (xs : List Value) (X : List (Nat × Obj)) : Prop :=
  (v = .slice none 0 0 ∧ n = 0 ∧ xs = [] ∧ X = []) ∨
  ∃ b c sp q, v = slc b 0 n c ∧ X = [(b, .cells (xs ++ sp).toArray e q)] ∧ xs.length = n * s ∧ (xs ++ sp).length = c * s ∧ n ≤ c ∧ c ≤ maxLen ∧ (q = (0, 0) ∨ q = ((xs ++ sp).length, (xs ++ sp).length + 1))
theorem OwnG.nil (e : TypeId) (s : Nat) : OwnG e s (.slice none 0 0) 0 [] [] := .inl ⟨rfl, rfl, rfl, rfl⟩
theorem OwnG.of {e : TypeId} {s n : Nat} {v : Value} {xs : List Value} {X : List (Nat × Obj)} (h : Own e s v n xs X) : OwnG e s v n xs X := by
  rcases h with h | ⟨b, c, sp, h1, h2, h3, h4, h5, h6⟩
  · exact .inl h
  · exact .inr ⟨b, c, sp, (0, 0), h1, h2, h3, h4, h5, h6, .inl rfl⟩
theorem OwnG.shape {e : TypeId} {s n : Nat} {v : Value} {xs : List Value} {X : List (Nat × Obj)} (h : OwnG e s v n xs X) : ∃ a c, v = .slice a n c := by
  rcases h with ⟨rfl, rfl, _⟩ | ⟨b, c, sp, q, rfl, _⟩
  · exact ⟨_, _, rfl⟩
  · exact ⟨_, _, rfl⟩
theorem OwnG.len {e : TypeId} {s n : Nat} {v : Value} {xs : List Value} {X : List (Nat × Obj)} (h : OwnG e s v n xs X) : xs.length = n * s := by
  rcases h with ⟨_, rfl, rfl, _⟩ | ⟨b, c, sp, q, _, _, h, _⟩
  · simp
  · exact h
theorem OwnG.le {e : TypeId} {s n : Nat} {v : Value} {xs : List Value} {X : List (Nat × Obj)} (h : OwnG e s v n xs X) : n ≤ 9223372036854775807 := by
  rcases h with ⟨_, rfl, rfl, _⟩ | ⟨b, c, sp, q, _, _, _, _, h1, h2, _⟩
  · simp
  · unfold maxLen at h2; omega
theorem OwnG.sl {e : TypeId} {s n : Nat} {v : Value} {xs : List Value} {X : List (Nat × Obj)} (h : OwnG e s v n xs X) {J : Im} (hJ : ∀ p ∈ X, J p.1 = some p.2) : Sl J s v n xs := by
  rcases h with ⟨rfl, rfl, rfl, rfl⟩ | ⟨b, c, sp, q, rfl, rfl, h3, h4, h5, h6, _⟩
  · exact Sl.nil J s
  · refine Sl.of_cells ⟨_, _, _, hJ _ (List.mem_singleton.2 rfl), fun i v hv => ?_⟩ h3 h5 h6
    have hi := (List.getElem?_eq_some_iff.1 hv).1
    simp only [Nat.zero_add, List.getElem?_toArray]
    rw [List.getElem?_append_left hi]; exact hv
/-- Stores into a row none of whose cells is barred. -/
theorem run_storeCells_fr (P : Program) (g o : Nat) (t : TypeId) (q : Nat × Nat) : ∀ (vs : List Value) (i : Nat) (cur : Array Value) (w : World), w.heap[g]? = some (.cells cur t q) → o + i + vs.length ≤ cur.size → (∀ v ∈ vs, v.oneCell' = true) →
    (∀ j, j < cur.size → ¬ (q.1 ≤ j ∧ j < q.2)) → (storeCells ⟨g, o, none⟩ vs i).run P w = .ok () (w.setRow g (cur.toList.take (o + i) ++ vs ++ cur.toList.drop (o + i + vs.length)).toArray)
  | [], i, cur, w, hg, _, _, _ => by
    simp only [storeCells, List.append_nil, List.length_nil, Nat.add_zero, List.take_append_drop, Array.toArray_toList]
    rw [setRow_self w g cur t q hg]
    rfl
  | v :: rest, i, cur, w, hg, hl, h1, hq => by
    have hi : o + i < cur.size := by simp at hl; omega
    have hadd : (⟨g, o, none⟩ : Addr).add i = ⟨g, o + i, none⟩ := by unfold Addr.add; split <;> simp_all
    have hcell : w.cell? ⟨g, o + i, none⟩ = some cur[o + i] := by simp [World.cell?, hg, hi]
    have hfro : w.frozen? ⟨g, o + i, none⟩ = false := by
      have := hq (o + i) hi
      simp only [World.frozen?, hg]
      simp only [Bool.and_eq_false_iff, decide_eq_false_iff_not]
      omega
    have hst : (store ((⟨g, o, none⟩ : Addr).add i) v).run P w = .ok () (w.setRow g (cur.setIfInBounds (o + i) v)) := by
      rw [hadd, run_store P w _ v _ (h1 v (by simp)), hcell]
      simp [hfro, setCell_eq_setRow w g (o + i) cur t q v hg]
    have ih := run_storeCells_fr P g o t q rest (i + 1) (cur.setIfInBounds (o + i) v) (w.setRow g (cur.setIfInBounds (o + i) v)) (setRow_heap w g cur _ t _ hg) (by simp at hl ⊢; omega) (fun x hx => h1 x (by simp [hx])) (by simpa using hq)
    simp only [storeCells, Sem.run_bind, hst, Result.andThen_ok, ih, setRow_setRow]
    congr 3
    have e := list_seg_step cur.toList (o + i) v rest (by simp at hl ⊢; omega)
    simpa [Array.toList_setIfInBounds, Nat.add_assoc] using e
theorem setRowG {C : Ctx} {I : Im} {L : Lh} {w : World} (hs : St C I L w) {i b : Nat} {cs : List Value} {e : TypeId} {q : Nat × Nat} (hL : L[i]? = some [(b, .cells cs.toArray e q)]) (cs' : List Value) : St C I (L.set i [(b, .cells cs'.toArray e q)]) (w.setRow b cs'.toArray) := by
  have hb := hs.mem.loc (b, .cells cs.toArray e q) (mem_chunk hL (by simp))
  exact hs.write hL (setRow_heap w b _ _ e q hb) (fun k hk => setRow_other w b k _ hk) (by simp) rfl rfl rfl
section
variable {P : Program} {C : Ctx} {N : Nat} {ρ : Env} {I : Im} {L : Lh} {K : Value → Im → Lh → Prop} {d : Option Nat} {ty : TypeId} {ps : String} {af : Array Edge} {g : Option (Nat × Bool)}
variable {x y z : Operand} {T T2 E : TypeId}
theorem chunk_cellG {w : World} (hm : Mem I L w) {i b : Nat} {cs : List Value} {e : TypeId} {q : Nat × Nat} (hL : L[i]? = some [(b, .cells cs.toArray e q)]) (o : Nat) : w.cell? ⟨b, o, none⟩ = cs[o]? := by
  have := hm.loc (b, .cells cs.toArray e q) (mem_chunk hL (by simp))
  rw [cell_of this]
  simp
theorem Src.ownG {s m : Nat} {v : Value} {news : List Value} {X : List (Nat × Obj)} {e : TypeId} (i : Nat) (hL : L[i]? = some X) (h : OwnG e s v m news X) : Src P I L s v m news := by
  rcases h with ⟨rfl, rfl, rfl, rfl⟩ | ⟨b, c, sp, q, rfl, rfl, h1, h2, h3, h4, h5⟩
  · exact Src.sl (Sl.nil I s)
  · refine ⟨fun w => by simp [Builtin.lenOf], fun w hm k hk => ?_, h1⟩
    have hle : k * s ≤ m * s := Nat.mul_le_mul_right _ hk
    have htl : (news.take (k * s)).length = k * s := by rw [List.length_take, h1]; exact Nat.min_eq_left hle
    have := run_loadCells_list (P := P) w ⟨b, 0, none⟩ (news.take (k * s)) (fun j u hj => by
      rw [List.getElem?_take] at hj
      split at hj
      · rw [Addr.add_plain, chunk_cellG hm hL, Nat.zero_add, List.getElem?_append_left (List.getElem?_eq_some_iff.1 hj).1]; exact hj
      · cases hj)
    rw [htl] at this
    simp only [Builtin.firstCells, this]
theorem OpS.appendG_core (i : Nat) {n m : Nat} {a0 : Option Addr} {c : Nat} {u : Value} {xs news : List Value} {X : List (Nat × Obj)} {U : TypeId} {inf : TypeInfo} {zv : Value} (hzs : zv.cells.size = inf.size) {a : Act} {w : World}
    (hxe : ev ρ x = some (.slice a0 n c)) (hye : ev ρ y = some u) (ha : Fits N ρ a) (hst : St C I L w) (hL : L[i]? = some X) (hown : OwnG E inf.size (.slice a0 n c) n xs X) (hnl : news.length = m * inf.size) (h1 : ones news = true)
    (hn63 : n + m ≤ maxLen)
    (hboth : (n + m ≤ c → (Builtin.append_ #[T, U] ty #[.slice a0 n c, u]).run P w = ((match a0 with | some ad => storeCells (ad.add (n * inf.size)) news | none => pure ()).run P w).andThen fun _ w' => .ok (.slice a0 (n + m) c) w') ∧
    (c < n + m → ∀ olds, ((Builtin.firstCells inf.size n (.slice a0 n c)).run P w.drew = .ok olds w.drew) →
      (Builtin.append_ #[T, U] ty #[.slice a0 n c, u]).run P w = .ok (.slice (some ⟨w.heap.size, 0, none⟩) (n + m) (grownCap w (n + m) c E))
        (w.drew.alloc (.cells (olds ++ news.toArray ++ Builtin.zeroCells zv.cells (grownCap w (n + m) c E - (n + m))) E))))
    (k : ∀ v' X', OwnG E inf.size v' (n + m) (xs ++ news) X' → (∀ p ∈ X', p.1 ∈ X.map Prod.fst ∨ C.w0.heap.size ≤ p.1) → K v' I (L.set i X')) :
    Yld P ((execOp a.eval ⟨d, .call ⟨.builtin .append, #[x, y], #[T, U]⟩, ty, ps, af, g⟩).run P w) fun v w' => ∃ J L', St C J L' w' ∧ K v J L' := by
  have hmem : ∀ w', w'.heap = w.heap → Mem I L w' := fun w' hw => ⟨by rw [hw]; exact hst.mem.im, by rw [hw]; exact hst.mem.loc, hst.mem.sep, hst.mem.nodup⟩
  have hop : ∀ r, (Builtin.append_ #[T, U] ty #[.slice a0 n c, u]).run P w = r → (execOp a.eval ⟨d, .call ⟨.builtin .append, #[x, y], #[T, U]⟩, ty, ps, af, g⟩).run P w = r.andThen fun v w' => .ok (.value v) w' := fun r hr => by
    simp [execOp, resolve, invoke, builtin, ha.ev hxe, ha.ev hye, hr]
  have hxl := hown.len
  by_cases hroom : n + m ≤ c
  · have hr := hboth.1 hroom
    rcases hown with ⟨hv, rfl, rfl, rfl⟩ | ⟨b, c', sp, q, hv, rfl, h2, h3, h4, h5, h6⟩
    · cases hv
      have hm0 : m = 0 := by omega
      subst hm0
      have hn0 : news = [] := List.eq_nil_of_length_eq_zero (by simpa using hnl)
      subst hn0
      rw [hop _ hr]
      refine ⟨I, L.set i [], ?_, k _ _ (by simpa using OwnG.nil E inf.size) (by simp)⟩
      exact hst.dropAt i
    · cases hv
      rw [hop _ hr]
      have hbh := hst.mem.loc (b, .cells (xs ++ sp).toArray E q) (mem_chunk hL (by simp))
      have hfit : n * inf.size + news.length ≤ (xs ++ sp).length := by rw [hnl, h3, ← Nat.add_mul]; exact Nat.mul_le_mul_right _ hroom
      have hall : ∀ u ∈ news, u.oneCell' = true := fun u hu => List.all_eq_true.1 h1 u hu
      have hst2 := run_storeCells_fr P b (n * inf.size) E q news 0 (xs ++ sp).toArray w hbh (by simpa using hfit) hall (fun j hj => by rcases h6 with rfl | rfl <;> simp at hj ⊢ <;> omega)
      simp only [Nat.add_zero] at hst2
      have hseg : List.take (n * inf.size) (xs ++ sp) ++ news ++ List.drop (n * inf.size + news.length) (xs ++ sp) = (xs ++ news) ++ sp.drop news.length := by
        rw [← h2, List.take_left, List.drop_append]
        simp
      simp only [Addr.add_plain, Nat.zero_add, hst2, Result.andThen_ok]
      refine ⟨I, L.set i [(b, .cells ((xs ++ news) ++ sp.drop news.length).toArray E q)], ?_, k _ _ (.inr ⟨b, c, sp.drop news.length, q, rfl, rfl, ?_, ?_, hroom, h5, ?_⟩) (by simp)⟩
      · rw [hseg]; exact setRowG hst hL _
      · rw [List.length_append, h2, hnl, Nat.add_mul]
      · have : (xs ++ sp).length = n * inf.size + sp.length := by rw [List.length_append, h2]
        simp only [List.length_append, List.length_drop]
        rw [h3] at this hfit
        omega
      · have hle : news.length ≤ sp.length := by rw [List.length_append, h2] at hfit; omega
        have e : ((xs ++ news) ++ sp.drop news.length).length = (xs ++ sp).length := by simp; omega
        rw [e]; exact h6
  · have hlt : c < n + m := by omega
    have hold : (Builtin.firstCells inf.size n (.slice a0 n c)).run P w.drew = .ok xs.toArray w.drew := by
      have := (Src.ownG (P := P) (I := I) i hL hown).cells w.drew (hmem w.drew rfl) n (Nat.le_refl _)
      rwa [← hxl, List.take_length] at this
    have hr := hboth.2 hlt _ hold
    rw [hop _ hr]
    have hge := grownCap_ge w (n + m) c E
    have hcm : grownCap w (n + m) c E ≤ maxLen := grownCap_le_maxLen w (n + m) c E hn63
    refine ⟨I, _, hst.replace hL rfl rfl rfl rfl, k _ _ (.inr ⟨w.heap.size, _, (Builtin.zeroCells zv.cells (grownCap w (n + m) c E - (n + m))).toList, (0, 0), rfl, ?_, ?_, ?_, hge, hcm, .inl rfl⟩) (fun p hp => .inr (by simp only [List.mem_singleton] at hp; subst hp; exact hst.chg.size))⟩
    · have hz2 : xs.toArray ++ news.toArray ++ Builtin.zeroCells zv.cells (grownCap w (n + m) c E - (n + m)) = (xs ++ news ++ (Builtin.zeroCells zv.cells (grownCap w (n + m) c E - (n + m))).toList).toArray := by
        apply Array.ext'
        simp
      rw [hz2]
    · rw [List.length_append, hxl, hnl, Nat.add_mul]
    · simp only [List.length_append, Array.length_toList, size_zeroCells, hzs, hxl, hnl, ← Nat.add_mul]
      congr 1
      omega
theorem OpS.appendG (i : Nat) {s by_ n m : Nat} {v u : Value} {xs news : List Value} {X : List (Nat × Obj)} {U : TypeId} (he : Elt P T E s by_) (hs0 : 0 < s) (hU : (∃ E2, P.underlying U = some (.slice E2)) ∨ P.underlying U = some .string)
    (hx : ev ρ x = some v) (hy : ev ρ y = some u) (hL : L[i]? = some X) (hown : OwnG E s v n xs X) (hsrc : Src P I L s u m news) (h1 : ones news = true)
    (hn63 : n + m ≤ maxLen) (hb : (n + m) * by_ ≤ 140737488355328) (k : ∀ v' X', OwnG E s v' (n + m) (xs ++ news) X' → (∀ p ∈ X', p.1 ∈ X.map Prod.fst ∨ C.w0.heap.size ≤ p.1) → K v' I (L.set i X')) :
    OpS P C N ⟨d, .call ⟨.builtin .append, #[x, y], #[T, U]⟩, ty, ps, af, g⟩ ρ I L K := fun a w ha hst => by
  obtain ⟨inf, zv, hi, hz, rfl, rfl, hzs⟩ := he.info
  have hmem : ∀ w', w'.heap = w.heap → Mem I L w' := fun w' hw => ⟨by rw [hw]; exact hst.mem.im, by rw [hw]; exact hst.mem.loc, hst.mem.sep, hst.mem.nodup⟩
  have hcells : ∀ w', w'.heap = w.heap → (Builtin.firstCells inf.size m u).run P w' = .ok news.toArray w' := fun w' hw => by
    have := hsrc.cells w' (hmem w' hw) m (Nat.le_refl _)
    rwa [← hsrc.size, List.take_length] at this
  have h63 : n + m ≤ 9223372036854775807 := by unfold maxLen at hn63; omega
  obtain ⟨a0, c, rfl⟩ := hown.shape
  have hboth : (n + m ≤ c → (Builtin.append_ #[T, U] ty #[.slice a0 n c, u]).run P w = ((match a0 with | some ad => storeCells (ad.add (n * inf.size)) news | none => pure ()).run P w).andThen fun _ w' => .ok (.slice a0 (n + m) c) w') ∧
    (c < n + m → ∀ olds, ((Builtin.firstCells inf.size n (.slice a0 n c)).run P w.drew = .ok olds w.drew) →
      (Builtin.append_ #[T, U] ty #[.slice a0 n c, u]).run P w = .ok (.slice (some ⟨w.heap.size, 0, none⟩) (n + m) (grownCap w (n + m) c E))
        (w.drew.alloc (.cells (olds ++ news.toArray ++ Builtin.zeroCells zv.cells (grownCap w (n + m) c E - (n + m))) E))) := by
    rcases hU with ⟨E2, hU⟩ | hU
    · exact run_append_sl he.und hi hz hU hsrc.len hcells h63 hb
    · exact run_append_str he.und hi hz hU hsrc.len hcells h63 hb
  exact appendG_core i hzs hx hy ha hst hL hown hsrc.size h1 hn63 hboth k
end
end Go.Ab
/- The state over typed values, and the rules of control. -/
set_option linter.unusedVariables false
namespace Go.Ab
open Go.Fl Go.RowKit
open Rep (rep)

abbrev AEnv := List (Nat × AV)
def lookA : AEnv → Nat → Option AV
  | [], _ => none
  | (s, v) :: r, t => bif Nat.beq s t then some v else lookA r t
theorem lookA_cons (s : Nat) (v : AV) (ρ : AEnv) (t : Nat) : lookA ((s, v) :: ρ) t = if s = t then some v else lookA ρ t := by
  by_cases h : s = t
  · subst h; simp [lookA]
  · simp [lookA, h, beq_ne h]
/-- A kind of own memory that a text of its own speaks of. -/
class UB (α : Type) where
  ub : Im → Value → α → List (Nat × Obj) → Prop
  mono : ∀ {I J w x X}, Le I J → ub I w x X → ub J w x X
/-- A chunk of own memory. -/
inductive Blk : Type 1 where
  | ob {α : Type} [r : Rep α] (w : Value) (x : α)
  | own {α : Type} [r : Rep α] (E : TypeId) (w : Value) (l : List α)
  | fz (w : Value) (a : AV)
  | usr {α : Type} [r : UB α] (w : Value) (x : α)
  | none_
def Blk.brep (I : Im) : Blk → List (Nat × Obj) → Prop
  | @Blk.ob α r w x, X => ∃ b T cs, w = ptr b 0 ∧ X = [(b, row cs T)] ∧ @Rep.rep α r I x cs
  | @Blk.own α r E w l, X => ∃ xs, OwnG E (@Rep.size α r) w l.length xs X ∧ @repL α r I l xs
  | .fz w a, X => X = [] ∧ RepV I a w
  | @Blk.usr α r w x, X => r.ub I w x X
  | .none_, _ => True
theorem Blk.mono {I J : Im} (hle : Le I J) : ∀ {B : Blk} {X : List (Nat × Obj)}, B.brep I X → B.brep J X
  | @Blk.ob α r w x, _, h => by obtain ⟨b, T, cs, h1, h2, h3⟩ := h; exact ⟨b, T, cs, h1, h2, @Rep.mono α r _ _ _ _ hle h3⟩
  | @Blk.own α r E w l, _, h => by obtain ⟨xs, h1, h2⟩ := h; exact ⟨xs, h1, h2.mono hle⟩
  | .fz w a, _, h => ⟨h.1, h.2.mono hle⟩
  | @Blk.usr α r w x, _, h => r.mono hle h
  | .none_, _, _ => trivial
/-- Chunks; a marked one lies in memory that is new in this call. -/
abbrev AHeap := List (Bool × Blk)
def repB (n0 : Nat) (I : Im) (B : Bool × Blk) (X : List (Nat × Obj)) : Prop := B.2.brep I X ∧ (B.1 = true → ∀ p ∈ X, n0 ≤ p.1)
def repH (n0 : Nat) (I : Im) : AHeap → Lh → Prop
  | [], L => L = []
  | B :: H, L => ∃ X R, L = X :: R ∧ repB n0 I B X ∧ repH n0 I H R
theorem repB.mono {n0 : Nat} {I J : Im} (hle : Le I J) {B : Bool × Blk} {X : List (Nat × Obj)} (h : repB n0 I B X) : repB n0 J B X := ⟨Blk.mono hle h.1, h.2⟩
theorem repH.mono {n0 : Nat} {I J : Im} (hle : Le I J) : ∀ {H : AHeap} {L : Lh}, repH n0 I H L → repH n0 J H L
  | [], _, h => h
  | B :: H, _, h => by obtain ⟨X, R, h1, h2, h3⟩ := h; exact ⟨X, R, h1, h2.mono hle, h3.mono hle⟩
theorem repH.append {n0 : Nat} {I : Im} : ∀ {H K : AHeap} {L M : Lh}, repH n0 I H L → repH n0 I K M → repH n0 I (H ++ K) (L ++ M)
  | [], _, _, _, h, k => by simp [repH] at h; simpa [h] using k
  | B :: H, _, _, _, h, k => by obtain ⟨X, R, rfl, h2, h3⟩ := h; exact ⟨X, R ++ _, rfl, h2, h3.append k⟩
structure RSt (C : Ctx) (I : Im) (L : Lh) (σ : AEnv) (H : AHeap) (ρ : Env) : Prop where
  env : ∀ t a, lookA σ t = some a → ∃ u, Fl.look ρ t = some u ∧ RepV I a u
  heap : repH C.w0.heap.size I H L
  im0 : Le C.I0 I
theorem RSt.mono {C : Ctx} {I J : Im} {L : Lh} {σ : AEnv} {H : AHeap} {ρ : Env} (hle : Le I J) (h : RSt C I L σ H ρ) : RSt C J L σ H ρ :=
  ⟨fun t a ht => by obtain ⟨u, h1, h2⟩ := h.env t a ht; exact ⟨u, h1, h2.mono hle⟩, h.heap.mono hle, h.im0.trans hle⟩
theorem RSt.put {C : Ctx} {I J : Im} {L L' : Lh} {σ : AEnv} {H H' : AHeap} {ρ : Env} (hle : Le I J) (h : RSt C I L σ H ρ) {d : Nat} {r : AV} {v : Value} (hv : RepV J r v) (hH : repH C.w0.heap.size J H' L') :
    RSt C J L' ((d, r) :: σ) H' ((d, v) :: ρ) := by
  refine ⟨fun t a ht => ?_, hH, h.im0.trans hle⟩
  rw [lookA_cons] at ht
  rw [Fl.look_cons]
  by_cases e : d = t
  · rw [if_pos e] at ht ⊢; cases ht; exact ⟨v, rfl, hv⟩
  · rw [if_neg e] at ht ⊢
    obtain ⟨u, h1, h2⟩ := h.env t a ht
    exact ⟨u, h1, h2.mono hle⟩
def SubA (σ' σ : AEnv) : Prop := ∀ t a, lookA σ' t = some a → lookA σ t = some a
theorem SubA.refl (σ : AEnv) : SubA σ σ := fun _ _ h => h
theorem SubA.nil (σ : AEnv) : SubA [] σ := fun _ _ h => by simp [lookA] at h
theorem SubA.cons {σ' σ : AEnv} {t : Nat} {a : AV} (h : lookA σ t = some a) (k : SubA σ' σ) : SubA ((t, a) :: σ') σ := fun s b hb => by
  rw [lookA_cons] at hb
  by_cases e : t = s
  · subst e; simp at hb; subst hb; exact h
  · rw [if_neg e] at hb; exact k s b hb
theorem RSt.sub {C : Ctx} {I : Im} {L : Lh} {σ σ' : AEnv} {H : AHeap} {ρ : Env} (h : RSt C I L σ H ρ) (k : SubA σ' σ) : RSt C I L σ' H ρ := ⟨fun t a ht => h.env t a (k t a ht), h.heap, h.im0⟩

def qA (C : Ctx) (Q : Exit → AEnv → AHeap → Prop) : Exit → Env → Im → Lh → Prop := fun e ρ I L => ∃ σ H, RSt C I L σ H ρ ∧ Q e σ H
def wpA (P : Program) (C : Ctx) (N : Nat) (c : Code) (Q : Exit → AEnv → AHeap → Prop) (σ : AEnv) (H : AHeap) : Prop :=
  ∀ ρ I L, RSt C I L σ H ρ → wpS P C N c (qA C Q) ρ I L
def wpB (P : Program) (C : Ctx) (N : Nat) (ops : Array Oper) (Q : Exit → AEnv → AHeap → Prop) (l : List Oper) (σ : AEnv) (H : AHeap) : Prop :=
  ∀ ρ I L, RSt C I L σ H ρ → wpL P C N ops (qA C Q) l ρ I L

/-- An operand's value. -/
def EvA (C : Ctx) (σ : AEnv) (H : AHeap) (x : Operand) (a : AV) : Prop := ∀ ρ I L, RSt C I L σ H ρ → ∃ u, ev ρ x = some u ∧ RepV I a u
section evA
variable {C : Ctx} {σ : AEnv} {H : AHeap}
theorem EvA.t {t : Nat} {a : AV} (h : lookA σ t = some a) : EvA C σ H (.tmp t) a := fun ρ I L hs => hs.env t a h
theorem EvA.i {n : Int} (h : (decide (-9223372036854775808 ≤ n) && decide (n ≤ 9223372036854775807)) = true) : EvA C σ H (.const (.int .i64 n)) (.v n) := fun ρ I L hs => by
  simp only [Bool.and_eq_true, decide_eq_true_eq] at h
  exact ⟨_, rfl, _, ⟨rfl, h.1, h.2⟩, rfl⟩
theorem EvA.u8 (x : UInt8) {m : Int} (h : m = (x.toNat : Int)) : EvA C σ H (.const (.int .u8 m)) (.v x) := fun ρ I L hs => ⟨_, rfl, _, rfl, by rw [h]; rfl⟩
theorem EvA.u16 (x : UInt16) {m : Int} (h : m = (x.toNat : Int)) : EvA C σ H (.const (.int .u16 m)) (.v x) := fun ρ I L hs => ⟨_, rfl, _, rfl, by rw [h]; rfl⟩
theorem EvA.u32 (x : UInt32) {m : Int} (h : m = (x.toNat : Int)) : EvA C σ H (.const (.int .u32 m)) (.v x) := fun ρ I L hs => ⟨_, rfl, _, rfl, by rw [h]; rfl⟩
theorem EvA.u64 (x : UInt64) {m : Int} (h : m = (x.toNat : Int)) : EvA C σ H (.const (.int .u64 m)) (.v x) := fun ρ I L hs => ⟨_, rfl, _, rfl, by rw [h]; rfl⟩
theorem EvA.b {x : Bool} : EvA C σ H (.const (.bool x)) (.v x) := fun ρ I L hs => ⟨_, rfl, _, rfl, rfl⟩
theorem EvA.s {x : ByteArray} (l : List UInt8) (h : x.data.toList = l) (hl : l.length ≤ 9223372036854775807) : EvA C σ H (.const (.string x)) (.v (Str.mk l)) := fun ρ I L hs => ⟨_, rfl, _, ⟨⟨x, rfl, h⟩, hl⟩, rfl⟩
theorem EvA.nilS {α : Type} [Rep α] : EvA C σ H (.const (.slice none 0 0)) (.v ([] : List α)) := fun ρ I L hs => ⟨_, rfl, _, ⟨_, rfl, [], Sl.nil I _, rfl⟩, rfl⟩
theorem EvA.raw {u : Value} : EvA C σ H (.const u) (.raw u) := fun ρ I L hs => ⟨_, rfl, rfl⟩
theorem EvA.f {f : FuncId} : EvA C σ H (.func f) (.raw (.func (.func f) #[] #[])) := fun ρ I L hs => ⟨_, rfl, rfl⟩
theorem EvA.c {α : Type} {r : Rep α} {t : Nat} {l : List α} (h : lookA σ t = some (.vc l)) : EvA C σ H (.tmp t) (.v l) := fun ρ I L hs => by
  obtain ⟨u, h1, h2, h3⟩ := hs.env t _ h
  exact ⟨u, h1, [u], ⟨u, rfl, h3⟩, rfl⟩
theorem EvA.o {t : Nat} {a : AV} {c : Bool} (h : lookA σ t = some (.opt c a)) (hc : c = true) : EvA C σ H (.tmp t) a := fun ρ I L hs => by
  obtain ⟨u, h1, h2⟩ := hs.env t _ h
  exact ⟨u, h1, h2 hc⟩
/-- An integer's value and its range. -/
theorem EvA.int {x : Operand} {n : Int} (h : EvA C σ H x (.v n)) {ρ : Env} {I : Im} {L : Lh} (hs : RSt C I L σ H ρ) : ev ρ x = some (i64 n) ∧ -9223372036854775808 ≤ n ∧ n ≤ 9223372036854775807 := by
  obtain ⟨u, h1, cs, ⟨rfl, h2⟩, rfl⟩ := h ρ I L hs
  exact ⟨h1, h2⟩
theorem EvA.bool {x : Operand} {b : Bool} (h : EvA C σ H x (.v b)) {ρ : Env} {I : Im} {L : Lh} (hs : RSt C I L σ H ρ) : ev ρ x = some (.bool b) := by
  obtain ⟨u, h1, cs, rfl, rfl⟩ := h ρ I L hs
  exact h1
theorem EvA.by8 {x : Operand} {n : UInt8} (h : EvA C σ H x (.v n)) {ρ : Env} {I : Im} {L : Lh} (hs : RSt C I L σ H ρ) : ev ρ x = some (Fl.u8 n) := by
  obtain ⟨u, h1, cs, rfl, rfl⟩ := h ρ I L hs
  exact h1
theorem EvA.by16 {x : Operand} {n : UInt16} (h : EvA C σ H x (.v n)) {ρ : Env} {I : Im} {L : Lh} (hs : RSt C I L σ H ρ) : ev ρ x = some (Ab.u16 n) := by
  obtain ⟨u, h1, cs, rfl, rfl⟩ := h ρ I L hs
  exact h1
theorem EvA.by32 {x : Operand} {n : UInt32} (h : EvA C σ H x (.v n)) {ρ : Env} {I : Im} {L : Lh} (hs : RSt C I L σ H ρ) : ev ρ x = some (Fl.u32 n) := by
  obtain ⟨u, h1, cs, rfl, rfl⟩ := h ρ I L hs
  exact h1
theorem EvA.by64 {x : Operand} {n : UInt64} (h : EvA C σ H x (.v n)) {ρ : Env} {I : Im} {L : Lh} (hs : RSt C I L σ H ρ) : ev ρ x = some (Fl.u64 n) := by
  obtain ⟨u, h1, cs, rfl, rfl⟩ := h ρ I L hs
  exact h1
theorem EvA.str {x : Operand} {s : Str} (h : EvA C σ H x (.v s)) {ρ : Env} {I : Im} {L : Lh} (hs : RSt C I L σ H ρ) : ∃ b, ev ρ x = some (.string b) ∧ b.data.toList = s.l := by
  obtain ⟨u, h1, cs, ⟨⟨b, rfl, h2⟩, _⟩, rfl⟩ := h ρ I L hs
  exact ⟨b, h1, h2⟩
theorem EvA.strLe {x : Operand} {s : Str} (h : EvA C σ H x (.v s)) {ρ : Env} {I : Im} {L : Lh} (hs : RSt C I L σ H ρ) : s.l.length ≤ 9223372036854775807 := by
  obtain ⟨u, h1, cs, ⟨_, h2⟩, rfl⟩ := h ρ I L hs
  exact h2
theorem EvA.sl {α : Type} {r : Rep α} {x : Operand} {l : List α} (h : EvA C σ H x (.v l)) {ρ : Env} {I : Im} {L : Lh} (hs : RSt C I L σ H ρ) : ∃ u, ev ρ x = some u ∧ SlA I u l := by
  obtain ⟨u, h1, cs, ⟨v, rfl, h2⟩, rfl⟩ := h ρ I L hs
  exact ⟨_, h1, h2⟩
theorem EvA.rawv {x : Operand} {w : Value} (h : EvA C σ H x (.raw w)) {ρ : Env} {I : Im} {L : Lh} (hs : RSt C I L σ H ρ) : ev ρ x = some w := by
  obtain ⟨u, h1, rfl⟩ := h ρ I L hs
  exact h1
end evA

section control
variable {P : Program} {C : Ctx} {N : Nat} {Q : Exit → AEnv → AHeap → Prop} {σ : AEnv} {H : AHeap}
theorem qA.mono {C : Ctx} {Q' : Exit → AEnv → AHeap → Prop} (h : ∀ e σ H, Q e σ H → Q' e σ H) {e : Exit} {ρ : Env} {I : Im} {L : Lh} (k : qA C Q e ρ I L) : qA C Q' e ρ I L := by
  obtain ⟨σ, H, h1, h2⟩ := k; exact ⟨σ, H, h1, h _ _ _ h2⟩
theorem wpA.mono {Q' : Exit → AEnv → AHeap → Prop} {c : Code} (h : wpA P C N c Q σ H) (hq : ∀ e σ H, Q e σ H → Q' e σ H) : wpA P C N c Q' σ H :=
  fun ρ I L hs => (h ρ I L hs).mono fun _ _ _ _ k => qA.mono hq k
theorem wpA.sub {c : Code} {σ' : AEnv} (h : wpA P C N c Q σ' H) (k : SubA σ' σ) : wpA P C N c Q σ H := fun ρ I L hs => h ρ I L (hs.sub k)
theorem wpA.skip (h : Q .normal σ H) : wpA P C N .skip Q σ H := fun ρ I L hs => .skip ⟨σ, H, hs, h⟩
theorem wpA.ret (h : Q .ret σ H) : wpA P C N .ret Q σ H := fun ρ I L hs => .ret ⟨σ, H, hs, h⟩
theorem wpA.exit {id : Nat} (h : Q (.exit id) σ H) : wpA P C N (.exit id) Q σ H := fun ρ I L hs => .exit ⟨σ, H, hs, h⟩
@[reducible] def thenA (next : AEnv → AHeap → Prop) (Q : Exit → AEnv → AHeap → Prop) : Exit → AEnv → AHeap → Prop
  | .normal, σ, H => next σ H
  | e, σ, H => Q e σ H
theorem wpA.seq {x y : Code} (h : wpA P C N x (thenA (wpA P C N y Q) Q) σ H) : wpA P C N (.seq x y) Q σ H := fun ρ I L hs => by
  refine .seq ((h ρ I L hs).mono fun e ρ I L ⟨σ, H, h1, h2⟩ => ?_)
  cases e with
  | normal => exact h2 ρ I L h1
  | _ => exact ⟨σ, H, h1, h2⟩
theorem wpA.cond {c : Operand} {x y : Code} {b : Bool} (hc : EvA C σ H c (.v b)) (ht : b = true → wpA P C N x Q σ H) (hf : b = false → wpA P C N y Q σ H) : wpA P C N (.cond c x y) Q σ H :=
  fun ρ I L hs => .cond (hc.bool hs) (fun e => ht e ρ I L hs) (fun e => hf e ρ I L hs)
theorem wpA.condP {c : Operand} {x y : Code} {p : Prop} {_ : Decidable p} (hc : EvA C σ H c (.v (decide p))) (ht : p → wpA P C N x Q σ H) (hf : ¬ p → wpA P C N y Q σ H) : wpA P C N (.cond c x y) Q σ H :=
  .cond hc (fun e => ht (of_decide_eq_true e)) (fun e => hf (of_decide_eq_false e))
@[reducible] def blockA (id : Nat) (Q : Exit → AEnv → AHeap → Prop) : Exit → AEnv → AHeap → Prop
  | .exit i, σ, H => bif Nat.beq i id then Q .normal σ H else Q (.exit i) σ H
  | e, σ, H => Q e σ H
theorem wpA.block {id : Nat} {c : Code} (h : wpA P C N c (blockA id Q) σ H) : wpA P C N (.block id c) Q σ H := fun ρ I L hs => by
  refine .block ((h ρ I L hs).mono fun e ρ I L ⟨σ, H, h1, h2⟩ => ?_)
  cases e with
  | exit i =>
    simp only [blockQ, blockA] at *
    cases hb : Nat.beq i id with
    | true => simp only [hb, cond_true] at *; exact ⟨σ, H, h1, h2⟩
    | false => simp only [hb, cond_false] at *; exact ⟨σ, H, h1, h2⟩
  | _ => exact ⟨σ, H, h1, h2⟩
/-- A loop over frames, with no word of growth. -/
theorem wpS.loop0 {Q : Exit → Env → Im → Lh → Prop} {ρ : Env} {I : Im} {L : Lh} {α : Type} (E : α → Env) (Lf : α → Lh) (F : α → Im → Prop) (μ : α → Nat) {c : Code}
    (x0 : α) (h0 : F x0 I) (hE : Sub (E x0) ρ) (hL : L = Lf x0)
    (round : ∀ x J, F x J → wpS P C N c (thenQ (fun ρ' J' L' => ∃ x', Sub (E x') ρ' ∧ L' = Lf x' ∧ F x' J' ∧ μ x' < μ x) Q) (E x) J (Lf x)) :
    wpS P C N (.loop c) Q ρ I L := fun a w ha hw => by
  intro b k cs
  have key : ∀ n x J a w, μ x = n → F x J → Fits N (E x) a → St C J (Lf x) w →
      ∃ e a' w', liftQ C N Q e a' w' ∧ Arrives P (lone (b.at a (.code c :: .inLoop c :: k)) cs w) b k cs e a' w' := by
    intro n
    induction n using Nat.strongRecOn with
    | _ n ih =>
      intro x J a w hn hF ha hw
      obtain ⟨e, a1, w1, ⟨ρ1, J1, L1, hf1, hs1, hq1⟩, harr⟩ := round x J hF a w ha hw b (.inLoop c :: k) cs
      cases e with
      | normal =>
        obtain ⟨x', hsub, rfl, hF', hlt⟩ := hq1
        obtain ⟨e2, a2, w2, hq2, harr2⟩ := ih (μ x') (hn ▸ hlt) x' J1 a1 w1 rfl hF' (hf1.sub hsub) hs1
        exact ⟨e2, a2, w2, hq2, .of_steps (Steps.trans harr (.one step_inLoop)) harr2⟩
      | exit id => exact ⟨_, a1, w1, ⟨ρ1, J1, L1, hf1, hs1, hq1⟩, .pass (x := .inLoop c) rfl (fun _ _ => .inl (by simp)) harr⟩
      | goto l => exact ⟨_, a1, w1, ⟨ρ1, J1, L1, hf1, hs1, hq1⟩, .pass (x := .inLoop c) rfl (fun _ _ => .inl (by simp)) harr⟩
      | ret => exact ⟨_, a1, w1, ⟨ρ1, J1, L1, hf1, hs1, hq1⟩, .pass (x := .inLoop c) rfl (fun _ _ => .inl (by simp)) harr⟩
      | panic ch => exact ⟨_, a1, w1, ⟨ρ1, J1, L1, hf1, hs1, hq1⟩, .pass (x := .inLoop c) rfl (fun _ _ => .inl (by simp)) harr⟩
      | outgrown => exact ⟨_, a1, w1, ⟨ρ1, J1, L1, hf1, hs1, hq1⟩, .pass (x := .inLoop c) rfl (fun _ _ => .inl (by simp)) harr⟩
  subst hL
  obtain ⟨e, a', w', hq, harr⟩ := key _ x0 I a w rfl h0 (ha.sub hE) hw
  exact ⟨e, a', w', hq, .of_steps (.one step_loop) harr⟩
/-- A loop: the states at its head are E x, Hf x with F x; μ falls. -/
theorem wpA.loop {α : Type} (E : α → AEnv) (Hf : α → AHeap) (F : α → Prop) (μ : α → Nat) {c : Code}
    (x0 : α) (h0 : F x0) (hE : SubA (E x0) σ) (hH : H = Hf x0)
    (round : ∀ x, F x → wpA P C N c (thenA (fun σ' H' => ∃ x', SubA (E x') σ' ∧ H' = Hf x' ∧ F x' ∧ μ x' < μ x) Q) (E x) (Hf x)) :
    wpA P C N (.loop c) Q σ H := fun ρ I L hs => by
  refine wpS.loop0 (α := α × Env × Lh) (fun y => y.2.1) (fun y => y.2.2) (fun y J => F y.1 ∧ RSt C J y.2.2 (E y.1) (Hf y.1) y.2.1) (fun y => μ y.1) (x0, ρ, L) ⟨h0, hH ▸ hs.sub hE⟩ (Sub.refl _) rfl ?_
  rintro ⟨x, ρ1, L1⟩ J ⟨hF, hR⟩
  refine (round x hF ρ1 J L1 hR).mono fun e ρ2 J2 L2 ⟨σ2, H2, h1, h2⟩ => ?_
  cases e with
  | normal =>
    obtain ⟨x', k1, k2, k3, k4⟩ := h2
    subst k2
    exact ⟨(x', ρ2, L2), Sub.refl _, rfl, ⟨k3, h1.sub k1⟩, k4⟩
  | _ => exact ⟨σ2, H2, h1, h2⟩
/-- A loop: what holds at its head; R does not vary. -/
theorem wpA.loopR (R : AEnv) {α : Type} (V : α → AEnv → AEnv) (Hf : α → AHeap) (F : α → Prop) (μ : α → Nat) {c : Code}
    (x0 : α) (hR : SubA R σ) (h0 : F x0) (hE : SubA (V x0 R) σ) (hH : H = Hf x0)
    (round : ∀ x, F x → wpA P C N c (thenA (fun σ' H' => ∃ x', SubA (V x' R) σ' ∧ H' = Hf x' ∧ F x' ∧ μ x' < μ x) Q) (V x R) (Hf x)) :
    wpA P C N (.loop c) Q σ H := .loop (fun x => V x R) Hf F μ x0 h0 hE hH round
/-- Several ways meet. -/
theorem wpA.meet (R : AEnv) {α : Type} (V : α → AEnv → AEnv) (Hf : α → AHeap) (F : α → Prop) {x y : Code} (hR : SubA R σ)
    (h : wpA P C N x (thenA (fun σ' H' => ∃ z, SubA (V z R) σ' ∧ H' = Hf z ∧ F z) Q) σ H) (k : ∀ z, F z → wpA P C N y Q (V z R) (Hf z)) : wpA P C N (.seq x y) Q σ H :=
  .seq (h.mono fun e σ' H' hq => by
    cases e with
    | normal =>
      obtain ⟨z, h1, h2, h3⟩ := hq
      subst h2
      exact (k z h3).sub h1
    | _ => exact hq)
end control
end Go.Ab
/- Operations over typed values: frames for the rules; calls; regions that draw their order; freezing; results. -/
set_option linter.unusedVariables false
namespace Go.Ab
open Go.Fl Go.RowKit
open Rep (rep)

theorem OpX.monoLe {P : Program} {N : Nat} {o : Oper} {ρ : Env} {I : Im} {L : Lh} {K K' : Value → Im → Lh → Prop} (h : OpX P N o ρ I L K) (hk : ∀ v J X, Le I J → K v J X → K' v J X) : OpX P N o ρ I L K' :=
  fun a w ha hm => (h a w ha hm).mono fun v w' ⟨J, X, a1, a2, a3, a4, a5, a6⟩ => ⟨J, X, a1, a2, a3, a4, a5, hk v J X a2 a6⟩
theorem OpS.mono' {P : Program} {C : Ctx} {N : Nat} {o : Oper} {ρ : Env} {I : Im} {L : Lh} {K K' : Value → Im → Lh → Prop} (h : OpS P C N o ρ I L K) (hk : ∀ v J X, K v J X → K' v J X) : OpS P C N o ρ I L K' :=
  fun a w ha hm => (h a w ha hm).mono fun v w' ⟨J, X, a1, a2⟩ => ⟨J, X, a1, hk v J X a2⟩

/-- An operation that turns no own memory. -/
def OpP (P : Program) (N : Nat) (C : Ctx) (o : Oper) (σ : AEnv) (H : AHeap) (K : AV → Prop) : Prop :=
  ∀ ρ I L, RSt C I L σ H ρ → OpX P N o ρ I L (fun v J X => X = [] ∧ ∃ r, RepV J r v ∧ K r)
/-- Any operation. -/
def OpH (P : Program) (C : Ctx) (N : Nat) (o : Oper) (σ : AEnv) (H : AHeap) (K : AV → AHeap → Prop) : Prop :=
  ∀ ρ I L, RSt C I L σ H ρ → OpS P C N o ρ I L (fun v J L' => Le I J ∧ ∃ r H', RepV J r v ∧ repH C.w0.heap.size J H' L' ∧ K r H')
theorem OpP.ofV {P : Program} {N : Nat} {C : Ctx} {o : Oper} {σ : AEnv} {H : AHeap} {K : AV → Prop} (r : AV) (h : ∀ ρ I L, RSt C I L σ H ρ → OpV P N o ρ I L (fun v => RepV I r v)) (k : K r) : OpP P N C o σ H K :=
  fun ρ I L hs => .ofV fun a w ha hm => by
    obtain ⟨v, hv, hr⟩ := h ρ I L hs a w ha hm
    exact ⟨v, ⟨rfl, r, hv, k⟩, hr⟩
section opers
variable {P : Program} {C : Ctx} {N : Nat} {ops : Array Oper} {Q : Exit → AEnv → AHeap → Prop} {rest : List Oper} {σ : AEnv} {H : AHeap}
theorem wpB.nil (h : Q .normal σ H) : wpB P C N ops Q [] σ H := fun ρ I L hs => .nil ⟨σ, H, hs, h⟩
theorem wpB.p {d : Nat} {op : Op} {ty : TypeId} {ps : String} {af : Array Edge}
    (h : OpP P N C ⟨some d, op, ty, ps, af, none⟩ σ H (fun r => wpB P C N ops Q rest ((d, r) :: σ) H)) :
    wpB P C N ops Q (⟨some d, op, ty, ps, af, none⟩ :: rest) σ H := fun ρ I L hs =>
  .x (OpX.monoLe (h ρ I L hs) fun v J X hle ⟨hX, r, hr, hk⟩ => by subst hX; exact hk _ _ _ (hs.put hle hr (hs.heap.mono hle)))
theorem wpB.h {d : Nat} {op : Op} {ty : TypeId} {ps : String} {af : Array Edge}
    (h : OpH P C N ⟨some d, op, ty, ps, af, none⟩ σ H (fun r H' => wpB P C N ops Q rest ((d, r) :: σ) H')) :
    wpB P C N ops Q (⟨some d, op, ty, ps, af, none⟩ :: rest) σ H := fun ρ I L hs =>
  .s (OpS.mono' (h ρ I L hs) fun v J L' ⟨hle, r, H', hr, hH, hk⟩ => hk _ _ _ (hs.put hle hr hH))
theorem wpB.n {op : Op} {ty : TypeId} {ps : String} {af : Array Edge}
    (h : OpH P C N ⟨none, op, ty, ps, af, none⟩ σ H (fun _ H' => wpB P C N ops Q rest σ H')) :
    wpB P C N ops Q (⟨none, op, ty, ps, af, none⟩ :: rest) σ H := fun ρ I L hs =>
  .n (OpS.mono' (h ρ I L hs) fun v J L' ⟨hle, r, H', hr, hH, hk⟩ => hk _ _ _ ⟨(hs.mono hle).env, hH, hs.im0.trans hle⟩)
/-- A guarded operation: two cases. -/
theorem wpB.gs {d : Nat} {op : Op} {ty : TypeId} {ps : String} {af : Array Edge} {j : Nat} {want : Bool} (dj : Nat) (hj : (ops[j]?).bind (·.dst) = some dj) {b : Bool} (hb : EvA C σ H (.tmp dj) (.v b))
    (h : b = want → OpP P N C ⟨some d, op, ty, ps, af, none⟩ σ H (fun r => wpB P C N ops Q rest ((d, r) :: σ) H)) (hn : b = (!want) → wpB P C N ops Q rest ((d, .any) :: σ) H) :
    wpB P C N ops Q (⟨some d, op, ty, ps, af, some (j, want)⟩ :: rest) σ H := fun ρ I L hs => by
  have hbv := hb.bool hs
  by_cases e : b = want
  · refine .gt dj hj (by rw [← e]; exact hbv) (OpS.ofX (OpX.monoLe (h e ρ I L hs) fun v J X hle ⟨hX, r, hr, hk⟩ => ?_))
    subst hX
    exact hk _ _ _ (hs.put hle hr (hs.heap.mono hle))
  · have e' : b = !want := by cases b <;> cases want <;> simp_all
    exact .gf dj hj (by rw [← e']; exact hbv) (hn e' _ _ _ (hs.put (Le.refl I) trivial hs.heap))
/-- A guarded operation whose result is known: one case. -/
theorem wpB.go {d : Nat} {op : Op} {ty : TypeId} {ps : String} {af : Array Edge} {j : Nat} {want : Bool} (dj : Nat) (hj : (ops[j]?).bind (·.dst) = some dj) {b : Bool} (hb : EvA C σ H (.tmp dj) (.v b)) {r : AV}
    (h : b = want → OpP P N C ⟨some d, op, ty, ps, af, none⟩ σ H (fun r' => r' = r)) (k : wpB P C N ops Q rest ((d, .opt (b == want) r) :: σ) H) :
    wpB P C N ops Q (⟨some d, op, ty, ps, af, some (j, want)⟩ :: rest) σ H := fun ρ I L hs => by
  have hbv := hb.bool hs
  by_cases e : b = want
  · refine .gt dj hj (by rw [← e]; exact hbv) (OpS.ofX (OpX.monoLe (h e ρ I L hs) fun v J X hle ⟨hX, r', hr, hk⟩ => ?_))
    subst hX; subst hk
    exact k _ _ _ (hs.put hle (r := .opt (b == want) r') (fun _ => hr) (hs.heap.mono hle))
  · have e' : b = !want := by cases b <;> cases want <;> simp_all
    exact .gf dj hj (by rw [← e']; exact hbv) (k _ _ _ (hs.put (Le.refl I) (r := .opt (b == want) r) (fun hc => absurd (by simpa using hc) e) hs.heap))
theorem wpA.region {id : Nat} {l : List Oper} (hd : dstOk N l = true) (h : wpB P C N l.toArray Q l σ H) : wpA P C N (.region id l.toArray false) Q σ H := fun ρ I L hs => .region hd (h ρ I L hs)

/-! ### One chunk among the others -/
inductive Hole : AHeap → Bool × Blk → (Bool × Blk → AHeap) → Prop
  | z {B : Bool × Blk} {H : AHeap} : Hole (B :: H) B (fun X => X :: H)
  | s {A B : Bool × Blk} {H : AHeap} {F : Bool × Blk → AHeap} (h : Hole H B F) : Hole (A :: H) B (fun X => A :: F X)
theorem Hole.get {n0 : Nat} {I : Im} {H : AHeap} {B : Bool × Blk} {F : Bool × Blk → AHeap} (h : Hole H B F) : ∀ {L : Lh}, repH n0 I H L →
    ∃ i X, L[i]? = some X ∧ repB n0 I B X ∧ ∀ J B' X', Le I J → repB n0 J B' X' → repH n0 J (F B') (L.set i X') := by
  induction h with
  | z =>
    rintro _ ⟨X, R, rfl, h1, h2⟩
    exact ⟨0, X, rfl, h1, fun J B' X' hle hb => ⟨X', R, rfl, hb, h2.mono hle⟩⟩
  | s h ih =>
    rintro _ ⟨X, R, rfl, h1, h2⟩
    obtain ⟨i, Y, h3, h4, h5⟩ := ih h2
    exact ⟨i + 1, Y, by simpa using h3, h4, fun J B' X' hle hb => ⟨X, R.set i X', by simp, h1.mono hle, h5 J B' X' hle hb⟩⟩
theorem freeze_own {I J : Im} {E : TypeId} {α : Type} {r : Rep α} {w : Value} {l : List α} {X : List (Nat × Obj)} (h : (Blk.own E w l).brep I X) (hle : Le I J) (hp : ∀ p ∈ X, J p.1 = some p.2) : RepV J (.v l) w := by
  obtain ⟨xs, h1, h2⟩ := h
  obtain ⟨a, c, rfl⟩ := h1.shape
  exact ⟨_, ⟨_, rfl, xs, h1.sl hp, h2.mono hle⟩, rfl⟩
theorem freeze_ob {I J : Im} {α : Type} {r : Rep α} {w : Value} {x : α} {X : List (Nat × Obj)} (h : (Blk.ob w x).brep I X) (hle : Le I J) (hp : ∀ p ∈ X, J p.1 = some p.2) : RepV J (.p x) w := by
  obtain ⟨b, T, cs, rfl, rfl, h3⟩ := h
  exact ⟨b, 0, cs, rfl, Rep.mono hle h3, Cells.of_row (hp (b, row cs T) (List.mem_singleton.2 rfl))⟩
/-- The blocks that a call was lent lie in old memory. -/
def Ctx.Ok (C : Ctx) : Prop := ∀ k ∈ C.M, k < C.w0.heap.size
theorem frz_ok (hC : Ctx.Ok C) {B : Blk} {I : Im} {X : List (Nat × Obj)} (h : repB C.w0.heap.size I (true, B) X) : ∀ p ∈ X, p.1 ∈ C.M → False := fun p hp hm => by
  have := h.2 rfl p hp
  have := hC _ hm
  omega
theorem wpB.frzOwn (hC : Ctx.Ok C) {E : TypeId} {α : Type} {r : Rep α} {w : Value} {l : List α} {os : List Oper} {F : Bool × Blk → AHeap} (h : Hole H (true, .own E w l) F) (k : wpB P C N ops Q os σ (F (true, .fz w (.v l)))) : wpB P C N ops Q os σ H := fun ρ I L hs => by
  obtain ⟨i, X, h1, h2, h3⟩ := h.get hs.heap
  refine .freeze i h1 (frz_ok hC h2) fun J hle hp => k ρ J _ ⟨(hs.mono hle).env, h3 J _ [] hle ⟨⟨rfl, freeze_own h2.1 hle hp⟩, by simp⟩, hs.im0.trans hle⟩
theorem freeze_ownC {I J : Im} {E : TypeId} {α : Type} {r : Rep α} {b n : Nat} {l : List α} {X : List (Nat × Obj)} (h : (Blk.own E (slc b 0 n n) l).brep I X) (hn : l.length = n) (hle : Le I J) (hp : ∀ p ∈ X, J p.1 = some p.2) : RepV J (.vc l) (slc b 0 n n) := by
  obtain ⟨xs, h1, h2⟩ := h
  subst hn
  exact ⟨⟨_, rfl⟩, xs, h1.sl hp, h2.mono hle⟩
theorem wpB.frzC (hC : Ctx.Ok C) {E : TypeId} {α : Type} {r : Rep α} {b n : Nat} {l : List α} {os : List Oper} {F : Bool × Blk → AHeap} (h : Hole H (true, .own E (slc b 0 n n) l) F) (hn : l.length = n) (k : wpB P C N ops Q os σ (F (true, .fz (slc b 0 n n) (.vc l)))) : wpB P C N ops Q os σ H := fun ρ I L hs => by
  obtain ⟨i, X, h1, h2, h3⟩ := h.get hs.heap
  refine .freeze i h1 (frz_ok hC h2) fun J hle hp => k ρ J _ ⟨(hs.mono hle).env, h3 J _ [] hle ⟨⟨rfl, freeze_ownC h2.1 hn hle hp⟩, by simp⟩, hs.im0.trans hle⟩
theorem wpA.frzC (hC : Ctx.Ok C) {E : TypeId} {α : Type} {r : Rep α} {b n : Nat} {l : List α} {c : Code} {F : Bool × Blk → AHeap} (h : Hole H (true, .own E (slc b 0 n n) l) F) (hn : l.length = n) (k : wpA P C N c Q σ (F (true, .fz (slc b 0 n n) (.vc l)))) : wpA P C N c Q σ H := fun ρ I L hs => by
  obtain ⟨i, X, h1, h2, h3⟩ := h.get hs.heap
  refine .freeze i h1 (frz_ok hC h2) fun J hle hp => k ρ J _ ⟨(hs.mono hle).env, h3 J _ [] hle ⟨⟨rfl, freeze_ownC h2.1 hn hle hp⟩, by simp⟩, hs.im0.trans hle⟩
theorem wpB.frzOb (hC : Ctx.Ok C) {α : Type} {r : Rep α} {w : Value} {x : α} {os : List Oper} {F : Bool × Blk → AHeap} (h : Hole H (true, .ob w x) F) (k : wpB P C N ops Q os σ (F (true, .fz w (.p x)))) : wpB P C N ops Q os σ H := fun ρ I L hs => by
  obtain ⟨i, X, h1, h2, h3⟩ := h.get hs.heap
  refine .freeze i h1 (frz_ok hC h2) fun J hle hp => k ρ J _ ⟨(hs.mono hle).env, h3 J _ [] hle ⟨⟨rfl, freeze_ob h2.1 hle hp⟩, by simp⟩, hs.im0.trans hle⟩
theorem wpA.frzOwn (hC : Ctx.Ok C) {E : TypeId} {α : Type} {r : Rep α} {w : Value} {l : List α} {c : Code} {F : Bool × Blk → AHeap} (h : Hole H (true, .own E w l) F) (k : wpA P C N c Q σ (F (true, .fz w (.v l)))) : wpA P C N c Q σ H := fun ρ I L hs => by
  obtain ⟨i, X, h1, h2, h3⟩ := h.get hs.heap
  refine .freeze i h1 (frz_ok hC h2) fun J hle hp => k ρ J _ ⟨(hs.mono hle).env, h3 J _ [] hle ⟨⟨rfl, freeze_own h2.1 hle hp⟩, by simp⟩, hs.im0.trans hle⟩
theorem wpA.frzOb (hC : Ctx.Ok C) {α : Type} {r : Rep α} {w : Value} {x : α} {c : Code} {F : Bool × Blk → AHeap} (h : Hole H (true, .ob w x) F) (k : wpA P C N c Q σ (F (true, .fz w (.p x)))) : wpA P C N c Q σ H := fun ρ I L hs => by
  obtain ⟨i, X, h1, h2, h3⟩ := h.get hs.heap
  refine .freeze i h1 (frz_ok hC h2) fun J hle hp => k ρ J _ ⟨(hs.mono hle).env, h3 J _ [] hle ⟨⟨rfl, freeze_ob h2.1 hle hp⟩, by simp⟩, hs.im0.trans hle⟩
/-- A slot that holds the name of frozen memory holds what it says. -/
theorem RSt.as {C : Ctx} {I : Im} {L : Lh} {ρ : Env} (t : Nat) {w : Value} {a : AV} {g : Bool} {F : Bool × Blk → AHeap} (ht : lookA σ t = some (.raw w)) (h : Hole H (g, .fz w a) F) (hs : RSt C I L σ H ρ) : RSt C I L ((t, a) :: σ) H ρ :=
  ⟨fun s b hb => by
    rw [lookA_cons] at hb
    by_cases e : t = s
    · subst e; simp at hb; subst hb
      obtain ⟨u, h1, rfl⟩ := hs.env t _ ht
      obtain ⟨i, X, h2, h3, _⟩ := h.get hs.heap
      exact ⟨_, h1, h3.1.2⟩
    · rw [if_neg e] at hb; exact hs.env s b hb, hs.heap, hs.im0⟩
theorem wpB.as (t : Nat) {w : Value} {a : AV} {g : Bool} {F : Bool × Blk → AHeap} {os : List Oper} (ht : lookA σ t = some (.raw w)) (h : Hole H (g, .fz w a) F) (k : wpB P C N ops Q os ((t, a) :: σ) H) : wpB P C N ops Q os σ H :=
  fun ρ I L hs => k ρ I L (hs.as t ht h)
theorem wpA.as (t : Nat) {w : Value} {a : AV} {g : Bool} {F : Bool × Blk → AHeap} {c : Code} (ht : lookA σ t = some (.raw w)) (h : Hole H (g, .fz w a) F) (k : wpA P C N c Q ((t, a) :: σ) H) : wpA P C N c Q σ H :=
  fun ρ I L hs => k ρ I L (hs.as t ht h)
theorem RSt.asP {C : Ctx} {I : Im} {L : Lh} {ρ : Env} (t : Nat) {α : Type} {r : Rep α} {b : Nat} {a : AV} {g : Bool} {F : Bool × Blk → AHeap} (ht : lookA σ t = some (.ln (ptr b 0) (Lens.id (α := α)))) (h : Hole H (g, .fz (ptr b 0) a) F) (hs : RSt C I L σ H ρ) : RSt C I L ((t, a) :: σ) H ρ :=
  ⟨fun s c hb => by
    rw [lookA_cons] at hb
    by_cases e : t = s
    · subst e; simp at hb; subst hb
      obtain ⟨u, h1, b', hb', rfl⟩ := hs.env t _ ht
      cases hb'
      obtain ⟨i, X, h2, h3, _⟩ := h.get hs.heap
      exact ⟨_, h1, h3.1.2⟩
    · rw [if_neg e] at hb; exact hs.env s c hb, hs.heap, hs.im0⟩
theorem wpB.asP (t : Nat) {α : Type} {r : Rep α} {b : Nat} {a : AV} {g : Bool} {F : Bool × Blk → AHeap} {os : List Oper} (ht : lookA σ t = some (.ln (ptr b 0) (Lens.id (α := α)))) (h : Hole H (g, .fz (ptr b 0) a) F) (k : wpB P C N ops Q os ((t, a) :: σ) H) : wpB P C N ops Q os σ H :=
  fun ρ I L hs => k ρ I L (hs.asP t ht h)
theorem wpA.asP (t : Nat) {α : Type} {r : Rep α} {b : Nat} {a : AV} {g : Bool} {F : Bool × Blk → AHeap} {c : Code} (ht : lookA σ t = some (.ln (ptr b 0) (Lens.id (α := α)))) (h : Hole H (g, .fz (ptr b 0) a) F) (k : wpA P C N c Q ((t, a) :: σ) H) : wpA P C N c Q σ H :=
  fun ρ I L hs => k ρ I L (hs.asP t ht h)
theorem RSt.asS {C : Ctx} {I : Im} {L : Lh} {ρ : Env} (t : Nat) {α β : Type} {n : Nat} {r : Rep α} {s : Rep β} {b : Nat} {l : Lens α (Arr n β)} {x : α} {g : Bool} {F : Bool × Blk → AHeap} (ht : lookA σ t = some (.sv (ptr b 0) l)) (h : Hole H (g, .fz (ptr b 0) (.p x)) F) (hn : n ≤ 9223372036854775807) (hs : RSt C I L σ H ρ) :
    RSt C I L ((t, .v (l.get x).l) :: σ) H ρ :=
  ⟨fun q c hb => by
    rw [lookA_cons] at hb
    by_cases e : t = q
    · subst e; simp at hb; subst hb
      obtain ⟨u, h1, b', hb', rfl⟩ := hs.env t _ ht
      cases hb'
      obtain ⟨i, X, h2, h3, _⟩ := h.get hs.heap
      obtain ⟨b2, o2, cs, e2, h4, h5⟩ := h3.1.2
      cases e2
      have hg := l.gets h4
      refine ⟨_, h1, _, ⟨_, rfl, segGet cs l.off (n * Rep.size β), ?_, hg⟩, rfl⟩
      have hll := Rep.len hg
      have := Sl.of_cells (s := Rep.size β) (n := n) (c := n) (b := b) (o := 0 + l.off) (xs := segGet cs l.off (n * Rep.size β)) (h5.sub l.off (fun i v hv => by
        simp only [segGet, List.getElem?_take, List.getElem?_drop] at hv
        split at hv
        · exact hv
        · cases hv)) hll (Nat.le_refl _) (by unfold maxLen; omega)
      rw [(l.get x).h]
      simpa using this
    · rw [if_neg e] at hb; exact hs.env q c hb, hs.heap, hs.im0⟩
theorem wpB.asS (t : Nat) {α β : Type} {n : Nat} {r : Rep α} {s : Rep β} {b : Nat} {l : Lens α (Arr n β)} {x : α} {g : Bool} {F : Bool × Blk → AHeap} {os : List Oper} (ht : lookA σ t = some (.sv (ptr b 0) l)) (h : Hole H (g, .fz (ptr b 0) (.p x)) F) (hn : n ≤ 9223372036854775807)
    (k : wpB P C N ops Q os ((t, .v (l.get x).l) :: σ) H) : wpB P C N ops Q os σ H := fun ρ I L hs => k ρ I L (hs.asS t ht h hn)
theorem wpA.asS (t : Nat) {α β : Type} {n : Nat} {r : Rep α} {s : Rep β} {b : Nat} {l : Lens α (Arr n β)} {x : α} {g : Bool} {F : Bool × Blk → AHeap} {c : Code} (ht : lookA σ t = some (.sv (ptr b 0) l)) (h : Hole H (g, .fz (ptr b 0) (.p x)) F) (hn : n ≤ 9223372036854775807)
    (k : wpA P C N c Q ((t, .v (l.get x).l) :: σ) H) : wpA P C N c Q σ H := fun ρ I L hs => k ρ I L (hs.asS t ht h hn)
/-- An integer in a slot is in its range. -/
theorem wpA.range (t : Nat) {n : Int} {c : Code} (ht : lookA σ t = some (.v n)) (k : -9223372036854775808 ≤ n → n ≤ 9223372036854775807 → wpA P C N c Q σ H) : wpA P C N c Q σ H :=
  fun ρ I L hs => by obtain ⟨_, h1, h2⟩ := EvA.int (.t ht) hs; exact k h1 h2 ρ I L hs
theorem wpA.lenLe (t : Nat) {α : Type} {r : Rep α} {l : List α} {c : Code} (ht : lookA σ t = some (.v l)) (k : l.length ≤ 9223372036854775807 → wpA P C N c Q σ H) : wpA P C N c Q σ H :=
  fun ρ I L hs => by
    obtain ⟨u, _, xs, ⟨a, c, _, _, h1, h2, _⟩, _⟩ := EvA.sl (.t ht) hs
    exact k (by unfold maxLen at h2; omega) ρ I L hs
theorem wpA.strLe (t : Nat) {s : Str} {c : Code} (ht : lookA σ t = some (.v s)) (k : s.l.length ≤ 9223372036854775807 → wpA P C N c Q σ H) : wpA P C N c Q σ H :=
  fun ρ I L hs => k (EvA.strLe (.t ht) hs) ρ I L hs
theorem wpB.lenLe (t : Nat) {α : Type} {r : Rep α} {l : List α} {os : List Oper} (ht : lookA σ t = some (.v l)) (k : l.length ≤ 9223372036854775807 → wpB P C N ops Q os σ H) : wpB P C N ops Q os σ H :=
  fun ρ I L hs => by
    obtain ⟨u, _, xs, ⟨a, c, _, _, h1, h2, _⟩, _⟩ := EvA.sl (.t ht) hs
    exact k (by unfold maxLen at h2; omega) ρ I L hs
theorem wpB.strLe (t : Nat) {s : Str} {os : List Oper} (ht : lookA σ t = some (.v s)) (k : s.l.length ≤ 9223372036854775807 → wpB P C N ops Q os σ H) : wpB P C N ops Q os σ H :=
  fun ρ I L hs => k (EvA.strLe (.t ht) hs) ρ I L hs
end opers

/-! ### Functions -/
/-- What is known of the package's variables. -/
structure Gl where
  p : Im → Prop
  mono : ∀ {I J}, Le I J → p I → p J
def Gl.no : Gl := ⟨fun _ => True, fun _ h => h⟩
def RepVs (I : Im) : List AV → List Value → Prop
  | [], vs => vs = []
  | a :: as, vs => ∃ v r, vs = v :: r ∧ RepV I a v ∧ RepVs I as r
theorem RepVs.mono {I J : Im} (hle : Le I J) : ∀ {as : List AV} {vs : List Value}, RepVs I as vs → RepVs J as vs
  | [], _, h => h
  | a :: as, _, h => by obtain ⟨v, r, h1, h2, h3⟩ := h; exact ⟨v, r, h1, h2.mono hle, h3.mono hle⟩
theorem RepVs.len {I : Im} : ∀ {as : List AV} {vs : List Value}, RepVs I as vs → vs.length = as.length
  | [], _, h => by simp [RepVs] at h; simp [h]
  | a :: as, _, h => by obtain ⟨v, r, rfl, _, h3⟩ := h; simp [h3.len]
def argA : List AV → Nat → AEnv
  | [], _ => []
  | a :: r, k => (k, a) :: argA r (k + 1)
theorem RepVs.env {I : Im} : ∀ {as : List AV} {vs : List Value} (k : Nat), RepVs I as vs → ∀ t a, lookA (argA as k) t = some a → ∃ u, Fl.look (argEnv vs k) t = some u ∧ RepV I a u
  | [], _, k, h, t, a, ht => by simp [argA, lookA] at ht
  | a :: as, _, k, h, t, b, ht => by
    obtain ⟨v, r, rfl, h2, h3⟩ := h
    rw [argA, lookA_cons] at ht
    rw [argEnv, Fl.look_cons]
    by_cases e : k = t
    · rw [if_pos e] at ht ⊢; cases ht; exact ⟨v, rfl, h2⟩
    · rw [if_neg e] at ht ⊢; exact h3.env (k + 1) t b ht
def FunA (G : Gl) (P : Program) (f : FuncId) (as : List AV) (post : AV → Prop) : Prop := ∀ I vs, G.p I → RepVs I as vs → Fun P f vs.toArray I (fun v J => ∃ r, RepV J r v ∧ post r)
def repK (I : Im) : List Blk → Lh → Prop
  | [], L => L = []
  | B :: H, L => ∃ X R, L = X :: R ∧ B.brep I X ∧ repK I H R
def FunH (G : Gl) (P : Program) (f : FuncId) (as : List AV) (Hs : List Blk) (post : AV → List Blk → Prop) : Prop :=
  ∀ I L vs, G.p I → RepVs I as vs → repK I Hs L → FunM P f vs.toArray I L (fun v J L' => ∃ r Hs', RepV J r v ∧ repK J Hs' L' ∧ post r Hs')
theorem repK.toH {n0 : Nat} {I : Im} : ∀ {Hs : List Blk} {L : Lh}, repK I Hs L → repH n0 I (Hs.map (fun B => (false, B))) L
  | [], _, h => h
  | B :: Hs, _, h => by obtain ⟨X, R, h1, h2, h3⟩ := h; exact ⟨X, R, h1, ⟨h2, fun e => by cases e⟩, h3.toH⟩
theorem repK.toT {n0 : Nat} {I : Im} : ∀ {Hs : List Blk} {L : Lh}, repK I Hs L → (∀ p ∈ L.flatten, n0 ≤ p.1) → repH n0 I (Hs.map (fun B => (true, B))) L
  | [], _, h, _ => h
  | B :: Hs, _, h, hp => by
    obtain ⟨X, R, rfl, h2, h3⟩ := h
    exact ⟨X, R, rfl, ⟨h2, fun _ p h => hp p (by simp [h])⟩, h3.toT (fun p h => hp p (by simp only [List.flatten_cons, List.mem_append]; exact .inr h))⟩
theorem repH.toK {n0 : Nat} {I : Im} : ∀ {H : AHeap} {L : Lh}, repH n0 I H L → repK I (H.map Prod.snd) L
  | [], _, h => h
  | B :: Hs, _, h => by obtain ⟨X, R, h1, h2, h3⟩ := h; exact ⟨X, R, h1, h2.1, h3.toK⟩
def FinA (P : Program) (fn : Func) (C : Ctx) (σ : AEnv) (H : AHeap) (r : AV) : Prop := ∀ ρ I L, RSt C I L σ H ρ → ∃ v, Fin P fn ρ I L v ∧ RepV I r v
def endA (P : Program) (fn : Func) (C : Ctx) (post : AV → AHeap → Prop) : Exit → AEnv → AHeap → Prop
  | .normal, σ, H | .ret, σ, H => ∃ r, FinA P fn C σ H r ∧ post r H
  | _, _, _ => False
theorem endA.q {P : Program} {fn : Func} {C : Ctx} {post : AV → AHeap → Prop} {e : Exit} {ρ : Env} {I : Im} {L : Lh} (h : qA C (endA P fn C post) e ρ I L) :
    endQ P fn (fun v J L' => ∃ r H, RepV J r v ∧ repH C.w0.heap.size J H L' ∧ post r H) e ρ I L := by
  obtain ⟨σ, H, h1, h2⟩ := h
  cases e with
  | normal | ret =>
    obtain ⟨r, h3, h4⟩ := h2
    obtain ⟨v, h5, h6⟩ := h3 ρ I L h1
    exact ⟨v, h5, r, H, h6, h1.heap, h4⟩
  | _ => exact h2.elim
theorem FunA.intro {G : Gl} {P : Program} {f : FuncId} {fn : Func} {c : Code} {as : List AV} {post : AV → Prop} (hf : P.funcs[f]? = some fn) (hb : fn.body = some c) (hn : (fn.name == "runtime.NumGoroutine") = false)
    (N : Nat) (hN : fn.ntmps = N) (hl : Nat.ble as.length N = true) (σ : AEnv) (hσ : argA as 0 = σ)
    (h : ∀ C : Ctx, Ctx.Ok C → G.p C.I0 → wpA P C N c (endA P fn C (fun r _ => post r)) σ []) : FunA G P f as post := fun I vs hG hvs =>
  ⟨⟨fn, hf, hn, by simp [hb]⟩, fun w hm => calls_body hf hb N hN (by rw [hvs.len]; exact hl) hm (M := []) (by simp)
    ((h ⟨w, [], I⟩ (fun k hk => by cases hk) hG (argEnv vs 0) I [] ⟨by rw [← hσ]; exact hvs.env 0, rfl, Le.refl I⟩).mono fun e ρ J L hq => endA.q hq)
    fun v J L' w' hs hp => by
      obtain ⟨r, H, h1, h2, h3⟩ := hp
      exact ⟨v, J, rfl, hs.chg, hs.im0, fun b h0 h1 => hs.new b h0 h1, hs.mem.drop, r, h1, h3⟩⟩
theorem FunH.intro {G : Gl} {P : Program} {f : FuncId} {fn : Func} {c : Code} {as : List AV} {Hs : List Blk} {post : AV → List Blk → Prop} (hf : P.funcs[f]? = some fn) (hb : fn.body = some c) (hn : (fn.name == "runtime.NumGoroutine") = false)
    (N : Nat) (hN : fn.ntmps = N) (hl : Nat.ble as.length N = true) (σ : AEnv) (hσ : argA as 0 = σ) (H0 : AHeap) (hH : Hs.map (fun B => (false, B)) = H0)
    (h : ∀ C : Ctx, Ctx.Ok C → G.p C.I0 → wpA P C N c (endA P fn C (fun r H => post r (H.map Prod.snd))) σ H0) : FunH G P f as Hs post := fun I L vs hG hvs hL =>
  ⟨⟨fn, hf, hn, by simp [hb]⟩, fun w hm => calls_body hf hb N hN (by rw [hvs.len]; exact hl) hm (M := L.flatten.map Prod.fst) (fun p hp => List.mem_map_of_mem hp)
    ((h ⟨w, L.flatten.map Prod.fst, I⟩ (fun k hk => by
        obtain ⟨p, hp, rfl⟩ := List.mem_map.1 hk
        exact lt_of_get (hm.loc p hp)) hG (argEnv vs 0) I L ⟨by rw [← hσ]; exact hvs.env 0, by rw [← hH]; exact hL.toH, Le.refl I⟩).mono fun e ρ J L hq => endA.q hq)
    fun v J L' w' hs hp => by
      obtain ⟨r, H, h1, h2, h3⟩ := hp
      exact ⟨v, J, L', rfl, hs.chg, hs.im0, fun b h0 h1 => hs.new b h0 h1, hs.mem, hs.own, r, _, h1, h2.toK, h3⟩⟩
theorem FunA.mono {G : Gl} {P : Program} {f : FuncId} {as : List AV} {post post' : AV → Prop} (h : FunA G P f as post) (hp : ∀ r, post r → post' r) : FunA G P f as post' := fun I vs hG hvs =>
  (h I vs hG hvs).mono fun v J hle ⟨r, h1, h2⟩ => ⟨r, h1, hp r h2⟩

theorem EvA.glob {C : Ctx} {G : Gl} {σ : AEnv} {H : AHeap} {g : Nat} {a : AV} (hG : G.p C.I0) (h : ∀ I, G.p I → RepV I a (ptr g 0)) : EvA C σ H (.global g) a := fun ρ I L hs => ⟨_, rfl, h I (G.mono hs.im0 hG)⟩
/-! ### Calls -/
def EvAs (C : Ctx) (σ : AEnv) (H : AHeap) : List Operand → List AV → Prop
  | [], as => as = []
  | x :: xs, as => ∃ a r, as = a :: r ∧ EvA C σ H x a ∧ EvAs C σ H xs r
theorem EvAs.nil {C : Ctx} {σ : AEnv} {H : AHeap} : EvAs C σ H [] [] := rfl
theorem EvAs.cons {C : Ctx} {σ : AEnv} {H : AHeap} {x : Operand} {a : AV} {xs : List Operand} {as : List AV} (h : EvA C σ H x a) (k : EvAs C σ H xs as) : EvAs C σ H (x :: xs) (a :: as) := ⟨a, as, rfl, h, k⟩
theorem EvAs.get {C : Ctx} {σ : AEnv} {H : AHeap} {ρ : Env} {I : Im} {L : Lh} (hs : RSt C I L σ H ρ) : ∀ {xs : List Operand} {as : List AV}, EvAs C σ H xs as → ∃ vs, evL ρ xs = some vs ∧ RepVs I as vs
  | [], _, h => by simp [EvAs] at h; subst h; exact ⟨[], rfl, rfl⟩
  | x :: xs, _, h => by
    obtain ⟨a, r, rfl, h1, h2⟩ := h
    obtain ⟨u, h3, h4⟩ := h1 ρ I L hs
    obtain ⟨vs, h5, h6⟩ := EvAs.get hs h2
    exact ⟨u :: vs, by simp [evL, h3, h5], u, vs, rfl, h4, h6⟩
/-- An operand's value while the call's own memory is lent. -/
def EvL (C : Ctx) (σ : AEnv) (H : AHeap) (x : Operand) (a : AV) : Prop := ∀ ρ I L, RSt C I L σ H ρ → ∃ u, ev ρ x = some u ∧ ∀ J, Le I J → (∀ p ∈ L.flatten, J p.1 = some p.2) → RepV J a u
theorem EvL.e {C : Ctx} {σ : AEnv} {H : AHeap} {x : Operand} {a : AV} (h : EvA C σ H x a) : EvL C σ H x a := fun ρ I L hs => by
  obtain ⟨u, h1, h2⟩ := h ρ I L hs
  exact ⟨u, h1, fun J hle _ => h2.mono hle⟩
theorem EvL.own {C : Ctx} {σ : AEnv} {H : AHeap} {t : Nat} {E : TypeId} {α : Type} {r : Rep α} {w : Value} {l : List α} {g : Bool} {F : Bool × Blk → AHeap} (ht : lookA σ t = some (.raw w)) (h : Hole H (g, .own E w l) F) : EvL C σ H (.tmp t) (.v l) := fun ρ I L hs => by
  obtain ⟨u, h1, rfl⟩ := hs.env t _ ht
  obtain ⟨i, X, h2, h3, _⟩ := h.get hs.heap
  exact ⟨_, h1, fun J hle hp => freeze_own h3.1 hle (fun p hpx => hp p (mem_chunk h2 hpx))⟩
theorem EvL.fz {C : Ctx} {σ : AEnv} {H : AHeap} {t : Nat} {w : Value} {a : AV} {g : Bool} {F : Bool × Blk → AHeap} (ht : lookA σ t = some (.raw w)) (h : Hole H (g, .fz w a) F) : EvL C σ H (.tmp t) a := fun ρ I L hs => by
  obtain ⟨u, h1, rfl⟩ := hs.env t _ ht
  obtain ⟨i, X, h2, h3, _⟩ := h.get hs.heap
  exact ⟨_, h1, fun J hle hp => h3.1.2.mono hle⟩
def EvLs (C : Ctx) (σ : AEnv) (H : AHeap) : List Operand → List AV → Prop
  | [], as => as = []
  | x :: xs, as => ∃ a r, as = a :: r ∧ EvL C σ H x a ∧ EvLs C σ H xs r
theorem EvLs.nil {C : Ctx} {σ : AEnv} {H : AHeap} : EvLs C σ H [] [] := rfl
theorem EvLs.cons {C : Ctx} {σ : AEnv} {H : AHeap} {x : Operand} {a : AV} {xs : List Operand} {as : List AV} (h : EvL C σ H x a) (k : EvLs C σ H xs as) : EvLs C σ H (x :: xs) (a :: as) := ⟨a, as, rfl, h, k⟩
theorem EvLs.get {C : Ctx} {σ : AEnv} {H : AHeap} {ρ : Env} {I : Im} {L : Lh} (hs : RSt C I L σ H ρ) : ∀ {xs : List Operand} {as : List AV}, EvLs C σ H xs as → ∃ vs, evL ρ xs = some vs ∧ ∀ J, Le I J → (∀ p ∈ L.flatten, J p.1 = some p.2) → RepVs J as vs
  | [], _, h => by simp [EvLs] at h; subst h; exact ⟨[], rfl, fun _ _ _ => rfl⟩
  | x :: xs, _, h => by
    obtain ⟨a, r, rfl, h1, h2⟩ := h
    obtain ⟨u, h3, h4⟩ := h1 ρ I L hs
    obtain ⟨vs, h5, h6⟩ := EvLs.get hs h2
    exact ⟨u :: vs, by simp [evL, h3, h5], fun J hle hp => ⟨u, vs, rfl, h4 J hle hp, h6 J hle hp⟩⟩
/-- A result that holds no memory. -/
def FlatV (r : AV) : Prop := ∀ I J u, RepV I r u → RepV J r u
class RepF (α : Type) [Rep α] : Prop where
  any : ∀ {I J : Im} {x : α} {cs}, rep I x cs → rep J x cs
instance : RepF Int := ⟨fun h => h⟩
instance : RepF UInt8 := ⟨fun h => h⟩
instance : RepF UInt16 := ⟨fun h => h⟩
instance : RepF UInt32 := ⟨fun h => h⟩
instance : RepF UInt64 := ⟨fun h => h⟩
instance : RepF Bool := ⟨fun h => h⟩
instance : RepF Str := ⟨fun h => h⟩
instance : RepF Unit := ⟨fun h => h⟩
theorem repL.any {α : Type} [Rep α] [RepF α] {I J : Im} : ∀ {l : List α} {cs : List Value}, repL I l cs → repL J l cs
  | [], _, h => h
  | x :: l, _, h => by obtain ⟨c, r, h1, h2, h3⟩ := h; exact ⟨c, r, h1, RepF.any h2, repL.any h3⟩
instance {n : Nat} {α : Type} [Rep α] [RepF α] : RepF (Arr n α) := ⟨fun h => repL.any h⟩
instance {α β : Type} [Rep α] [Rep β] [RepF α] [RepF β] : RepF (α × β) := ⟨fun h => by obtain ⟨c, r, e, h1, h2⟩ := h; exact ⟨c, r, e, RepF.any h1, RepF.any h2⟩⟩
theorem FlatV.v {α : Type} [Rep α] [RepF α] {x : α} : FlatV (.v x) := fun I J u h => by obtain ⟨cs, h1, h2⟩ := h; exact ⟨cs, RepF.any h1, h2⟩
theorem FlatV.t2 {a b : AV} (h : FlatV a) (k : FlatV b) : FlatV (.t2 a b) := fun I J u hu => by obtain ⟨x, y, e, h1, h2⟩ := hu; exact ⟨x, y, e, h _ _ _ h1, k _ _ _ h2⟩
theorem FlatV.t3 {a b c : AV} (h : FlatV a) (k : FlatV b) (l : FlatV c) : FlatV (.t3 a b c) := fun I J u hu => by obtain ⟨x, y, z, e, h1, h2, h3⟩ := hu; exact ⟨x, y, z, e, h _ _ _ h1, k _ _ _ h2, l _ _ _ h3⟩
section calls
variable {P : Program} {C : Ctx} {N : Nat} {σ : AEnv} {H : AHeap} {G : Gl} (hG : G.p C.I0) {f : FuncId} {d : Option Nat} {args : Array Operand} {tys : Array TypeId} {ty : TypeId} {ps : String} {af : Array Edge} {g : Option (Nat × Bool)} {as : List AV}
include hG
theorem OpP.call {post : AV → Prop} {K : AV → Prop} (h : FunA G P f as post) (hv : EvAs C σ H args.toList as) (k : ∀ r, post r → K r) : OpP P N C ⟨d, .call ⟨.value (.func f), args, tys⟩, ty, ps, af, g⟩ σ H K := fun ρ I L hs => by
  obtain ⟨vs, h1, h2⟩ := hv.get hs
  exact .call rfl h1 (h I vs (G.mono hs.im0 hG) h2) fun v J hle ⟨r, h3, h4⟩ => ⟨rfl, r, h3, k r h4⟩
theorem OpP.call1 {r : AV} {K : AV → Prop} (h : FunA G P f as (fun x => x = r)) (hv : EvAs C σ H args.toList as) (k : K r) : OpP P N C ⟨d, .call ⟨.value (.func f), args, tys⟩, ty, ps, af, g⟩ σ H K :=
  .call hG h hv fun x e => e ▸ k
theorem OpP.lend {post : AV → Prop} {K : AV → Prop} (h : FunA G P f as post) (hv : EvLs C σ H args.toList as) (hf : ∀ r, post r → FlatV r) (k : ∀ r, post r → K r) : OpP P N C ⟨d, .call ⟨.value (.func f), args, tys⟩, ty, ps, af, g⟩ σ H K := fun ρ I L hs => by
  obtain ⟨vs, h1, h2⟩ := hv.get hs
  exact .lend (φ := fun v => ∃ r, RepV I r v ∧ post r) rfl h1 (fun J hle hp => (h J vs (G.mono (hs.im0.trans hle) hG) (h2 J hle hp)).mono fun v J' _ ⟨r, h3, h4⟩ => ⟨r, hf r h4 _ _ _ h3, h4⟩) fun v ⟨r, h3, h4⟩ => ⟨rfl, r, h3, k r h4⟩
theorem OpP.lend1 {r : AV} {K : AV → Prop} (h : FunA G P f as (fun x => x = r)) (hv : EvLs C σ H args.toList as) (hf : FlatV r) (k : K r) : OpP P N C ⟨d, .call ⟨.value (.func f), args, tys⟩, ty, ps, af, g⟩ σ H K :=
  .lend hG h hv (fun x e => e ▸ hf) fun x e => e ▸ k
omit hG in
theorem OpS.callM' {ρ : Env} {I : Im} {L : Lh} {F : Operand} {vs : List Value} {post : Value → Im → Lh → Prop} {K : Value → Im → Lh → Prop} (i : Nat) {c : List (Nat × Obj)} (hc : L[i]? = some c) (hF : ev ρ F = some (.func (.func f) #[] #[])) (hv : evL ρ args.toList = some vs)
    (h : FunM P f vs.toArray I [c] post) (k : ∀ v J c' (w : World), Le I J → post v J [c'] → (∀ p ∈ c', w.heap.size ≤ p.1 ∨ p.1 ∈ c.map Prod.fst) → C.w0.heap.size ≤ w.heap.size → K v J (L.set i c')) (hshape : ∀ v J L', post v J L' → ∃ c', L' = [c']) :
    OpS P C N ⟨d, .call ⟨.value F, args, tys⟩, ty, ps, af, g⟩ ρ I L K := fun a w ha hs => by
  have hm := hs.mem
  have hsplit := fun c' => split_at L i c hc c'
  have hmc : Mem I [c] w := ⟨hm.im, fun p hp => hm.loc p (mem_chunk hc (by simpa using hp)), fun p hp => hm.sep p (mem_chunk hc (by simpa using hp)), by simpa using nodup_chunk hm.nodup hc⟩
  rw [run_callOp h.ok rfl (ha.ev hF) (ha.evL hv)]
  refine (h.run w hmc).mono ?_
  rintro e w' ⟨v, J, L', rfl, hch, hle, hn, hm', hown, hp⟩
  obtain ⟨c', rfl⟩ := hshape v J L' hp
  have hlt : ∀ p ∈ L.flatten, p.1 < w.heap.size := fun p hp => lt_of_get (hm.loc p hp)
  have hnd := hm.nodup
  rw [(hsplit c').1] at hnd
  -- the blocks of the other chunks
  have hoth : ∀ p, p ∈ (L.take i).flatten ∨ p ∈ (L.drop (i + 1)).flatten → p ∈ L.flatten ∧ p.1 ∉ c.map Prod.fst := by
    intro p hp
    rw [(hsplit c').1]
    simp only [List.map_append, List.nodup_append] at hnd
    rcases hp with hp | hp
    · exact ⟨by simp [hp], fun hx => hnd.2.2 p.1 (List.mem_map_of_mem hp) p.1 (by simp only [List.mem_append]; exact .inl hx) rfl⟩
    · exact ⟨by simp [hp], fun hx => hnd.2.1.2.2 p.1 hx p.1 (List.mem_map_of_mem hp) rfl⟩
  have hcas : ∀ p ∈ (L.set i c').flatten, p ∈ c' ∨ (p ∈ (L.take i).flatten ∨ p ∈ (L.drop (i + 1)).flatten) := by
    intro p hp
    rw [(hsplit c').2] at hp
    simp only [List.mem_append] at hp
    rcases hp with hp | hp | hp
    · exact .inr (.inl hp)
    · exact .inl hp
    · exact .inr (.inr hp)
  have hcM : ∀ k ∈ ([c] : Lh).flatten.map Prod.fst, k < C.w0.heap.size → k ∈ C.M := by
    intro k hk hlt0
    simp only [List.flatten_cons, List.flatten_nil, List.append_nil, List.mem_map] at hk
    obtain ⟨p, hp, rfl⟩ := hk
    rcases hs.own p (mem_chunk hc hp) with h1 | h1
    · omega
    · exact h1
  have hchg : Chg C.M C.w0 w' := by
    refine ⟨hch.os.trans hs.chg.os, hch.tape.trans hs.chg.tape, hch.output.trans hs.chg.output, Nat.le_trans hs.chg.size hch.size, fun k hk hkm => ?_⟩
    rw [hch.block k (Nat.lt_of_lt_of_le hk hs.chg.size) (fun hx => hkm (hcM k hx hk))]
    exact hs.chg.block k hk hkm
  refine ⟨v, rfl, J, L.set i c', ⟨⟨hm'.im, fun p hp => ?_, fun p hp => ?_, ?_⟩, hchg, fun p hp => ?_, hs.im0.trans hle, fun b h0 h1 => ?_⟩, k v J c' w hle hp (fun p hp => by simpa using hown p (by simpa using hp)) hs.chg.size⟩
  · rcases hcas p hp with h1 | h1
    · exact hm'.loc p (by simpa using h1)
    · obtain ⟨h2, h3⟩ := hoth p h1
      exact (hch.block p.1 (hlt p h2) (by simpa using h3)).trans (hm.loc p h2)
  · rcases hcas p hp with h1 | h1
    · exact hm'.sep p (by simpa using h1)
    · obtain ⟨h2, h3⟩ := hoth p h1
      cases hj : J p.1 with
      | none => rfl
      | some o => exact absurd (hn p.1 (hm.sep p h2) (by simp [hj])) (by have := hlt p h2; omega)
  · rw [(hsplit c').2]
    have hc'nd := hm'.nodup
    have hblk : ∀ p ∈ c', w.heap.size ≤ p.1 ∨ p.1 ∈ c.map Prod.fst := fun p hp => by
      have := hown p (by simpa using hp)
      simpa using this
    simp only [List.map_append, List.nodup_append] at hnd ⊢
    refine ⟨hnd.1, ⟨by simpa using hc'nd, hnd.2.1.2.1, ?_⟩, ?_⟩
    · rintro x hx y hy rfl
      obtain ⟨p, hp, rfl⟩ := List.mem_map.1 hx
      obtain ⟨q, hq, hqe⟩ := List.mem_map.1 hy
      obtain ⟨h2, h3⟩ := hoth q (.inr hq)
      rcases hblk p hp with h4 | h4
      · have := hlt q h2; omega
      · exact h3 (hqe ▸ h4)
    · rintro x hx y hy rfl
      obtain ⟨q, hq, rfl⟩ := List.mem_map.1 hx
      obtain ⟨h2, h3⟩ := hoth q (.inl hq)
      simp only [List.mem_append] at hy
      rcases hy with hy | hy
      · obtain ⟨p, hp, hpe⟩ := List.mem_map.1 hy
        rcases hblk p hp with h4 | h4
        · have := hlt q h2; omega
        · exact h3 (hpe ▸ h4)
      · exact hnd.2.2 q.1 hx q.1 (by simp only [List.mem_append]; exact .inr hy) rfl
  · rcases hcas p hp with h1 | h1
    · rcases hown p (by simpa using h1) with h2 | h2
      · exact .inl (Nat.le_trans hs.chg.size h2)
      · obtain ⟨q, hq, hqe⟩ := List.mem_map.1 h2
        rw [← hqe]
        exact hs.own q (mem_chunk hc (by simpa using hq))
    · exact hs.own p (hoth p h1).1
  · cases hi : I b with
    | none => exact Nat.le_trans hs.chg.size (hn b hi h1)
    | some o => exact hs.new b h0 (by simp [hi])
theorem OpH.callM {post : AV → List Blk → Prop} {K : AV → AHeap → Prop} {b : Bool} {B : Blk} {F : Bool × Blk → AHeap} (h : FunH G P f as [B] post) (hH : Hole H (b, B) F) (hv : EvAs C σ H args.toList as)
    (hshape : ∀ r Hs, post r Hs → ∃ B', Hs = [B']) (k : ∀ r B', post r [B'] → K r (F (b, B'))) : OpH P C N ⟨d, .call ⟨.value (.func f), args, tys⟩, ty, ps, af, g⟩ σ H K := fun ρ I L hs => by
  obtain ⟨vs, h1, h2⟩ := hv.get hs
  obtain ⟨i, X, h3, h4, h5⟩ := hH.get hs.heap
  refine OpS.callM' (post := fun v J L' => ∃ r Hs', RepV J r v ∧ repK J Hs' L' ∧ post r Hs') i h3 rfl h1 (h I [X] vs (G.mono hs.im0 hG) h2 ⟨X, [], rfl, h4.1, rfl⟩) ?_ ?_
  · intro v J c' w hle ⟨r, Hs', q1, q2, q3⟩ q4 hsz
    obtain ⟨B', rfl⟩ := hshape r Hs' q3
    obtain ⟨X', R, e, q5, q6⟩ := q2
    simp [repK] at q6
    subst q6
    cases e
    refine ⟨hle, r, _, q1, h5 J (b, B') c' hle ⟨q5, fun hb p hp => ?_⟩, k r B' q3⟩
    rcases q4 p hp with h6 | h6
    · exact Nat.le_trans hsz h6
    · obtain ⟨q, hq, hqe⟩ := List.mem_map.1 h6
      rw [← hqe]; exact h4.2 hb q hq
  · intro v J L' ⟨r, Hs', q1, q2, q3⟩
    obtain ⟨B', rfl⟩ := hshape r Hs' q3
    obtain ⟨X', R, e, q5, q6⟩ := q2
    exact ⟨X', by rw [e, q6]⟩
/-- A call that is lent nothing and may return memory of its own. -/
theorem OpH.call0 {post : AV → List Blk → Prop} {K : AV → AHeap → Prop} (h : FunH G P f as [] post) (hv : EvAs C σ H args.toList as) (k : ∀ r Hs, post r Hs → K r (Hs.map (fun B => (true, B)) ++ H)) :
    OpH P C N ⟨d, .call ⟨.value (.func f), args, tys⟩, ty, ps, af, g⟩ σ H K := fun ρ I L hs => by
  obtain ⟨vs, h1, h2⟩ := hv.get hs
  have hM := h I [] vs (G.mono hs.im0 hG) h2 rfl
  intro a w ha hst
  have hm := hst.mem
  rw [run_callOp hM.ok rfl (ha.ev (x := .func f) rfl) (ha.evL h1)]
  refine (hM.run w hm.drop).mono ?_
  rintro e w' ⟨v, J, L', rfl, hc, hle, hn, hm', hown, r, Hs', q1, q2, q3⟩
  have hlt : ∀ p ∈ L.flatten, p.1 < w.heap.size := fun p hp => lt_of_get (hm.loc p hp)
  have hnew : ∀ p ∈ L'.flatten, w.heap.size ≤ p.1 := fun p hp => by simpa using hown p hp
  have hmem : Mem J (L' ++ L) w' := by
    refine ⟨hm'.im, fun p hp => ?_, fun p hp => ?_, ?_⟩
    · simp only [List.flatten_append, List.mem_append] at hp
      rcases hp with hp | hp
      · exact hm'.loc p hp
      · exact (hc.block p.1 (hlt p hp) (by simp)).trans (hm.loc p hp)
    · simp only [List.flatten_append, List.mem_append] at hp
      rcases hp with hp | hp
      · exact hm'.sep p hp
      · cases hj : J p.1 with
        | none => rfl
        | some o => exact absurd (hn p.1 (hm.sep p hp) (by simp [hj])) (by have := hlt p hp; omega)
    · simp only [List.flatten_append, List.map_append]
      refine List.nodup_append.2 ⟨hm'.nodup, hm.nodup, ?_⟩
      rintro x hx y hy rfl
      obtain ⟨p, hp, rfl⟩ := List.mem_map.1 hx
      obtain ⟨q, hq, hqe⟩ := List.mem_map.1 hy
      have := hnew p hp
      have := hlt q hq
      omega
  refine ⟨v, rfl, J, L' ++ L, hst.step (by simpa using hc) hle hn hmem hnew, hle, r, _, q1, ?_, k r Hs' q3⟩
  exact (q2.toT (fun p hp => Nat.le_trans hst.chg.size (hnew p hp))).append (hs.heap.mono hle)
end calls
end Go.Ab
/- Regions that draw their order; results. -/
set_option linter.unusedVariables false
namespace Go.Ab
open Go.Fl Go.RowKit
open Rep (rep)
def lookR (acc : List (Nat × AV)) (j : Nat) : Option AV :=
  match acc with
  | [] => none
  | (i, S) :: r => bif Nat.beq i j then some S else lookR r j
/-- What an operation's operands hold: out of the region's operations, or as it was ahead of them. -/
def envOf (σ0 : AEnv) (acc : List (Nat × AV)) (s : List (Nat × Nat)) : List Nat → AEnv
  | [] => []
  | t :: ts =>
    match (match srcOf s t with | none => lookA σ0 t | some j => lookR acc j) with
    | some a => (t, a) :: envOf σ0 acc s ts
    | none => envOf σ0 acc s ts
def dutyA (P : Program) (N : Nat) (C : Ctx) (σ0 : AEnv) (H : AHeap) (acc : List (Nat × AV)) (o : Oper) (s : List (Nat × Nat)) (r : AV) : Prop :=
  match o.guard with
  | none => OpP P N C o (envOf σ0 acc s (opTmps o)) H (fun r' => r' = r)
  | some (g, want) => ∃ b c, lookR acc g = some (.v b) ∧ r = .opt (b == want) c ∧ (b = want → OpP P N C o (envOf σ0 acc s (opTmps o)) H (fun r' => r' = c))
def chainA (P : Program) (N : Nat) (C : Ctx) (σ0 : AEnv) (H : AHeap) (F : List (Nat × AV) → Prop) : List Oper → List (List (Nat × Nat)) → Nat → List (Nat × AV) → Prop
  | [], _, _, acc => F acc
  | o :: os, s :: ss, k, acc => ∃ r, dutyA P N C σ0 H acc o s r ∧ chainA P N C σ0 H F os ss (k + 1) ((k, r) :: acc)
  | _, [], _, _ => False
def finA (acc : List (Nat × AV)) : List Oper → Nat → AEnv → AEnv
  | o :: os, k, σ =>
    match o.dst, lookR acc k with
    | some d, some r => finA acc os (k + 1) ((d, r) :: σ)
    | _, _ => finA acc os (k + 1) σ
  | [], _, σ => σ
def specOf (r : AV) : Fl.Spec := .val (fun v J => RepV J r v) (fun v I J h hle => h.mono hle)
def accOf (acc : List (Nat × AV)) : List (Nat × Fl.Spec) := acc.map fun p => (p.1, specOf p.2)
theorem lookS_accOf : ∀ (acc : List (Nat × AV)) (j : Nat), lookS (accOf acc) j = (lookR acc j).map specOf
  | [], j => rfl
  | (i, r) :: acc, j => by
    simp only [accOf, List.map_cons, lookS, lookR]
    cases Nat.beq i j with
    | true => rfl
    | false => simpa [accOf] using lookS_accOf acc j
theorem bind_of {C : Ctx} {σ0 : AEnv} {H : AHeap} {acc : List (Nat × AV)} {s : List (Nat × Nat)} {ρ0 ρ : Env} {I J : Im} {L : Lh} (hs : RSt C I L σ0 H ρ0) (hle : Le I J) (G : Prop) : ∀ (ts : List Nat),
    ((∀ t a, lookA (envOf σ0 acc s ts) t = some a → ∃ u, Fl.look ρ t = some u ∧ RepV J a u) → G) → bindAll (lookS (accOf acc)) s ρ0 ρ J ts G
  | [], h => h (fun t a ht => by simp [envOf, lookA] at ht)
  | t :: ts, h => by
    simp only [bindAll]
    cases hsrc : srcOf s t with
    | none =>
      intro hlk
      refine bind_of hs hle G ts fun h2 => h fun t' a ht => ?_
      simp only [envOf, hsrc] at ht
      cases h0 : lookA σ0 t with
      | none => simp only [h0] at ht; exact h2 t' a ht
      | some b =>
        simp only [h0] at ht
        rw [lookA_cons] at ht
        by_cases e : t = t'
        · subst e; simp at ht; subst ht
          obtain ⟨u, h3, h4⟩ := hs.env t _ h0
          exact ⟨u, hlk.trans h3, h4.mono hle⟩
        · rw [if_neg e] at ht; exact h2 t' a ht
    | some j =>
      simp only [lookS_accOf]
      cases hj : lookR acc j with
      | none => simp
      | some r =>
        simp only [Option.map_some, specOf]
        intro v hv hr
        refine bind_of hs hle G ts fun h2 => h fun t' a ht => ?_
        simp only [envOf, hsrc, hj] at ht
        rw [lookA_cons] at ht
        by_cases e : t = t'
        · subst e; simp at ht; subst ht; exact ⟨v, hv, hr⟩
        · rw [if_neg e] at ht; exact h2 t' a ht
theorem duty_of {P : Program} {N : Nat} {C : Ctx} {ops : Array Oper} {σ0 : AEnv} {H : AHeap} {acc : List (Nat × AV)} {ρ0 : Env} {I : Im} {L : Lh} {o : Oper} {s : List (Nat × Nat)} {r : AV} (hs : RSt C I L σ0 H ρ0)
    (h : dutyA P N C σ0 H acc o s r) : duty P N ops (lookS (accOf acc)) ρ0 I L o s (specOf r) := by
  intro J hle ρ
  refine bind_of hs hle _ _ fun henv => ?_
  have hR : RSt C J L (envOf σ0 acc s (opTmps o)) H ρ := ⟨henv, hs.heap.mono hle, hs.im0.trans hle⟩
  unfold dutyA at h
  cases hg : o.guard with
  | none =>
    simp only [hg] at h
    exact OpX.monoLe (h ρ J L hR) fun v J' X _ ⟨h1, r', h2, h3⟩ => ⟨h1, h3 ▸ h2⟩
  | some p =>
    obtain ⟨g, want⟩ := p
    simp only [hg] at h
    obtain ⟨b, c, h1, rfl, h2⟩ := h
    intro v hv
    rw [lookS_accOf, h1] at hv
    simp only [Option.map_some, specOf, Fl.Spec.holds] at hv
    obtain ⟨cs, rfl, rfl⟩ := hv
    refine ⟨fun e => ?_, fun hne => ⟨?_, fun o e => by cases e⟩⟩
    · have e' : b = want := by simpa [asV, Rep.agg] using e
      exact OpX.monoLe (h2 e' ρ J L hR) fun v J' X _ ⟨h3, r', h4, h5⟩ => ⟨h3, fun _ => h5 ▸ h4⟩
    · have hb : b ≠ want := hne b rfl
      exact fun hc => absurd (by simpa using hc) hb
theorem finE_of {C : Ctx} {H : AHeap} {acc : List (Nat × AV)} {J : Im} {G : Env → Lh → Prop} : ∀ (os : List Oper) (k : Nat) (σ : AEnv) (ρ : Env) (L : Lh), RSt C J L σ H ρ →
    (∀ i o, os[i]? = some o → ∃ d r, o.dst = some d ∧ lookR acc (k + i) = some r) → (∀ ρ', RSt C J L (finA acc os k σ) H ρ' → G ρ' L) → finE J (lookS (accOf acc)) G os k ρ L
  | [], k, σ, ρ, L, hs, _, h => h ρ hs
  | o :: os, k, σ, ρ, L, hs, hd, h => by
    obtain ⟨d, r, h1, h2⟩ := hd 0 o rfl
    simp only [finE, h1, lookS_accOf]
    simp only [Nat.add_zero] at h2
    rw [h2]
    simp only [Option.map_some, specOf]
    intro v hv
    refine finE_of os (k + 1) ((d, r) :: σ) _ L (hs.put (Le.refl J) hv hs.heap) (fun i o' ho => ?_) (fun ρ' h' => h ρ' ?_)
    · obtain ⟨d', r', h3, h4⟩ := hd (i + 1) o' (by simpa using ho)
      exact ⟨d', r', h3, by rw [show k + 1 + i = k + (i + 1) by omega]; exact h4⟩
    · simpa only [finA, h1, h2] using h'
theorem chain_of {P : Program} {N : Nat} {C : Ctx} {ops : Array Oper} {σ0 : AEnv} {H : AHeap} {ρ0 : Env} {I : Im} {L : Lh} {F : List (Nat × AV) → Prop} {F' : List (Nat × Fl.Spec) → Prop} (hs : RSt C I L σ0 H ρ0) :
    ∀ (os : List Oper) (ss : List (List (Nat × Nat))) (k : Nat) (acc : List (Nat × AV)), (∀ i, i < k → (lookR acc i).isSome) → chainA P N C σ0 H F os ss k acc →
      (∀ acc', (∀ i, i < k + os.length → (lookR acc' i).isSome) → F acc' → F' (accOf acc')) → chain P N ops ρ0 I L F' os ss k (accOf acc)
  | [], ss, k, acc, hk, h, hF => by
    have hc : F acc := by cases ss <;> exact h
    cases ss <;> exact hF acc (by simpa using hk) hc
  | o :: os, [], k, acc, _, h, _ => h.elim
  | o :: os, s :: ss, k, acc, hk, h, hF => by
    obtain ⟨r, h1, h2⟩ := h
    refine ⟨specOf r, duty_of hs h1, chain_of hs os ss (k + 1) ((k, r) :: acc) (fun i hi => ?_) h2 (fun acc' h3 => hF acc' (fun i hi => h3 i (by simp only [List.length_cons] at hi; omega)))⟩
    simp only [lookR]
    by_cases e : k = i
    · subst e; simp
    · rw [beq_ne e]; exact hk i (by omega)
theorem dst_of_ok {ops : Array Oper} {n : Nat} {ss : List (List (Nat × Nat))} (h : phiOk ops n ss = true) {i : Nat} (hi : i < n) : ∃ o d, ops[i]? = some o ∧ o.dst = some d := by
  simp only [phiOk, Bool.and_eq_true] at h
  have h1 := h.1.1.1.2
  have h2 := List.all_eq_true.1 h1 i (List.mem_range.2 hi)
  unfold opOk at h2
  split at h2
  · rename_i o s ho hss
    simp only [Bool.and_eq_true] at h2
    obtain ⟨d, hd⟩ := Option.isSome_iff_exists.1 h2.1.1
    exact ⟨o, d, ho, hd⟩
  · cases h2
section
variable {P : Program} {C : Ctx} {N : Nat} {Q : Exit → AEnv → AHeap → Prop} {σ : AEnv} {H : AHeap}
theorem wpA.draw {id : Nat} {l : List Oper} (hm : P.follows .mixedOrders = true) (n : Nat) (ss : List (List (Nat × Nat)))
    (hN : dstOk N l = true) (hB : phiOk l.toArray n ss = true) (hss : Nat.ble n ss.length = true)
    (hch : chainA P N C σ H (fun acc => wpB P C N l.toArray Q (l.drop n) (finA acc (l.take n) 0 σ) H) (l.take n) ss 0 []) :
    wpA P C N (.region id l.toArray true) Q σ H := fun ρ I L hs => by
  refine .draw hm n ss hN hB hss ?_
  refine chain_of (acc := []) (F := _) hs _ _ 0 (fun i hi => by omega) hch fun acc hacc hF J hle => ?_
  refine finE_of (l.take n) 0 σ ρ L (hs.mono hle) (fun i o ho => ?_) (fun ρ' h' => hF ρ' J L h')
  have hi : i < n := by
    have := (List.getElem?_eq_some_iff.1 ho).1
    simp at this; omega
  obtain ⟨o', d, h1, h2⟩ := dst_of_ok hB hi
  have : o' = o := by
    rw [List.getElem?_take, if_pos hi] at ho
    have h1' : l[i]? = some o' := by simpa using h1
    rw [h1'] at ho; exact Option.some.inj ho
  subst this
  have hlen : i < (l.take n).length := (List.getElem?_eq_some_iff.1 ho).1
  obtain ⟨r, hr⟩ := Option.isSome_iff_exists.1 (hacc i (by omega))
  exact ⟨d, r, h2, by simpa using hr⟩
end

/-! ### Types and results -/
/-- The zero value's cells. -/
class RepZ (α : Type) [Rep α] [Inhabited α] where
  zs : List Value
  zero : ∀ I, rep I (default : α) zs
instance : RepZ Int := ⟨[i64 0], fun _ => ⟨rfl, by decide, by decide⟩⟩
instance : RepZ UInt8 := ⟨[Fl.u8 0], fun _ => rfl⟩
instance : RepZ UInt16 := ⟨[Ab.u16 0], fun _ => rfl⟩
instance : RepZ UInt32 := ⟨[Fl.u32 0], fun _ => rfl⟩
instance : RepZ UInt64 := ⟨[Fl.u64 0], fun _ => rfl⟩
instance : RepZ Bool := ⟨[.bool false], fun _ => rfl⟩
instance : RepZ Str := ⟨[.string ⟨#[]⟩], fun _ => ⟨⟨_, rfl, rfl⟩, by decide⟩⟩
instance : RepZ Unit := ⟨[], fun _ => rfl⟩
instance {α : Type} [Rep α] : RepZ (List α) := ⟨[.slice none 0 0], fun I => ⟨_, rfl, [], Sl.nil I _, rfl⟩⟩
theorem repL_replicate {α : Type} [Rep α] {I : Im} {x : α} {c : List Value} (h : rep I x c) : ∀ n, repL I (List.replicate n x) (List.replicate n c).flatten
  | 0 => rfl
  | n + 1 => by simp only [List.replicate_succ, List.flatten_cons]; exact ⟨c, _, rfl, h, repL_replicate h n⟩
instance {n : Nat} {α : Type} [Rep α] [Inhabited α] [RepZ α] : RepZ (Arr n α) := ⟨(List.replicate n (RepZ.zs α)).flatten, fun I => repL_replicate (RepZ.zero I) n⟩
instance {α β : Type} [Rep α] [Rep β] [Inhabited α] [Inhabited β] [RepZ α] [RepZ β] : RepZ (α × β) := ⟨RepZ.zs α ++ RepZ.zs β, fun I => ⟨_, _, rfl, RepZ.zero I, RepZ.zero I⟩⟩
@[reducible] def RepZ.via {S T : Type} [Rep T] [Inhabited S] [Inhabited T] [RepZ T] (f : S → T) (h : f default = default) : @RepZ S (Rep.via f) _ :=
  letI : Rep S := Rep.via f
  ⟨RepZ.zs T, fun I => by show rep I (f default) _; rw [h]; exact RepZ.zero I⟩
theorem RepF.via {S T : Type} [Rep T] [RepF T] (f : S → T) : @RepF S (Rep.via f) :=
  letI : Rep S := Rep.via f
  ⟨fun {I J x cs} h => RepF.any (α := T) (x := f x) h⟩
/-- How a type of the program stands: as the Lean type's values do. -/
structure TyIs (P : Program) (T : TypeId) (α : Type) [Rep α] [Inhabited α] : Prop where
  size : SizeIs P T (Rep.size α)
  kind : ∃ dd, P.underlying T = some dd ∧ isRow dd = Rep.agg α
  zero : ∃ zs, zerosOf P T = some zs ∧ ∀ I, rep I (default : α) zs
  pos : Rep.size α ≠ 0
theorem TyIs.of {P : Program} {T : TypeId} {α : Type} [Rep α] [Inhabited α] [RepZ α] (h1 : (P.info? T).map (·.size) = some (Rep.size α)) (h2 : (P.underlying T).map isRow = some (Rep.agg α)) (h3 : zerosOf P T = some (RepZ.zs α)) (h4 : Rep.size α ≠ 0) : TyIs P T α :=
  ⟨.of h1, by
    cases h : P.underlying T with
    | none => simp [h] at h2
    | some dd => exact ⟨dd, rfl, by simpa [h] using h2⟩, ⟨_, h3, RepZ.zero⟩, h4⟩
def FinRA (P : Program) (rv : ResultVar) (C : Ctx) (σ : AEnv) (H : AHeap) (a : AV) : Prop := ∀ ρ I L, RSt C I L σ H ρ → ∃ v, FinR P rv ρ I L v ∧ RepV I a v
section
variable {P : Program} {C : Ctx} {σ : AEnv} {H : AHeap}
theorem FinRA.tmp {t : Nat} {a : AV} (h : lookA σ t = some a) : FinRA P (.tmp t) C σ H a := fun ρ I L hs => by
  obtain ⟨u, h1, h2⟩ := hs.env t a h
  exact ⟨u, .tmp h1, h2⟩
theorem asV_one {α : Type} [Rep α] {I : Im} {x : α} {cs : List Value} (h : rep I x cs) (hg : Rep.agg α = false) : ∃ v, cs = [v] ∧ asV (Rep.agg α) cs = v := by
  have h1 := Rep.len h
  rw [Rep.one hg] at h1
  obtain ⟨v, rfl⟩ := List.length_eq_one_iff.1 h1
  exact ⟨v, rfl, by rw [hg]; rfl⟩
theorem FinRA.cell {t b : Nat} {T : TypeId} {α : Type} {r : Rep α} {i : Inhabited α} {x : α} {g : Bool} {F : Bool × Blk → AHeap} (ty : TyIs P T α) (h : lookA σ t = some (.ln (ptr b 0) (Lens.id (α := α)))) (hH : Hole H (g, .ob (ptr b 0) x) F) :
    FinRA P (.cell t T) C σ H (.v x) := fun ρ I L hs => by
  obtain ⟨u, h1, b', hb, rfl⟩ := hs.env t _ h
  cases hb
  obtain ⟨i, X, h2, h3, _⟩ := hH.get hs.heap
  obtain ⟨b2, T2, cs, hb2, rfl, h5⟩ := h3.1
  cases hb2
  obtain ⟨dd, hd1, hd2⟩ := ty.kind
  refine ⟨asV (Rep.agg α) cs, ?_, cs, h5, rfl⟩
  cases hag : Rep.agg α with
  | true => exact .cellA i hd1 (hd2.trans hag) (by rw [Rep.len h5]; exact ty.size) (by simpa [Lens.id] using h1) h2
  | false =>
    obtain ⟨v, rfl, hv⟩ := asV_one h5 hag
    exact .cellS i hd1 (hd2.trans hag) (by simpa [Lens.id] using h1) h2
variable {fn : Func} {q q2 q3 : ResultVar} {a b c : AV}
theorem FinA.r0 (h : fn.results = #[]) : FinA P fn C σ H (.raw (.tuple #[])) := fun ρ I L hs => ⟨_, .r0 h, rfl⟩
theorem FinA.r1 (h : fn.results = #[q]) (h1 : FinRA P q C σ H a) : FinA P fn C σ H a := fun ρ I L hs => by
  obtain ⟨v, k1, k2⟩ := h1 ρ I L hs
  exact ⟨v, .r1 h k1, k2⟩
theorem FinA.r2 (h : fn.results = #[q, q2]) (h1 : FinRA P q C σ H a) (h2 : FinRA P q2 C σ H b) : FinA P fn C σ H (.t2 a b) := fun ρ I L hs => by
  obtain ⟨v, k1, k2⟩ := h1 ρ I L hs
  obtain ⟨v2, l1, l2⟩ := h2 ρ I L hs
  exact ⟨_, .r2 h k1 l1, v, v2, rfl, k2, l2⟩
theorem FinA.r3 (h : fn.results = #[q, q2, q3]) (h1 : FinRA P q C σ H a) (h2 : FinRA P q2 C σ H b) (h3 : FinRA P q3 C σ H c) : FinA P fn C σ H (.t3 a b c) := fun ρ I L hs => by
  obtain ⟨v, k1, k2⟩ := h1 ρ I L hs
  obtain ⟨v2, l1, l2⟩ := h2 ρ I L hs
  obtain ⟨v3, m1, m2⟩ := h3 ρ I L hs
  exact ⟨_, .r3 h k1 l1 m1, v, v2, v3, rfl, k2, l2, m2⟩
end
end Go.Ab
/- Rules per operation over typed values. -/
set_option linter.unusedVariables false
namespace Go.Ab
open Go.Fl Go.RowKit
open Rep (rep)
variable {P : Program} {C : Ctx} {N : Nat} {σ : AEnv} {H : AHeap} {K : AV → Prop} {d : Option Nat} {ty : TypeId} {ps : String} {af : Array Edge} {g : Option (Nat × Bool)}
variable {x y z : Operand} {T T2 E S D : TypeId}
theorem OpP.vk {o : Oper} {r : AV} (k : K r) (h : ∀ ρ I L, RSt C I L σ H ρ → OpV P N o ρ I L (fun v => RepV I r v)) : OpP P N C o σ H K := .ofV r h k
theorem OpP.move {a : AV} (hx : EvA C σ H x a) (k : K a) : OpP P N C ⟨d, .move x, ty, ps, af, g⟩ σ H K :=
  .ofV a (fun ρ I L hs => by obtain ⟨u, h1, h2⟩ := hx ρ I L hs; exact .move h1 h2) k
theorem OpP.assign {a : AV} (hx : EvA C σ H x a) (k : K a) : OpP P N C ⟨d, .assign x, ty, ps, af, g⟩ σ H K :=
  .ofV a (fun ρ I L hs => by obtain ⟨u, h1, h2⟩ := hx ρ I L hs; exact .assign h1 h2) k
theorem OpP.pick {α : Type} {r : Rep α} {b : Bool} {u v : α} (hc : EvA C σ H x (.v b)) (hy : b = true → EvA C σ H y (.v u)) (hz : b = false → EvA C σ H z (.v v)) (k : K (.v (if b then u else v))) :
    OpP P N C ⟨d, .pick x y z, ty, ps, af, g⟩ σ H K :=
  .ofV (.v (if b then u else v)) (fun ρ I L hs => by
    cases b with
    | true => obtain ⟨w, h1, h2⟩ := hy rfl ρ I L hs; exact .pickT (hc.bool hs) h1 h2
    | false => obtain ⟨w, h1, h2⟩ := hz rfl ρ I L hs; exact .pickF (hc.bool hs) h1 h2) k
/-- a && b : pick a b false. -/
theorem OpP.pickAnd {b v : Bool} (hc : EvA C σ H x (.v b)) (hy : b = true → EvA C σ H y (.v v)) (k : K (.v (b && v))) : OpP P N C ⟨d, .pick x y (.const (.bool false)), ty, ps, af, g⟩ σ H K :=
  .ofV (.v (b && v)) (fun ρ I L hs => by
    cases b with
    | true => obtain ⟨w, h1, h2⟩ := hy rfl ρ I L hs; exact .pickT (hc.bool hs) h1 (by simpa using h2)
    | false => exact .pickF (v := .bool false) (hc.bool hs) rfl ⟨_, rfl, rfl⟩) k
/-- a || b : pick a true b. -/
theorem OpP.pickOr {b v : Bool} (hc : EvA C σ H x (.v b)) (hz : b = false → EvA C σ H z (.v v)) (k : K (.v (b || v))) : OpP P N C ⟨d, .pick x (.const (.bool true)) z, ty, ps, af, g⟩ σ H K :=
  .ofV (.v (b || v)) (fun ρ I L hs => by
    cases b with
    | true => exact .pickT (v := .bool true) (hc.bool hs) rfl ⟨_, rfl, rfl⟩
    | false => obtain ⟨w, h1, h2⟩ := hz rfl ρ I L hs; exact .pickF (hc.bool hs) h1 (by simpa using h2)) k
theorem OpP.pickT {a : AV} (hc : EvA C σ H x (.v true)) (hy : EvA C σ H y a) (k : K a) : OpP P N C ⟨d, .pick x y z, ty, ps, af, g⟩ σ H K :=
  .ofV a (fun ρ I L hs => by obtain ⟨w, h1, h2⟩ := hy ρ I L hs; exact .pickT (hc.bool hs) h1 h2) k
theorem OpP.pickF {a : AV} (hc : EvA C σ H x (.v false)) (hz : EvA C σ H z a) (k : K a) : OpP P N C ⟨d, .pick x y z, ty, ps, af, g⟩ σ H K :=
  .ofV a (fun ρ I L hs => by obtain ⟨w, h1, h2⟩ := hz ρ I L hs; exact .pickF (hc.bool hs) h1 h2) k
theorem OpP.ext2_0 {a b : AV} (hx : EvA C σ H x (.t2 a b)) (k : K a) : OpP P N C ⟨d, .extract x 0, ty, ps, af, g⟩ σ H K :=
  .ofV a (fun ρ I L hs => by obtain ⟨u, h1, v, w, rfl, h3, h4⟩ := hx ρ I L hs; exact .extract h1 rfl h3) k
theorem OpP.ext2_1 {a b : AV} (hx : EvA C σ H x (.t2 a b)) (k : K b) : OpP P N C ⟨d, .extract x 1, ty, ps, af, g⟩ σ H K :=
  .ofV b (fun ρ I L hs => by obtain ⟨u, h1, v, w, rfl, h3, h4⟩ := hx ρ I L hs; exact .extract h1 rfl h4) k
theorem OpP.ext3_0 {a b c : AV} (hx : EvA C σ H x (.t3 a b c)) (k : K a) : OpP P N C ⟨d, .extract x 0, ty, ps, af, g⟩ σ H K :=
  .ofV a (fun ρ I L hs => by obtain ⟨u, h1, v, w, t, rfl, h3, h4, h5⟩ := hx ρ I L hs; exact .extract h1 rfl h3) k
theorem OpP.ext3_1 {a b c : AV} (hx : EvA C σ H x (.t3 a b c)) (k : K b) : OpP P N C ⟨d, .extract x 1, ty, ps, af, g⟩ σ H K :=
  .ofV b (fun ρ I L hs => by obtain ⟨u, h1, v, w, t, rfl, h3, h4, h5⟩ := hx ρ I L hs; exact .extract h1 rfl h4) k
theorem OpP.ext3_2 {a b c : AV} (hx : EvA C σ H x (.t3 a b c)) (k : K c) : OpP P N C ⟨d, .extract x 2, ty, ps, af, g⟩ σ H K :=
  .ofV c (fun ρ I L hs => by obtain ⟨u, h1, v, w, t, rfl, h3, h4, h5⟩ := hx ρ I L hs; exact .extract h1 rfl h5) k
section int
variable {m n : Int} (hx : EvA C σ H x (.v m)) (hy : EvA C σ H y (.v n))
include hx hy
theorem OpP.add (h1 : -9223372036854775808 ≤ m + n) (h2 : m + n ≤ 9223372036854775807) (k : K (.v (m + n))) : OpP P N C ⟨d, .binOp .add T x y T2, ty, ps, af, g⟩ σ H K :=
  .vk k (fun ρ I L hs => .add (hx.int hs).1 (hy.int hs).1 h1 h2 ⟨_, ⟨rfl, h1, h2⟩, rfl⟩)
theorem OpP.sub (h1 : -9223372036854775808 ≤ m - n) (h2 : m - n ≤ 9223372036854775807) (k : K (.v (m - n))) : OpP P N C ⟨d, .binOp .sub T x y T2, ty, ps, af, g⟩ σ H K :=
  .vk k (fun ρ I L hs => .sub (hx.int hs).1 (hy.int hs).1 h1 h2 ⟨_, ⟨rfl, h1, h2⟩, rfl⟩)
theorem OpP.mul (h1 : -9223372036854775808 ≤ m * n) (h2 : m * n ≤ 9223372036854775807) (k : K (.v (m * n))) : OpP P N C ⟨d, .binOp .mul T x y T2, ty, ps, af, g⟩ σ H K :=
  .vk k (fun ρ I L hs => .mul (hx.int hs).1 (hy.int hs).1 h1 h2 ⟨_, ⟨rfl, h1, h2⟩, rfl⟩)
theorem OpP.quo (h0 : 0 ≤ m) (h2 : 0 < n) (k : K (.v (m / n))) : OpP P N C ⟨d, .binOp .quo T x y T2, ty, ps, af, g⟩ σ H K :=
  .vk k (fun ρ I L hs => .quo (hx.int hs).1 (hy.int hs).1 h0 (hx.int hs).2.2 h2 ⟨_, ⟨rfl, by have := Int.ediv_nonneg h0 (Int.le_of_lt h2); omega, by have := Int.ediv_le_self n h0; have := (hx.int hs).2.2; omega⟩, rfl⟩)
theorem OpP.rem (h0 : 0 ≤ m) (h2 : 0 < n) (k : K (.v (m % n))) : OpP P N C ⟨d, .binOp .rem T x y T2, ty, ps, af, g⟩ σ H K :=
  .vk k (fun ρ I L hs => .rem (hx.int hs).1 (hy.int hs).1 h0 h2 ⟨_, ⟨rfl, by have := Int.emod_nonneg m (show n ≠ 0 by omega); omega, by have := Int.emod_lt_of_pos m h2; have := (hy.int hs).2.2; omega⟩, rfl⟩)
theorem OpP.tmod (hn : n ≠ 0) (k : K (.v (m.tmod n))) : OpP P N C ⟨d, .binOp .rem T x y T2, ty, ps, af, g⟩ σ H K :=
  .vk k (fun ρ I L hs => .tmod (hx.int hs).1 (hy.int hs).1 hn ⟨_, ⟨rfl, by
      have h1 := (hx.int hs).2
      have h3 : (m.tmod n).natAbs ≤ m.natAbs := by rw [Int.natAbs_tmod]; exact Nat.mod_le _ _
      by_cases hm : 0 ≤ m
      · have := Int.tmod_nonneg n hm; omega
      · omega, by
      have h1 := (hx.int hs).2
      have h3 : (m.tmod n).natAbs ≤ m.natAbs := by rw [Int.natAbs_tmod]; exact Nat.mod_le _ _
      by_cases hm : 0 ≤ m
      · omega
      · have e : m.tmod n = -((-m).tmod n) := by rw [Int.neg_tmod]; omega
        have := Int.tmod_nonneg n (show 0 ≤ -m by omega)
        omega⟩, rfl⟩)
theorem OpP.lss (k : K (.v (decide (m < n)))) : OpP P N C ⟨d, .binOp .lss T x y T2, ty, ps, af, g⟩ σ H K :=
  .vk k (fun ρ I L hs => .lss (hx.int hs).1 (hy.int hs).1 ⟨_, rfl, rfl⟩)
theorem OpP.leq (k : K (.v (decide (m ≤ n)))) : OpP P N C ⟨d, .binOp .leq T x y T2, ty, ps, af, g⟩ σ H K :=
  .vk k (fun ρ I L hs => .leq (hx.int hs).1 (hy.int hs).1 ⟨_, rfl, rfl⟩)
theorem OpP.gtr (k : K (.v (decide (n < m)))) : OpP P N C ⟨d, .binOp .gtr T x y T2, ty, ps, af, g⟩ σ H K :=
  .vk k (fun ρ I L hs => .gtr (hx.int hs).1 (hy.int hs).1 ⟨_, rfl, rfl⟩)
theorem OpP.geq (k : K (.v (decide (n ≤ m)))) : OpP P N C ⟨d, .binOp .geq T x y T2, ty, ps, af, g⟩ σ H K :=
  .vk k (fun ρ I L hs => .geq (hx.int hs).1 (hy.int hs).1 ⟨_, rfl, rfl⟩)
theorem OpP.eqlI (k : K (.v (decide (m = n)))) : OpP P N C ⟨d, .binOp .eql T x y T2, ty, ps, af, g⟩ σ H K :=
  .vk k (fun ρ I L hs => .eqlI (hx.int hs).1 (hy.int hs).1 ⟨_, rfl, rfl⟩)
theorem OpP.neqI (k : K (.v (decide (m ≠ n)))) : OpP P N C ⟨d, .binOp .neq T x y T2, ty, ps, af, g⟩ σ H K :=
  .vk k (fun ρ I L hs => .neqI (hx.int hs).1 (hy.int hs).1 ⟨_, rfl, rfl⟩)
theorem OpP.minI {ts : Array TypeId} (k : K (.v (min m n))) : OpP P N C ⟨d, .call ⟨.builtin .min, #[x, y], ts⟩, ty, ps, af, g⟩ σ H K :=
  .vk k (fun ρ I L hs => .minI (hx.int hs).1 (hy.int hs).1 ⟨_, ⟨rfl, by have := (hx.int hs).2; have := (hy.int hs).2; omega, by have := (hx.int hs).2; omega⟩, rfl⟩)
theorem OpP.maxI {ts : Array TypeId} (k : K (.v (max m n))) : OpP P N C ⟨d, .call ⟨.builtin .max, #[x, y], ts⟩, ty, ps, af, g⟩ σ H K :=
  .vk k (fun ρ I L hs => .maxI (hx.int hs).1 (hy.int hs).1 ⟨_, ⟨rfl, by have := (hx.int hs).2; omega, by have := (hx.int hs).2; have := (hy.int hs).2; omega⟩, rfl⟩)
end int
theorem OpP.neg {m : Int} (hx : EvA C σ H x (.v m)) (h1 : -9223372036854775807 ≤ m) (k : K (.v (-m))) : OpP P N C ⟨d, .unOp .neg T x, ty, ps, af, g⟩ σ H K :=
  .vk k (fun ρ I L hs => .neg (hx.int hs).1 ⟨h1, (hx.int hs).2.2⟩ ⟨_, ⟨rfl, by have := (hx.int hs).2; omega, by omega⟩, rfl⟩)
theorem OpP.not {b : Bool} (hx : EvA C σ H x (.v b)) (k : K (.v (!b))) : OpP P N C ⟨d, .unOp .not T x, ty, ps, af, g⟩ σ H K :=
  .vk k (fun ρ I L hs => .not (hx.bool hs) ⟨_, rfl, rfl⟩)
theorem dec_lt8 (m n : UInt8) : decide ((m.toNat : Int) < n.toNat) = decide (m < n) := by simp [UInt8.lt_iff_toNat_lt]
theorem dec_le8 (m n : UInt8) : decide ((m.toNat : Int) ≤ n.toNat) = decide (m ≤ n) := by simp [UInt8.le_iff_toNat_le]
theorem dec_eq8 (m n : UInt8) : decide ((m.toNat : Int) = n.toNat) = decide (m = n) := by rw [decide_eq_decide, Int.ofNat_inj, UInt8.toNat_inj]
theorem dec_eq16 (m n : UInt16) : decide ((m.toNat : Int) = n.toNat) = decide (m = n) := by rw [decide_eq_decide, Int.ofNat_inj, UInt16.toNat_inj]
theorem dec_eq32 (m n : UInt32) : decide ((m.toNat : Int) = n.toNat) = decide (m = n) := by rw [decide_eq_decide, Int.ofNat_inj, UInt32.toNat_inj]
theorem dec_eq64 (m n : UInt64) : decide ((m.toNat : Int) = n.toNat) = decide (m = n) := by rw [decide_eq_decide, Int.ofNat_inj, UInt64.toNat_inj]
theorem dec_lt64 (m n : UInt64) : decide ((m.toNat : Int) < n.toNat) = decide (m < n) := by simp [UInt64.lt_iff_toNat_lt]
section by8
variable {m n : UInt8} (hx : EvA C σ H x (.v m)) (hy : EvA C σ H y (.v n))
include hx hy
theorem OpP.lss8 (k : K (.v (decide (m < n)))) : OpP P N C ⟨d, .binOp .lss T x y T2, ty, ps, af, g⟩ σ H K :=
  .vk k (fun ρ I L hs => .lss (hx.by8 hs) (hy.by8 hs) ⟨_, rfl, by rw [dec_lt8]; rfl⟩)
theorem OpP.leq8 (k : K (.v (decide (m ≤ n)))) : OpP P N C ⟨d, .binOp .leq T x y T2, ty, ps, af, g⟩ σ H K :=
  .vk k (fun ρ I L hs => .leq (hx.by8 hs) (hy.by8 hs) ⟨_, rfl, by rw [dec_le8]; rfl⟩)
theorem OpP.gtr8 (k : K (.v (decide (n < m)))) : OpP P N C ⟨d, .binOp .gtr T x y T2, ty, ps, af, g⟩ σ H K :=
  .vk k (fun ρ I L hs => .gtr (hx.by8 hs) (hy.by8 hs) ⟨_, rfl, by rw [dec_lt8]; rfl⟩)
theorem OpP.geq8 (k : K (.v (decide (n ≤ m)))) : OpP P N C ⟨d, .binOp .geq T x y T2, ty, ps, af, g⟩ σ H K :=
  .vk k (fun ρ I L hs => .geq (hx.by8 hs) (hy.by8 hs) ⟨_, rfl, by rw [dec_le8]; rfl⟩)
theorem OpP.eql8 (k : K (.v (decide (m = n)))) : OpP P N C ⟨d, .binOp .eql T x y T2, ty, ps, af, g⟩ σ H K :=
  .vk k (fun ρ I L hs => .eqlI (hx.by8 hs) (hy.by8 hs) ⟨_, rfl, by rw [dec_eq8]; rfl⟩)
theorem OpP.neq8 (k : K (.v (decide (m ≠ n)))) : OpP P N C ⟨d, .binOp .neq T x y T2, ty, ps, af, g⟩ σ H K :=
  .vk k (fun ρ I L hs => .neqI (hx.by8 hs) (hy.by8 hs) ⟨_, rfl, by simp only [ne_eq, decide_not, dec_eq8]; rfl⟩)
theorem OpP.xor8 (k : K (.v (m ^^^ n))) : OpP P N C ⟨d, .binOp .xor T x y T2, ty, ps, af, g⟩ σ H K :=
  .vk k (fun ρ I L hs => .xor8 (hx.by8 hs) (hy.by8 hs) ⟨_, rfl, rfl⟩)
theorem OpP.or8 (k : K (.v (m ||| n))) : OpP P N C ⟨d, .binOp .or T x y T2, ty, ps, af, g⟩ σ H K :=
  .vk k (fun ρ I L hs => .or8 (hx.by8 hs) (hy.by8 hs) ⟨_, rfl, rfl⟩)
theorem OpP.and8 (k : K (.v (m &&& n))) : OpP P N C ⟨d, .binOp .and T x y T2, ty, ps, af, g⟩ σ H K :=
  .vk k (fun ρ I L hs => .and8 (hx.by8 hs) (hy.by8 hs) ⟨_, rfl, rfl⟩)
theorem OpP.add8 (k : K (.v (m + n))) : OpP P N C ⟨d, .binOp .add T x y T2, ty, ps, af, g⟩ σ H K :=
  .vk k (fun ρ I L hs => .add8 (hx.by8 hs) (hy.by8 hs) ⟨_, rfl, rfl⟩)
end by8
section by64
variable {m n : UInt64} (hx : EvA C σ H x (.v m)) (hy : EvA C σ H y (.v n))
include hx hy
theorem OpP.eql64 (k : K (.v (decide (m = n)))) : OpP P N C ⟨d, .binOp .eql T x y T2, ty, ps, af, g⟩ σ H K :=
  .vk k (fun ρ I L hs => .eqlI (hx.by64 hs) (hy.by64 hs) ⟨_, rfl, by rw [dec_eq64]; rfl⟩)
theorem OpP.neq64 (k : K (.v (decide (m ≠ n)))) : OpP P N C ⟨d, .binOp .neq T x y T2, ty, ps, af, g⟩ σ H K :=
  .vk k (fun ρ I L hs => .neqI (hx.by64 hs) (hy.by64 hs) ⟨_, rfl, by simp only [ne_eq, decide_not, dec_eq64]; rfl⟩)
theorem OpP.xor64 (k : K (.v (m ^^^ n))) : OpP P N C ⟨d, .binOp .xor T x y T2, ty, ps, af, g⟩ σ H K :=
  .vk k (fun ρ I L hs => .xor64 (hx.by64 hs) (hy.by64 hs) ⟨_, rfl, rfl⟩)
theorem OpP.or64 (k : K (.v (m ||| n))) : OpP P N C ⟨d, .binOp .or T x y T2, ty, ps, af, g⟩ σ H K :=
  .vk k (fun ρ I L hs => .or64 (hx.by64 hs) (hy.by64 hs) ⟨_, rfl, rfl⟩)
theorem OpP.and64 (k : K (.v (m &&& n))) : OpP P N C ⟨d, .binOp .and T x y T2, ty, ps, af, g⟩ σ H K :=
  .vk k (fun ρ I L hs => .and64 (hx.by64 hs) (hy.by64 hs) ⟨_, rfl, rfl⟩)
theorem OpP.add64 (k : K (.v (m + n))) : OpP P N C ⟨d, .binOp .add T x y T2, ty, ps, af, g⟩ σ H K :=
  .vk k (fun ρ I L hs => .add64 (hx.by64 hs) (hy.by64 hs) ⟨_, rfl, rfl⟩)
theorem OpP.sub64 (k : K (.v (m - n))) : OpP P N C ⟨d, .binOp .sub T x y T2, ty, ps, af, g⟩ σ H K :=
  .vk k (fun ρ I L hs => .sub64 (hx.by64 hs) (hy.by64 hs) ⟨_, rfl, rfl⟩)
end by64
section conv
variable {ds : TypeDesc}
theorem OpP.convI {n : Int} (hS : P.underlying S = some ds) (hD : P.underlying D = some (.int .i64)) (hx : EvA C σ H x (.v n)) (k : K (.v n)) : OpP P N C ⟨d, .convert S D x, ty, ps, af, g⟩ σ H K :=
  .vk k (fun ρ I L hs => .convI hS hD (hx.int hs).1 (hx.int hs).2.1 (hx.int hs).2.2 ⟨_, ⟨rfl, (hx.int hs).2⟩, rfl⟩)
theorem OpP.convI8 {n : UInt8} (hS : P.underlying S = some ds) (hD : P.underlying D = some (.int .i64)) (hx : EvA C σ H x (.v n)) (k : K (.v (n.toNat : Int))) : OpP P N C ⟨d, .convert S D x, ty, ps, af, g⟩ σ H K :=
  .vk k (fun ρ I L hs => .convI hS hD (hx.by8 hs) (by have := n.toNat_lt; omega) (by have := n.toNat_lt; omega) ⟨_, ⟨rfl, by have := n.toNat_lt; omega, by have := n.toNat_lt; omega⟩, rfl⟩)
theorem OpP.convI16 {n : UInt16} (hS : P.underlying S = some ds) (hD : P.underlying D = some (.int .i64)) (hx : EvA C σ H x (.v n)) (k : K (.v (n.toNat : Int))) : OpP P N C ⟨d, .convert S D x, ty, ps, af, g⟩ σ H K :=
  .vk k (fun ρ I L hs => .convI hS hD (hx.by16 hs) (by have := n.toNat_lt; omega) (by have := n.toNat_lt; omega) ⟨_, ⟨rfl, by have := n.toNat_lt; omega, by have := n.toNat_lt; omega⟩, rfl⟩)
theorem OpP.conv8 {n : Int} (hS : P.underlying S = some ds) (hD : P.underlying D = some (.int .u8)) (hx : EvA C σ H x (.v n)) (k : K (.v (UInt8.ofInt n))) : OpP P N C ⟨d, .convert S D x, ty, ps, af, g⟩ σ H K :=
  .vk k (fun ρ I L hs => .conv8 hS hD (hx.int hs).1 ⟨_, rfl, rfl⟩)
theorem OpP.conv64 {n : Int} (hS : P.underlying S = some ds) (hD : P.underlying D = some (.int .u64)) (hx : EvA C σ H x (.v n)) (k : K (.v (UInt64.ofInt n))) : OpP P N C ⟨d, .convert S D x, ty, ps, af, g⟩ σ H K :=
  .vk k (fun ρ I L hs => .conv64 hS hD (hx.int hs).1 ⟨_, rfl, rfl⟩)
end conv
/-! ### Slices, arrays, structures -/
theorem OpP.len {α : Type} {r : Rep α} {l : List α} (hT : P.underlying T = some (.slice E)) (hx : EvA C σ H x (.v l)) (k : K (.v (l.length : Int))) : OpP P N C ⟨d, .call ⟨.builtin .len, #[x], #[T]⟩, ty, ps, af, g⟩ σ H K :=
  .vk k (fun ρ I L hs => by
    obtain ⟨u, h1, xs, ⟨a, c, rfl, _, h3, h4, _⟩, _⟩ := hx.sl hs
    exact .len hT h1 ⟨_, ⟨rfl, by omega, by unfold maxLen at h4; omega⟩, rfl⟩)
theorem OpP.lenOwn {α : Type} {r : Rep α} {t : Nat} {w : Value} {l : List α} {b : Bool} {F : Bool × Blk → AHeap} (hT : P.underlying T = some (.slice E)) (hx : lookA σ t = some (.raw w)) {E' : TypeId} (hH : Hole H (b, .own E' w l) F) (k : K (.v (l.length : Int))) :
    OpP P N C ⟨d, .call ⟨.builtin .len, #[.tmp t], #[T]⟩, ty, ps, af, g⟩ σ H K :=
  .vk k (fun ρ I L hs => by
    obtain ⟨u, h1, rfl⟩ := hs.env t _ hx
    obtain ⟨i, X, h2, h3, _⟩ := hH.get hs.heap
    obtain ⟨xs, ho, _⟩ := h3.1
    have hle := ho.le
    obtain ⟨a, c, rfl⟩ := ho.shape
    exact .len hT h1 ⟨_, ⟨rfl, by omega, by omega⟩, rfl⟩)
theorem OpP.lenS {s : Str} (hT : P.underlying T = some .string) (hx : EvA C σ H x (.v s)) (k : K (.v (s.l.length : Int))) : OpP P N C ⟨d, .call ⟨.builtin .len, #[x], #[T]⟩, ty, ps, af, g⟩ σ H K :=
  .vk k (fun ρ I L hs => by
    obtain ⟨b, h1, h2⟩ := hx.str hs
    have hb := hx.strLe hs
    have e : (b.size : Int) = (s.l.length : Int) := by rw [← h2]; rfl
    exact .lenS hT h1 ⟨_, ⟨congrArg (fun q => [i64 q]) e, by omega, by omega⟩, rfl⟩)
theorem segGet_get {xs : List Value} {k s i : Nat} {v : Value} (h : (segGet xs k s)[i]? = some v) : xs[k + i]? = some v := by
  simp only [segGet, List.getElem?_take, List.getElem?_drop] at h
  split at h
  · exact h
  · cases h
/-- The address of an element of a slice that does not turn. -/
theorem OpP.idx {α : Type} {r : Rep α} {i : Inhabited α} {l : List α} {n : Int} (tE : TyIs P E α) (hT : P.underlying T = some (.slice E)) (hx : EvA C σ H x (.v l)) (hy : EvA C σ H y (.v n)) (h0 : 0 ≤ n) (h1 : n < l.length)
    (k : K (.p (l[n.toNat]'(by omega)))) : OpP P N C ⟨d, .indexAddr T x y, ty, ps, af, g⟩ σ H K :=
  .vk k (fun ρ I L hs => by
    obtain ⟨u, hu, xs, hsl, hl⟩ := hx.sl hs
    have hk : n.toNat < l.length := by omega
    have hg := hl.get n.toNat hk
    obtain ⟨a, c, rfl, hlen, h3, h4, h5, h6⟩ := hsl
    have hz : xs ≠ [] := by
      intro hz
      have := hl.len
      rw [hz] at this
      simp only [List.length_nil] at this
      rcases Nat.mul_eq_zero.1 this.symm with h | h
      · omega
      · exact tE.pos h
    obtain ⟨b, o, rfl, hc⟩ := h6 hz
    exact .indexAddrS hT tE.size hu (hy.int hs).1 h0 h1 ⟨b, _, _, rfl, hg, hc.sub (n.toNat * Rep.size α) (fun i v hv => segGet_get hv)⟩)
theorem shrI_run (T : TypeId) (m : Int) (kd : IntKind) (n : Nat) (h : n < 64) : binOp .shr T (i64 m) (.int kd (n : Int)) = pure (i64 (m >>> n)) := by
  show Op.shift .shr .i64 m kd n = _
  unfold Op.shift
  rw [if_neg (by omega)]
  have e : min ((n : Int).toNat) (IntKind.bits .i64) = n := by simp [IntKind.bits]; omega
  show (pure (Value.int .i64 (Int.fdiv m (2 ^ (min ((n : Int).toNat) (IntKind.bits .i64))))) : Sem Value) = _
  rw [e, Int.shiftRight_eq_div_pow, Int.fdiv_eq_ediv_of_nonneg _ (Int.pow_nonneg (by omega))]
  rfl
theorem OpP.shrI {m n : Int} (hx : EvA C σ H x (.v m)) (hy : EvA C σ H y (.v n)) (h0 : 0 ≤ n) (h1 : n < 64) (k : K (.v (m >>> n.toNat))) : OpP P N C ⟨d, .binOp .shr T x y T2, ty, ps, af, g⟩ σ H K :=
  .vk k (fun ρ I L hs => by
    obtain ⟨j, rfl⟩ := Int.eq_ofNat_of_zero_le h0
    have hm := (hx.int hs).2
    refine .mk ⟨_, ⟨rfl, ?_, ?_⟩, rfl⟩ fun a w ha hm => by
      simp [execOp, ha.ev (hx.int hs).1, ha.ev (hy.int hs).1, eqGuard, shrI_run T m _ j (by omega), asV, Rep.agg]
    · rw [Int.toNat_natCast, Int.shiftRight_eq_div_pow]
      rcases Int.le_total 0 m with h | h
      · have := Int.ediv_nonneg h (Int.natCast_nonneg (2 ^ j)); omega
      · have h2 : (1 : Int) ≤ ((2 ^ j : Nat) : Int) := Int.natCast_pos.2 (Nat.two_pow_pos j)
        have := Int.le_ediv_of_mul_le (a := m) (b := m) (c := ((2 ^ j : Nat) : Int)) (by omega) (by have := Int.mul_le_mul_of_nonpos_left h h2; omega)
        omega
    · rw [Int.toNat_natCast, Int.shiftRight_eq_div_pow]
      rcases Int.le_total 0 m with h | h
      · have := Int.ediv_le_self ((2 ^ j : Nat) : Int) h; omega
      · have h2 : (0 : Int) < ((2 ^ j : Nat) : Int) := Int.natCast_pos.2 (Nat.two_pow_pos j)
        have := Int.ediv_lt_of_lt_mul (a := m) (b := 1) h2 (by omega); omega)
end Go.Ab
/- Rules for memory over typed values: addresses, loads, stores, new memory. -/
set_option linter.unusedVariables false
namespace Go.Ab
open Go.Fl Go.RowKit
open Rep (rep)
variable {P : Program} {C : Ctx} {N : Nat} {σ : AEnv} {H : AHeap} {K : AV → Prop} {KH : AV → AHeap → Prop} {d : Option Nat} {ty : TypeId} {ps : String} {af : Array Edge} {g : Option (Nat × Bool)}
variable {x y z : Operand} {T T2 E S D : TypeId}
/-! addresses -/
theorem OpP.idxL {α β : Type} {r : Rep α} {s : Rep β} {n : Nat} {ag : Bool} {w : Value} {l : Lens α (Arr n β)} {i : Int} (hf : elemOff P T = some (n, Rep.size β, ag)) (hx : EvA C σ H x (.ln w l)) (hy : EvA C σ H y (.v i)) (h0 : 0 ≤ i) (h1 : i < n)
    (k : K (.ln w (l.comp (Lens.idx i.toNat (by omega))))) : OpP P N C ⟨d, .indexAddr T x y, ty, ps, af, g⟩ σ H K :=
  .vk k (fun ρ I L hs => by
    obtain ⟨u, h2, b, h3, rfl⟩ := hx ρ I L hs
    exact .indexAddrA hf h2 (hy.int hs).1 h0 h1 ⟨b, h3, rfl⟩)
theorem OpP.idxP {β : Type} {s : Rep β} {n : Nat} {ag : Bool} {a : Arr n β} {i : Int} (hf : elemOff P T = some (n, Rep.size β, ag)) (hx : EvA C σ H x (.p a)) (hy : EvA C σ H y (.v i)) (h0 : 0 ≤ i) (h1 : i < n)
    (k : K (.p (a.l[i.toNat]'(by rw [a.h]; omega)))) : OpP P N C ⟨d, .indexAddr T x y, ty, ps, af, g⟩ σ H K :=
  .vk k (fun ρ I L hs => by
    obtain ⟨u, h2, b, o, cs, rfl, h3, h4⟩ := hx ρ I L hs
    exact .indexAddrA hf h2 (hy.int hs).1 h0 h1 ⟨b, _, _, rfl, repL.get h3 i.toNat (by rw [a.h]; omega), h4.sub (i.toNat * Rep.size β) (fun j v hv => segGet_get hv)⟩)
theorem OpP.idxOwn {β : Type} {s : Rep β} {ib : Inhabited β} {t : Nat} {w : Value} {l : List β} {i : Int} {bb : Bool} {E' : TypeId} {F : Bool × Blk → AHeap} (tE : TyIs P E β) (hT : P.underlying T = some (.slice E)) (hx : lookA σ t = some (.raw w)) (hH : Hole H (bb, .own E' w l) F)
    (hy : EvA C σ H y (.v i)) (h0 : 0 ≤ i) (h1 : i < l.length) (k : K (.el w i.toNat (Lens.id (α := β)))) : OpP P N C ⟨d, .indexAddr T (.tmp t) y, ty, ps, af, g⟩ σ H K :=
  .vk k (fun ρ I L hs => by
    obtain ⟨u, h2, rfl⟩ := hs.env t _ hx
    obtain ⟨j, X, h3, h4, _⟩ := hH.get hs.heap
    obtain ⟨xs, ho, hl⟩ := h4.1
    rcases ho with ⟨_, h, _⟩ | ⟨b, c, sp, q, rfl, _⟩
    · omega
    · refine .indexAddrS hT tE.size h2 (hy.int hs).1 h0 h1 ⟨b, rfl, ?_⟩
      simp [Lens.id])
theorem OpP.fldL {α β γ : Type} {r : Rep α} {s : Rep β} {q : Rep γ} {i off sz : Nat} {ag : Bool} {w : Value} {l : Lens α β} (m : Lens β γ) (hf : fieldOff P T i = some (off, sz + 1, ag)) (ho : off = m.off) (hx : EvA C σ H x (.ln w l)) (k : K (.ln w (l.comp m))) :
    OpP P N C ⟨d, .fieldAddr T x i, ty, ps, af, g⟩ σ H K :=
  .vk k (fun ρ I L hs => by
    obtain ⟨u, h2, b, h3, rfl⟩ := hx ρ I L hs
    subst ho
    exact .fieldAddr hf h2 ⟨b, h3, rfl⟩)
theorem OpP.fldE {α β γ : Type} {r : Rep α} {s : Rep β} {q : Rep γ} {i off sz kk : Nat} {ag : Bool} {w : Value} {l : Lens α β} (m : Lens β γ) (hf : fieldOff P T i = some (off, sz + 1, ag)) (ho : off = m.off) (hx : EvA C σ H x (.el w kk l)) (k : K (.el w kk (l.comp m))) :
    OpP P N C ⟨d, .fieldAddr T x i, ty, ps, af, g⟩ σ H K :=
  .vk k (fun ρ I L hs => by
    obtain ⟨u, h2, b, h3, rfl⟩ := hx ρ I L hs
    subst ho
    exact .fieldAddr hf h2 ⟨b, h3, by simp [Lens.comp, Nat.add_assoc]⟩)
theorem OpP.fldP {β γ : Type} {s : Rep β} {q : Rep γ} {i off sz : Nat} {ag : Bool} {a : β} (m : Lens β γ) (hf : fieldOff P T i = some (off, sz + 1, ag)) (ho : off = m.off) (hx : EvA C σ H x (.p a)) (k : K (.p (m.get a))) :
    OpP P N C ⟨d, .fieldAddr T x i, ty, ps, af, g⟩ σ H K :=
  .vk k (fun ρ I L hs => by
    obtain ⟨u, h2, b, o, cs, rfl, h3, h4⟩ := hx ρ I L hs
    subst ho
    exact .fieldAddr hf h2 ⟨b, _, _, rfl, m.gets h3, h4.sub m.off (fun j v hv => segGet_get hv)⟩)
/-! loads -/
theorem OpV.loadAny {ρ : Env} {I : Im} {L : Lh} {φ : Value → Prop} {α : Type} [Rep α] [Inhabited α] {I' : Im} {a : α} {vs : List Value} {b off : Nat} (tT : TyIs P T α) (hx : ev ρ x = some (ptr b off)) (hr : rep I' a vs)
    (hc : ∀ w, Mem I L w → ∀ j v, vs[j]? = some v → w.cell? ⟨b, off + j, none⟩ = some v) (k : φ (asV (Rep.agg α) vs)) : OpV P N ⟨d, .load T x, ty, ps, af, g⟩ ρ I L φ := .mk k fun ac w ha hm => by
  obtain ⟨dd, hd1, hd2⟩ := tT.kind
  cases hag : Rep.agg α with
  | true =>
    have hs : SizeIs P T vs.length := by rw [Rep.len hr]; exact tT.size
    simp [execOp, ha.ev hx, Fl.run_loadA hd1 (hd2.trans hag) hs (hc w hm), asV]
  | false =>
    obtain ⟨v, rfl, hv⟩ := asV_one hr hag
    simp [execOp, ha.ev hx, Fl.run_load hd1 (hd2.trans hag) (show w.cell? ⟨b, off, none⟩ = some v by simpa using hc w hm 0 v rfl), asV]
theorem OpP.ldP {α : Type} {r : Rep α} {i : Inhabited α} {a : α} (tT : TyIs P T α) (hx : EvA C σ H x (.p a)) (k : K (.v a)) : OpP P N C ⟨d, .load T x, ty, ps, af, g⟩ σ H K :=
  .vk k (fun ρ I L hs => by
    obtain ⟨u, h2, b, o, cs, rfl, h3, h4⟩ := hx ρ I L hs
    exact OpV.loadAny tT h2 h3 (fun w hm j v hv => h4.cell hm hv) ⟨cs, h3, rfl⟩)
theorem OpP.ldL {α β : Type} {r : Rep α} {s : Rep β} {i : Inhabited β} {w : Value} {l : Lens α β} {a : α} {bb : Bool} {F : Bool × Blk → AHeap} (tT : TyIs P T β) (hx : EvA C σ H x (.ln w l)) (hH : Hole H (bb, .ob w a) F) (k : K (.v (l.get a))) :
    OpP P N C ⟨d, .load T x, ty, ps, af, g⟩ σ H K :=
  .vk k (fun ρ I L hs => by
    obtain ⟨u, h2, b, h3, rfl⟩ := hx ρ I L hs
    obtain ⟨j, X, h4, h5, _⟩ := hH.get hs.heap
    obtain ⟨b2, T', cs, rfl, rfl, h6⟩ := h5.1
    cases h3
    exact OpV.loadAny tT h2 (l.gets h6) (fun w hm j v hv => by rw [chunk_cell hm h4]; exact segGet_get hv) ⟨_, l.gets h6, rfl⟩)
theorem OpP.ldE {α β : Type} {r : Rep α} {s : Rep β} {i : Inhabited β} {w : Value} {l : Lens α β} {as : List α} {kk : Nat} {bb : Bool} {E' : TypeId} {F : Bool × Blk → AHeap} (tT : TyIs P T β) (hx : EvA C σ H x (.el w kk l)) (hH : Hole H (bb, .own E' w as) F) (hk : kk < as.length)
    (k : K (.v (l.get as[kk]))) : OpP P N C ⟨d, .load T x, ty, ps, af, g⟩ σ H K :=
  .vk k (fun ρ I L hs => by
    obtain ⟨u, h2, b, h3, rfl⟩ := hx ρ I L hs
    obtain ⟨j, X, h4, h5, _⟩ := hH.get hs.heap
    obtain ⟨xs, ho, h6⟩ := h5.1
    rcases ho with ⟨_, h, _⟩ | ⟨b2, c, sp, q, rfl, rfl, _⟩
    · omega
    · cases h3
      have hg := l.gets (h6.get kk hk)
      rw [segGet_segGet l.fits] at hg
      exact OpV.loadAny tT h2 hg (fun w hm j v hv => by
        rw [chunk_cellG hm h4]
        have := segGet_get hv
        rw [List.getElem?_append_left (List.getElem?_eq_some_iff.1 this).1]; exact this) ⟨_, hg, rfl⟩)
/-! stores -/
theorem cells_asV {α : Type} [Rep α] {I : Im} {a : α} {vs : List Value} (h : rep I a vs) : (asV (Rep.agg α) vs).cells.toList = vs := by
  cases hag : Rep.agg α with
  | true => simp [asV, Value.cells]
  | false =>
    obtain ⟨v, rfl, hv⟩ := asV_one h hag
    have h1 := Rep.flat h
    simp only [ones, List.all_cons, List.all_nil, Bool.and_true] at h1
    simp only [asV, List.headD_cons]
    cases v <;> first | rfl | (simp [Value.oneCell'] at h1)
theorem OpH.stL {α β : Type} {r : Rep α} {s : Rep β} {i : Inhabited β} {w : Value} {l : Lens α β} {a : α} {c : β} {bb : Bool} {F : Bool × Blk → AHeap} (tT : TyIs P T β) (hx : EvA C σ H x (.ln w l)) (hy : EvA C σ H y (.v c)) (hH : Hole H (bb, .ob w a) F)
    (k : KH .any (F (bb, .ob w (l.set c a)))) : OpH P C N ⟨d, .store T x y, ty, ps, af, g⟩ σ H KH := fun ρ I L hs => by
  obtain ⟨u, h2, b, h3, rfl⟩ := hx ρ I L hs
  obtain ⟨u, h7, vs, h8, rfl⟩ := hy ρ I L hs
  obtain ⟨j, X, h4, h5, h6⟩ := hH.get hs.heap
  obtain ⟨b2, T', cs, rfl, rfl, h9⟩ := h5.1
  cases h3
  refine .store j (by rw [Rep.len h8]; exact tT.size) h2 h7 (cells_asV h8) (Rep.flat h8) h4 (by rw [Rep.len h8, Rep.len h9]; exact l.fits) ⟨Le.refl I, .any, _, trivial, h6 I (bb, .ob (ptr b 0) (l.set c a)) [(b, row (segSet cs l.off vs) T')] (Le.refl I) ⟨⟨b, T', _, rfl, rfl, l.sets h9 h8⟩, fun hb p hp => ?_⟩, k⟩
  have := h5.2 hb (b, row cs T') (by simp)
  simp only [List.mem_singleton] at hp
  subst hp; exact this
theorem OpH.stW {α : Type} {r : Rep α} {i : Inhabited α} {w : Value} {a c : α} {bb : Bool} {F : Bool × Blk → AHeap} (tT : TyIs P T α) (hx : EvA C σ H x (.ln w (Lens.id (α := α)))) (hy : EvA C σ H y (.v c)) (hH : Hole H (bb, .ob w a) F)
    (k : KH .any (F (bb, .ob w c))) : OpH P C N ⟨d, .store T x y, ty, ps, af, g⟩ σ H KH := .stL tT hx hy hH k
theorem OpP.ldW {α : Type} {r : Rep α} {i : Inhabited α} {w : Value} {a : α} {bb : Bool} {F : Bool × Blk → AHeap} (tT : TyIs P T α) (hx : EvA C σ H x (.ln w (Lens.id (α := α)))) (hH : Hole H (bb, .ob w a) F) (k : K (.v a)) :
    OpP P N C ⟨d, .load T x, ty, ps, af, g⟩ σ H K := .ldL tT hx hH k
theorem OpS.storeG {ρ : Env} {I : Im} {L : Lh} {K : Value → Im → Lh → Prop} (i : Nat) {b off : Nat} {v : Value} {cs vs : List Value} {e : TypeId} {q : Nat × Nat} (hs : SizeIs P T vs.length) (hx : ev ρ x = some (ptr b off)) (hy : ev ρ y = some v) (hv : v.cells.toList = vs) (h1 : ones vs = true)
    (hL : L[i]? = some [(b, .cells cs.toArray e q)]) (hq : ∀ j, j < cs.length → ¬ (q.1 ≤ j ∧ j < q.2)) (hle : off + vs.length ≤ cs.length) (k : K undef I (L.set i [(b, .cells (segSet cs off vs).toArray e q)])) :
    OpS P C N ⟨d, .store T x y, ty, ps, af, g⟩ ρ I L K := fun a w ha hst => by
  have hb := hst.mem.loc (b, .cells cs.toArray e q) (mem_chunk hL (by simp))
  have hvs : v.cells.size = vs.length := by rw [← hv]; simp
  have hall : ∀ u ∈ vs, u.oneCell' = true := fun u hu => List.all_eq_true.1 h1 u hu
  have hrun := run_storeCells_fr P b off e q vs 0 cs.toArray w hb (by simpa using hle) hall (by simpa using hq)
  have hr : (execOp a.eval ⟨d, .store T x y, ty, ps, af, g⟩).run P w = .ok .skip (w.setRow b (segSet cs off vs).toArray) := by
    simp only [Nat.add_zero] at hrun
    simp [execOp, ha.ev hx, ha.ev hy, Instr.storeAt, Instr.sureAddr, storeVar, hs.run, hvs, hv, hrun, segSet]
  rw [hr]
  exact ⟨I, _, setRowG hst hL _, k⟩
theorem OpH.stE {α β : Type} {r : Rep α} {s : Rep β} {i : Inhabited β} {w : Value} {l : Lens α β} {as : List α} {c : β} {kk : Nat} {bb : Bool} {E' : TypeId} {F : Bool × Blk → AHeap} (tT : TyIs P T β) (hx : EvA C σ H x (.el w kk l)) (hy : EvA C σ H y (.v c))
    (hH : Hole H (bb, .own E' w as) F) (hk : kk < as.length) (k : KH .any (F (bb, .own E' w (as.set kk (l.set c as[kk]))))) : OpH P C N ⟨d, .store T x y, ty, ps, af, g⟩ σ H KH := fun ρ I L hs => by
  obtain ⟨u, h2, b, h3, rfl⟩ := hx ρ I L hs
  obtain ⟨u, h7, vs, h8, rfl⟩ := hy ρ I L hs
  obtain ⟨j, X, h4, h5, h6⟩ := hH.get hs.heap
  obtain ⟨xs, ho, h9⟩ := h5.1
  rcases ho with ⟨_, h, _⟩ | ⟨b2, cc, sp, q, rfl, rfl, e1, e2, e3, e4, e5⟩
  · omega
  · cases h3
    have hfit : kk * Rep.size α + l.off + vs.length ≤ xs.length := by
      rw [Rep.len h8, h9.len]
      have := l.fits
      have h10 := Nat.mul_le_mul_right (Rep.size α) (Nat.succ_le_of_lt hk)
      rw [Nat.succ_mul] at h10
      omega
    have hset : repL I (as.set kk (l.set c as[kk])) (segSet xs (kk * Rep.size α + l.off) vs) := by
      have h10 := h9.set kk hk (l.sets (h9.get kk hk) h8)
      rw [segSet_segSet (by rw [Rep.len h8]; exact l.fits) (by
        rw [h9.len]
        have h11 := Nat.mul_le_mul_right (Rep.size α) (Nat.succ_le_of_lt hk)
        rw [Nat.succ_mul] at h11
        omega)] at h10
      exact h10
    refine OpS.storeG j (by rw [Rep.len h8]; exact tT.size) h2 h7 (cells_asV h8) (Rep.flat h8) h4 (fun i hi => by rcases e5 with rfl | rfl <;> simp at hi ⊢ <;> omega) (by rw [List.length_append]; omega) ?_
    have hseg : segSet (xs ++ sp) (kk * Rep.size α + l.off) vs = segSet xs (kk * Rep.size α + l.off) vs ++ sp := segSet_append xs sp _ vs hfit
    have hlen : (segSet xs (kk * Rep.size α + l.off) vs).length = xs.length := segSet_length _ _ _ hfit
    refine ⟨Le.refl I, .any, _, trivial, h6 I (bb, .own E' _ (as.set kk (l.set c as[kk]))) _ (Le.refl I) ⟨⟨segSet xs (kk * Rep.size α + l.off) vs, .inr ⟨b, cc, sp, q, ?_, by rw [hseg], by rw [hlen, List.length_set]; exact e1, by rw [List.length_append, hlen, ← List.length_append]; exact e2, by rw [List.length_set]; exact e3, e4, ?_⟩, hset⟩, fun hb p hp => ?_⟩, k⟩
    · rw [List.length_set]
    · rw [List.length_append, hlen, ← List.length_append]; exact e5
    · have := h5.2 hb (b, .cells (xs ++ sp).toArray E' q) (by simp)
      simp only [List.mem_singleton] at hp
      subst hp; exact this
/-! new memory -/
theorem OpH.ofX {o : Oper} (h : ∀ ρ I L, RSt C I L σ H ρ → OpX P N o ρ I L (fun v J X => ∃ r B Xc, X = [Xc] ∧ RepV J r v ∧ Blk.brep J B Xc ∧ KH r ((true, B) :: H))) : OpH P C N o σ H KH := fun ρ I L hs a w ha hst =>
  (h ρ I L hs a w ha hst.mem).mono fun v w' ⟨J, X, hc, hle, hn, hm, hX, r, B, Xc, e, h1, h2, h3⟩ => by
    subst e
    exact ⟨J, [Xc] ++ L, hst.step hc hle hn hm hX, hle, r, (true, B) :: H, h1, ⟨Xc, L, rfl, ⟨h2, fun _ p hp => Nat.le_trans hst.chg.size (hX p (by simpa using hp))⟩, hs.heap.mono hle⟩, h3⟩
theorem OpH.alloc {α : Type} {r : Rep α} {i : Inhabited α} (tT : TyIs P T α) (k : ∀ b, KH (.ln (ptr b 0) (Lens.id (α := α))) ((true, .ob (ptr b 0) (default : α)) :: H)) : OpH P C N ⟨d, .alloc T, ty, ps, af, g⟩ σ H KH :=
  .ofX fun ρ I L hs => by
    obtain ⟨zs, h1, h2⟩ := tT.zero
    exact .alloc h1 fun b => ⟨.ln (ptr b 0) (Lens.id (α := α)), .ob (ptr b 0) (default : α), _, rfl, ⟨b, rfl, rfl⟩, ⟨b, T, zs, rfl, rfl, h2 I⟩, k b⟩
theorem OpH.box {α : Type} {r : Rep α} {a : α} (hx : EvA C σ H x (.v a)) (k : ∀ b, KH (.ln (ptr b 0) (Lens.id (α := α))) ((true, .ob (ptr b 0) a) :: H)) : OpH P C N ⟨d, .box T x, ty, ps, af, g⟩ σ H KH :=
  .ofX fun ρ I L hs => by
    obtain ⟨u, h1, cs, h2, rfl⟩ := hx ρ I L hs
    exact .box h1 (cells_asV h2) fun b => ⟨.ln (ptr b 0) (Lens.id (α := α)), .ob (ptr b 0) a, _, rfl, ⟨b, rfl, rfl⟩, ⟨b, T, cs, rfl, rfl, h2⟩, k b⟩
/-! parts of values -/
theorem OpP.fld {β γ : Type} {s : Rep β} {q : Rep γ} {i off sz : Nat} {ag : Bool} {a : β} (m : Lens β γ) (hf : fieldOff P T i = some (off, sz, ag)) (ho : off = m.off) (hz : sz = Rep.size γ) (hg : ag = Rep.agg γ) (hb : Rep.agg β = true) (hx : EvA C σ H x (.v a)) (k : K (.v (m.get a))) :
    OpP P N C ⟨d, .field T x i, ty, ps, af, g⟩ σ H K :=
  .vk k (fun ρ I L hs => by
    obtain ⟨u, h2, cs, h3, rfl⟩ := hx ρ I L hs
    subst ho; subst hz; subst hg
    have hgs := m.gets h3
    rw [hb] at h2
    cases hag : Rep.agg γ with
    | true =>
      rw [hag] at hf
      exact .fieldA hf h2 rfl ⟨_, hgs, by rw [hag]; rfl⟩
    | false =>
      rw [hag] at hf
      obtain ⟨v, hv, hv2⟩ := asV_one hgs hag
      refine .fieldS hf h2 (v := v) ?_ ⟨_, hgs, hv2.symm⟩
      have : (segGet cs m.off (Rep.size γ))[0]? = some v := by rw [hv]; rfl
      simpa using segGet_get this)
/-- An element of an array's value. -/
theorem OpP.ix {β : Type} {s : Rep β} {n : Nat} {a : Arr n β} {i : Int} (hf : elemOff P T = some (n, Rep.size β, false)) (hb : Rep.agg β = false) (hx : EvA C σ H x (.v a)) (hy : EvA C σ H y (.v i)) (h0 : 0 ≤ i) (h1 : i < n)
    (k : K (.v (a.l[i.toNat]'(by rw [a.h]; omega)))) : OpP P N C ⟨d, .index T x y, ty, ps, af, g⟩ σ H K :=
  .vk k (fun ρ I L hs => by
    obtain ⟨u, h2, cs, h3, rfl⟩ := hx ρ I L hs
    have hgs := repL.get h3 i.toNat (by rw [a.h]; omega)
    obtain ⟨v, hv, hv2⟩ := asV_one hgs hb
    refine .indexS hf h2 (hy.int hs).1 h0 h1 (v := v) ?_ ⟨_, hgs, hv2.symm⟩
    have : (segGet cs (i.toNat * Rep.size β) (Rep.size β))[0]? = some v := by rw [hv]; rfl
    simpa using segGet_get this)
theorem OpP.ixStr {s : Str} {i : Int} (hT : P.underlying T = some .string) (hx : EvA C σ H x (.v s)) (hy : EvA C σ H y (.v i)) (h0 : 0 ≤ i) (h1 : i < s.l.length) (k : K (.v (s.l[i.toNat]'(by omega)))) : OpP P N C ⟨d, .index T x y, ty, ps, af, g⟩ σ H K :=
  .vk k (fun ρ I L hs => by
    obtain ⟨b, h2, h3⟩ := hx.str hs
    obtain ⟨h4, _⟩ := hy.int hs
    obtain ⟨m, rfl⟩ := Int.eq_ofNat_of_zero_le h0
    refine .indexStr hT h2 h4 (c := s.l[m]'(by omega)) ?_ ⟨_, rfl, rfl⟩
    rw [h3]
    exact List.getElem?_eq_getElem _)
/-! slices of slices -/
theorem repL.cut {α : Type} [Rep α] {I : Im} {l : List α} {xs : List Value} (h : repL I l xs) (a b : Nat) (hb : b ≤ l.length) : repL I ((l.take b).drop a) ((xs.take (b * Rep.size α)).drop (a * Rep.size α)) := by
  have h1 : repL I (l.take b) (xs.take (b * Rep.size α)) := by
    have h2 := h
    rw [← List.take_append_drop b l] at h2
    have := h2.split.1
    rwa [List.length_take, Nat.min_eq_left hb] at this
  by_cases ha : a ≤ b
  · have h2 := h1
    rw [← List.take_append_drop a (l.take b)] at h2
    have := h2.split.2
    rwa [List.length_take, List.length_take, Nat.min_eq_left hb, Nat.min_eq_left ha] at this
  · have e : (l.take b).drop a = [] := List.drop_eq_nil_of_le (by rw [List.length_take]; omega)
    have e2 : (xs.take (b * Rep.size α)).drop (a * Rep.size α) = [] := List.drop_eq_nil_of_le (by
      rw [List.length_take]
      exact Nat.le_trans (Nat.min_le_left _ _) (Nat.mul_le_mul_right _ (by omega)))
    rw [e, e2]; rfl
theorem OpP.sl {α : Type} {r : Rep α} {i0 : Inhabited α} {l : List α} {lo hi : Option Operand} (a b : Nat) (tE : TyIs P E α) (hT : P.underlying T = some (.slice E)) (hx : EvA C σ H x (.v l))
    (hlo : (lo = none ∧ a = 0) ∨ ∃ o, lo = some o ∧ EvA C σ H o (.v (a : Int))) (hhi : (hi = none ∧ b = l.length) ∨ ∃ o, hi = some o ∧ EvA C σ H o (.v (b : Int))) (h1 : a ≤ b) (h2 : b ≤ l.length)
    (k : K (.v ((l.take b).drop a))) : OpP P N C ⟨d, .slice T x lo hi none, ty, ps, af, g⟩ σ H K :=
  .vk k (fun ρ I L hs => by
    obtain ⟨u, hu, xs, hsl, hl⟩ := hx.sl hs
    refine .slice hT tE.size hu hsl (l := a) (h := b) ?_ ?_ h1 h2 (fun v' hv' => ?_)
    · rcases hlo with ⟨rfl, rfl⟩ | ⟨o, rfl, ho⟩
      · exact .inl ⟨rfl, rfl⟩
      · exact .inr ⟨_, o, rfl, (ho.int hs).1⟩
    · rcases hhi with ⟨rfl, rfl⟩ | ⟨o, rfl, ho⟩
      · exact .inl ⟨rfl, rfl⟩
      · exact .inr ⟨_, o, rfl, (ho.int hs).1⟩
    · refine ⟨_, ⟨v', rfl, _, ?_, hl.cut a b h2⟩, rfl⟩
      have e : ((l.take b).drop a).length = b - a := by simp [Nat.min_eq_left h2]
      rw [e]; exact hv')
section sl
variable {α : Type} {r : Rep α} {i0 : Inhabited α} {l : List α} {i j : Int} (tE : TyIs P E α) (hT : P.underlying T = some (.slice E)) (hx : EvA C σ H x (.v l))
include tE hT hx
theorem OpP.slLo (hy : EvA C σ H y (.v i)) (h0 : 0 ≤ i) (h1 : i ≤ l.length) (k : K (.v (l.drop i.toNat))) : OpP P N C ⟨d, .slice T x (some y) none none, ty, ps, af, g⟩ σ H K :=
  .sl i.toNat l.length tE hT hx (.inr ⟨y, rfl, by rw [Int.toNat_of_nonneg h0]; exact hy⟩) (.inl ⟨rfl, rfl⟩) (by omega) (Nat.le_refl _) (by rw [List.take_length]; exact k)
theorem OpP.slHi (hz : EvA C σ H z (.v j)) (h0 : 0 ≤ j) (h1 : j ≤ l.length) (k : K (.v (l.take j.toNat))) : OpP P N C ⟨d, .slice T x none (some z) none, ty, ps, af, g⟩ σ H K :=
  .sl 0 j.toNat tE hT hx (.inl ⟨rfl, rfl⟩) (.inr ⟨z, rfl, by rw [Int.toNat_of_nonneg h0]; exact hz⟩) (by omega) (by omega) (by rw [List.drop_zero]; exact k)
theorem OpP.slLH (hy : EvA C σ H y (.v i)) (hz : EvA C σ H z (.v j)) (h0 : 0 ≤ i) (h1 : i ≤ j) (h2 : j ≤ l.length) (k : K (.v ((l.take j.toNat).drop i.toNat))) : OpP P N C ⟨d, .slice T x (some y) (some z) none, ty, ps, af, g⟩ σ H K :=
  .sl i.toNat j.toNat tE hT hx (.inr ⟨y, rfl, by rw [Int.toNat_of_nonneg h0]; exact hy⟩) (.inr ⟨z, rfl, by rw [Int.toNat_of_nonneg (by omega)]; exact hz⟩) (by omega) (by omega) k
theorem OpP.slAll (k : K (.v l)) : OpP P N C ⟨d, .slice T x none none none, ty, ps, af, g⟩ σ H K :=
  .sl 0 l.length tE hT hx (.inl ⟨rfl, rfl⟩) (.inl ⟨rfl, rfl⟩) (by omega) (Nat.le_refl _) (by rw [List.take_length, List.drop_zero]; exact k)
end sl
/-- All of an array of the call's own. -/
theorem OpP.slArrL {α β : Type} {n : Nat} {r : Rep α} {s : Rep β} {ag : Bool} {w : Value} {l : Lens α (Arr n β)} (hf : elemOff P T = some (n, Rep.size β, ag)) (hx : EvA C σ H x (.ln w l)) (k : K (.sv w l)) : OpP P N C ⟨d, .slice T x none none none, ty, ps, af, g⟩ σ H K :=
  .vk k (fun ρ I L hs => by
    obtain ⟨u, h2, b, h3, rfl⟩ := hx ρ I L hs
    exact .sliceArr hf h2 ⟨b, h3, rfl⟩)
theorem OpP.slArrP {β : Type} {n : Nat} {s : Rep β} {ag : Bool} {a : Arr n β} (hn : n ≤ 9223372036854775807) (hf : elemOff P T = some (n, Rep.size β, ag)) (hx : EvA C σ H x (.p a)) (k : K (.v a.l)) : OpP P N C ⟨d, .slice T x none none none, ty, ps, af, g⟩ σ H K :=
  .vk k (fun ρ I L hs => by
    obtain ⟨u, h2, b, o, cs, rfl, h3, h4⟩ := hx ρ I L hs
    refine .sliceArr hf h2 ⟨_, ⟨_, rfl, cs, ?_, h3⟩, rfl⟩
    have hl := h3.len
    rw [a.h] at hl ⊢
    exact Sl.of_cells h4 hl (Nat.le_refl _) (by unfold maxLen; omega))
theorem OpP.slStr {s : Str} {lo hi : Option Operand} (a b : Nat) (hT : P.underlying T = some .string) (hx : EvA C σ H x (.v s)) (hlo : (lo = none ∧ a = 0) ∨ ∃ o, lo = some o ∧ EvA C σ H o (.v (a : Int)))
    (hhi : (hi = none ∧ b = s.l.length) ∨ ∃ o, hi = some o ∧ EvA C σ H o (.v (b : Int))) (h1 : a ≤ b) (h2 : b ≤ s.l.length) (k : K (.v (Str.mk ((s.l.take b).drop a)))) : OpP P N C ⟨d, .slice T x lo hi none, ty, ps, af, g⟩ σ H K :=
  .vk k (fun ρ I L hs => by
    obtain ⟨ba, hu, he⟩ := hx.str hs
    have e : ba.size = s.l.length := by rw [← he]; rfl
    refine .sliceStr hT hu (l := a) (h := b) ?_ ?_ h1 (by omega) ⟨_, ⟨⟨_, rfl, ?_⟩, by have := hx.strLe hs; simp only [List.length_drop, List.length_take]; omega⟩, rfl⟩
    · rcases hlo with ⟨rfl, rfl⟩ | ⟨o, rfl, ho⟩
      · exact .inl ⟨rfl, rfl⟩
      · exact .inr ⟨_, o, rfl, (ho.int hs).1⟩
    · rcases hhi with ⟨rfl, rfl⟩ | ⟨o, rfl, ho⟩
      · exact .inl ⟨rfl, e.symm⟩
      · exact .inr ⟨_, o, rfl, (ho.int hs).1⟩
    · simp only [ByteArray.data_extract, Array.toList_extract]
      rw [← he, List.extract_eq_take_drop, List.drop_take])
end Go.Ab
/- Rules over typed values: composite values, growing slices, strings, equality. -/
set_option linter.unusedVariables false
namespace Go.Ab
open Go.Fl Go.RowKit
open Rep (rep)
variable {P : Program} {C : Ctx} {N : Nat} {σ : AEnv} {H : AHeap} {K : AV → Prop} {KH : AV → AHeap → Prop} {d : Option Nat} {ty : TypeId} {ps : String} {af : Array Edge} {g : Option (Nat × Bool)}
variable {x y z : Operand} {T T2 E S D U : TypeId}
/-- The parts of a composite value laid one after the other. -/
inductive Parts {α : Type} [Rep α] (C : Ctx) (σ : AEnv) (H : AHeap) (place : Nat → Option (Nat × Nat)) : List (Nat × Operand) → α → α → Prop
  | nil {x : α} : Parts C σ H place [] x x
  | cons {i : Nat} {o : Operand} {γ : Type} {q : Rep γ} {r : List (Nat × Operand)} {x y : α} (m : Lens α γ) (c : γ) (hi : place i = some (m.off, Rep.size γ)) (ho : EvA C σ H o (.v c)) (t : Parts C σ H place r (m.set c x) y) : Parts C σ H place ((i, o) :: r) x y
theorem Parts.run {α : Type} [Rep α] {place : Nat → Option (Nat × Nat)} {ρ : Env} {I : Im} {L : Lh} (hs : RSt C I L σ H ρ) {ps : List (Nat × Operand)} {x y : α} (h : Parts C σ H place ps x y) : ∀ {cells : Array Value}, rep I x cells.toList →
    ∃ pv out, evP ρ ps = some pv ∧ Instr.fill place cells pv = some out ∧ rep I y out.toList := by
  induction h with
  | nil => intro cells hc; exact ⟨[], cells, rfl, rfl, hc⟩
  | @cons i o γ q r x y m c hi ho t ih =>
    intro cells hc
    obtain ⟨u, h1, vs, h2, rfl⟩ := ho ρ I L hs
    have hcv := cells_asV h2
    have hsz : (asV (Rep.agg γ) vs).cells.size = Rep.size γ := by have := congrArg List.length hcv; rw [Rep.len h2] at this; simpa using this
    have hcl : cells.size = Rep.size α := by have := Rep.len hc; simpa using this
    have hfit := m.fits
    have hseg := fill_seg (cells := cells) (vs := (asV (Rep.agg γ) vs).cells) (off := m.off) (by rw [hsz, hcl]; exact hfit)
    rw [hcv] at hseg
    obtain ⟨pv, out, h3, h4, h5⟩ := ih (cells := (asV (Rep.agg γ) vs).cells.zipIdx.foldl (fun cs (c, j) => cs.setIfInBounds (m.off + j) c) cells) (by rw [hseg]; exact m.sets hc h2)
    refine ⟨(i, asV (Rep.agg γ) vs) :: pv, out, by simp [evP, h1, h3], ?_, h5⟩
    simp only [Instr.fill, hi]
    rw [if_neg (by simp only [hsz, ne_eq, not_true, hcl, gt_iff_lt]; simp; omega)]
    exact h4
theorem offs_run {offs : List (Nat × Nat)} (hT : fieldOffs P T = some offs) (w : World) : ∃ fs, P.underlying T = some (.struct fs) ∧ (fs.mapM fun f => (do pure (f.offset, ← sizeOf f.type) : Sem (Nat × Nat))).run P w = .ok offs.toArray w := by
  unfold fieldOffs at hT
  split at hT
  · rename_i fs hu
    have hpl : ∀ (l : List Field) (o : List (Nat × Nat)), (l.mapM fun f => (P.info? f.type).map fun i => (f.offset, i.size)) = some o →
        (l.mapM fun f => (do pure (f.offset, ← sizeOf f.type) : Sem (Nat × Nat))).run P w = .ok o w := by
      intro l
      induction l with
      | nil => intro o h; simp at h; subst h; simp
      | cons f r ih =>
        intro o h
        rw [List.mapM_cons] at h
        cases hq : P.info? f.type with
        | none => simp [hq] at h
        | some inf =>
          cases hr : (r.mapM fun f => (P.info? f.type).map fun i => (f.offset, i.size)) with
          | none => simp [hq, hr] at h
          | some o' =>
            simp [hq, hr] at h
            subst h
            have hsz : SizeIs P f.type inf.size := by simp [SizeIs, hq]
            rw [List.mapM_cons, Sem.run_bind, Sem.run_bind, hsz.run]
            simp only [Result.andThen_ok, Sem.run_pure, Sem.run_bind]
            rw [ih o' hr]
            simp
    refine ⟨fs, hu, ?_⟩
    rw [Array.mapM_eq_mapM_toList, map_eq_pure_bind, Sem.run_bind, hpl fs.toList offs hT]
    simp
  · cases hT
/-- A structure's literal. -/
theorem OpP.buildS {α : Type} {r : Rep α} {i0 : Inhabited α} {offs : List (Nat × Nat)} {parts : Array (Nat × Operand)} {a : α} (c : α) (hg : Rep.agg α = true) (tT : TyIs P T α) (hT : fieldOffs P T = some offs) (hp : Parts C σ H (fun i => offs[i]?) parts.toList (default : α) a) (e : a = c) (k : K (.v c)) :
    OpP P N C ⟨d, .build T parts, ty, ps, af, g⟩ σ H K := by
  subst e
  exact .vk k (fun ρ I L hs => by
    obtain ⟨zs, hz1, hz2⟩ := tT.zero
    intro ac w ha hm
    obtain ⟨zv, h1, h2⟩ := zeros_run hz1 w
    obtain ⟨pv, out, h3, h4, h5⟩ := hp.run hs (cells := zv.cells) (by rw [h2]; exact hz2 I)
    have hparts : (parts.map fun x => (x.1, ac.eval x.2)).toList = pv := by rw [Array.toList_map]; exact ha.evP h3
    obtain ⟨fs, hu, h6⟩ := offs_run hT w
    refine ⟨.agg out, ⟨out.toList, h5, by rw [hg]; rfl⟩, ?_⟩
    have e1 : (fun (i : Nat) => offs.toArray[i]?) = fun (i : Nat) => offs[i]? := by funext i; simp
    simp only [execOp, Instr.build, Sem.run_bind, h1, Result.andThen_ok, run_underlying hu, h6, hparts, Sem.run_pure, e1, h4])
/-- An array's literal. -/
theorem OpP.buildA {β : Type} {n : Nat} {r : Rep β} {i0 : Inhabited β} {ag : Bool} {parts : Array (Nat × Operand)} {a : Arr n β} (c : Arr n β) (tT : TyIs P T (Arr n β)) (hT : elemOff P T = some (n, Rep.size β, ag)) (hp : Parts C σ H (fun i => some (i * Rep.size β, Rep.size β)) parts.toList (default : Arr n β) a) (e : a = c) (k : K (.v c)) :
    OpP P N C ⟨d, .build T parts, ty, ps, af, g⟩ σ H K := by
  subst e
  exact .vk k (fun ρ I L hs => by
    obtain ⟨zs, hz1, hz2⟩ := tT.zero
    intro ac w ha hm
    obtain ⟨zv, h1, h2⟩ := zeros_run hz1 w
    obtain ⟨pv, out, h3, h4, h5⟩ := hp.run hs (cells := zv.cells) (by rw [h2]; exact hz2 I)
    have hparts : (parts.map fun x => (x.1, ac.eval x.2)).toList = pv := by rw [Array.toList_map]; exact ha.evP h3
    unfold elemOff at hT
    split at hT
    · rename_i m e hu
      split at hT
      · rename_i inf dd h6 h7
        simp only [Option.some.injEq, Prod.mk.injEq] at hT
        obtain ⟨rfl, h8, _⟩ := hT
        have hsz : SizeIs P e (Rep.size β) := by simp [SizeIs, h6, h8]
        refine ⟨.agg out, ⟨out.toList, h5, rfl⟩, ?_⟩
        simp only [execOp, Instr.build, Sem.run_bind, h1, Result.andThen_ok, run_underlying hu, hsz.run, hparts, h4, Sem.run_pure]
      · cases hT
    · cases hT)
/-- The elements of a slice's literal, all of them in order. -/
inductive Elems {α : Type} [Rep α] (C : Ctx) (σ : AEnv) (H : AHeap) : Nat → List (Nat × Operand) → List α → Prop
  | nil {i : Nat} : Elems C σ H i [] []
  | cons {i : Nat} {o : Operand} {c : α} {r : List (Nat × Operand)} {l : List α} (ho : EvA C σ H o (.v c)) (t : Elems C σ H (i + 1) r l) : Elems C σ H i ((i, o) :: r) (c :: l)
theorem Elems.run {α : Type} [Rep α] {ρ : Env} {I : Im} {L : Lh} (hs : RSt C I L σ H ρ) {i : Nat} {ps : List (Nat × Operand)} {l : List α} (h : Elems C σ H i ps l) : ∃ pv vs, evP ρ ps = some pv ∧ sideBySide (Rep.size α) i pv = some vs ∧ repL I l vs := by
  induction h with
  | nil => exact ⟨[], [], rfl, rfl, rfl⟩
  | @cons i o c r l ho t ih =>
    obtain ⟨u, h1, cs, h2, rfl⟩ := ho ρ I L hs
    obtain ⟨pv, vs, h3, h4, h5⟩ := ih
    have hcv := cells_asV h2
    have hsz : (asV (Rep.agg α) cs).cells.size = Rep.size α := by have := congrArg List.length hcv; rw [Rep.len h2] at this; simpa using this
    refine ⟨(i, asV (Rep.agg α) cs) :: pv, cs ++ vs, by simp [evP, h1, h3], ?_, cs, vs, rfl, h2, h5⟩
    have b1 : Nat.beq i i = true := Nat.beq_refl i
    simp only [sideBySide, hsz, b1, Nat.beq_refl, Bool.and_self, cond_true, h4, Option.map_some, hcv]
theorem OpH.buildSlice {α : Type} {r : Rep α} {i0 : Inhabited α} {n : Nat} {l : List α} {parts : Array (Nat × Operand)} (tE : TyIs P E α) (hT : P.underlying T = some (.slice E)) (hp : Elems C σ H 0 parts.toList l) (hn : l.length = n) (hb : n * Rep.size α ≤ 16777216)
    (k : ∀ b, KH (.raw (slc b 0 n n)) ((true, .own E (slc b 0 n n) l) :: H)) : OpH P C N ⟨d, .buildSlice T n parts, ty, ps, af, g⟩ σ H KH :=
  .ofX fun ρ I L hs => by
    obtain ⟨zs, hz1, hz2⟩ := tE.zero
    obtain ⟨pv, vs, h1, h2, h3⟩ := hp.run hs
    subst hn
    have hl := h3.len
    refine .buildSlice hT tE.size hz1 (Rep.len (hz2 I)) h1 h2 hl hb fun b => ⟨.raw (slc b 0 l.length l.length), .own E (slc b 0 l.length l.length) l, _, rfl, rfl, ⟨vs, .of (.made hl ?_), h3⟩, k b⟩
    have : 1 ≤ Rep.size α := Nat.one_le_iff_ne_zero.2 tE.pos
    have := Nat.mul_le_mul_left l.length this
    unfold maxLen; omega
/-- What 'make' lays. -/
structure SlT (P : Program) (T E : TypeId) (α : Type) (by_ : Nat) [Rep α] [Inhabited α] : Prop where
  elt : Elt P T E (Rep.size α) by_
  ty : TyIs P E α
theorem madeCells_gen {zs : List Value} {n : Nat} (h : zs.length ≠ 0) : madeCells zs.toArray (n * zs.length) = (List.replicate n zs).flatten.toArray := by
  apply Array.ext'
  apply List.ext_getElem?
  intro i
  unfold madeCells
  simp only [Array.toList_map, Array.toList_range, List.getElem?_map, List.size_toArray]
  by_cases hi : i < n * zs.length
  · rw [List.getElem?_range hi]
    have hm : i % zs.length < zs.length := Nat.mod_lt _ (by omega)
    simp only [Option.map_some]
    have key : ∀ (n i : Nat), i < n * zs.length → (List.replicate n zs).flatten[i]? = zs[i % zs.length]? := by
      intro n
      induction n with
      | zero => intro i hi; simp at hi
      | succ n ih =>
        intro i hi
        rw [List.replicate_succ, List.flatten_cons]
        by_cases h1 : i < zs.length
        · rw [List.getElem?_append_left h1, Nat.mod_eq_of_lt h1]
        · rw [List.getElem?_append_right (by omega), ih (i - zs.length) (by rw [Nat.succ_mul] at hi; omega)]
          exact congrArg (fun q => zs[q]?) (Nat.mod_eq_sub_mod (by omega)).symm
    rw [key n i hi]
    simp [hm]
  · have hf : ((List.replicate n zs).flatten).length = n * zs.length := by simp
    rw [List.getElem?_eq_none (by simp; omega), List.getElem?_eq_none (by rw [hf]; omega)]
    rfl
theorem OpH.make {α : Type} {r : Rep α} {i0 : Inhabited α} {by_ : Nat} {i : Int} (st : SlT P T E α by_) (hx : EvA C σ H x (.v i)) (h0 : 0 ≤ i) (hb : (by_ : Int) * i ≤ 281474976710656) (hn : i ≤ 9223372036854775807)
    (k : ∀ b, KH (.raw (slc b 0 i.toNat i.toNat)) ((true, .own E (slc b 0 i.toNat i.toNat) (List.replicate i.toNat (default : α))) :: H)) : OpH P C N ⟨d, .makeSlice T x x, ty, ps, af, g⟩ σ H KH :=
  .ofX fun ρ I L hs => by
    obtain ⟨inf, zv, h1, h2, h3, h4, h5⟩ := st.elt.info
    obtain ⟨zs, hz1, hz2⟩ := st.ty.zero
    have hze : zs = zv.cells.toList := by
      have : zerosOf P E = some zv.cells.toList := by simp [zerosOf, h1, h2]
      rw [this] at hz1; exact (Option.some.inj hz1).symm
    have hzl : zs.length = Rep.size α := Rep.len (hz2 I)
    have hrep : repL I (List.replicate i.toNat (default : α)) (List.replicate i.toNat zs).flatten := repL_replicate (hz2 I) i.toNat
    obtain ⟨hxi, _⟩ := hx.int hs
    refine opx_new (v := fun b => slc b 0 i.toNat i.toNat) (cs := (List.replicate i.toNat zs).flatten) (e := E) (fun a w ha hm => ?_)
      fun b => ⟨.raw (slc b 0 i.toNat i.toNat), .own E (slc b 0 i.toNat i.toNat) (List.replicate i.toNat (default : α)), _, rfl, rfl, ⟨_, .of ?_, hrep⟩, k b⟩
    · have h := run_make (P := P) w T E inf zv st.elt.und h1 h2 .i64 .i64 i i h0 (Int.le_refl _) (by rw [h4]; exact hb) hn
      simp only [execOp, Sem.run_bind, ha.ev hxi, h, Result.andThen_ok, Sem.run_pure]
      have e1 : madeCells zv.cells (i.toNat * inf.size) = (List.replicate i.toNat zs).flatten.toArray := by
        have := madeCells_gen (zs := zs) (n := i.toNat) (by rw [hzl]; exact st.ty.pos)
        rw [hze] at this ⊢
        rw [← this, h3, ← hzl, hze]
      rw [e1]
    · have := Own.made (e := E) (s := Rep.size α) (b := b) (n := i.toNat) (xs := (List.replicate i.toNat zs).flatten) (by simp [hzl]) (by unfold maxLen; omega)
      simpa using this
theorem SlT.pos {α : Type} [Rep α] [Inhabited α] {by_ : Nat} (st : SlT P T E α by_) : 0 < Rep.size α := Nat.pos_of_ne_zero st.ty.pos
/-- What an appended value brings. -/
def SrcA (P : Program) (C : Ctx) (σ : AEnv) (H : AHeap) (y : Operand) {α : Type} [Rep α] (m : List α) : Prop := ∀ ρ I L, RSt C I L σ H ρ → ∃ u news, ev ρ y = some u ∧ Src P I L (Rep.size α) u m.length news ∧ repL I m news
theorem SrcA.v {α : Type} {r : Rep α} {m : List α} (h : EvA C σ H y (.v m)) : SrcA P C σ H y m := fun ρ I L hs => by
  obtain ⟨u, h1, xs, h2, h3⟩ := h.sl hs
  exact ⟨u, xs, h1, .sl h2, h3⟩
theorem SrcA.own {α : Type} {r : Rep α} {t : Nat} {w : Value} {m : List α} {bb : Bool} {E' : TypeId} {F : Bool × Blk → AHeap} (ht : lookA σ t = some (.raw w)) (hH : Hole H (bb, .own E' w m) F) : SrcA P C σ H (.tmp t) m := fun ρ I L hs => by
  obtain ⟨u, h1, rfl⟩ := hs.env t _ ht
  obtain ⟨j, X, h2, h3, _⟩ := hH.get hs.heap
  obtain ⟨xs, h4, h5⟩ := h3.1
  exact ⟨_, xs, h1, Ab.Src.ownG j h2 h4, h5⟩
theorem SrcA.str {s : Str} (h : EvA C σ H y (.v s)) : SrcA P C σ H y s.l := fun ρ I L hs => by
  obtain ⟨b, h1, h2⟩ := h.str hs
  refine ⟨_, bytesV s.l, h1, ?_, ?_⟩
  · have := Src.str (P := P) (I := I) (L := L) b
    rw [h2] at this
    have e : b.size = s.l.length := by rw [← h2]; rfl
    rw [e] at this
    exact this
  · have : ∀ l : List UInt8, repL I l (bytesV l) := by
      intro l
      induction l with
      | nil => rfl
      | cons c l ih => exact ⟨[Fl.u8 c], bytesV l, rfl, rfl, ih⟩
    exact this s.l
theorem OpH.append {α : Type} {r : Rep α} {i0 : Inhabited α} {by_ t : Nat} {w : Value} {l m : List α} {bb : Bool} {F : Bool × Blk → AHeap} (st : SlT P T E α by_) (hU : (∃ E2, P.underlying U = some (.slice E2)) ∨ P.underlying U = some .string) (hx : lookA σ t = some (.raw w))
    (hH : Hole H (bb, .own E w l) F) (hy : SrcA P C σ H y m) (hb : (l.length + m.length) * by_ ≤ 140737488355328) (hn : l.length + m.length ≤ 9223372036854775807) (k : ∀ w', KH (.raw w') (F (true, .own E w' (l ++ m)))) (hbb : bb = true) :
    OpH P C N ⟨d, .call ⟨.builtin .append, #[.tmp t, y], #[T, U]⟩, ty, ps, af, g⟩ σ H KH := fun ρ I L hs => by
  obtain ⟨u, h1, rfl⟩ := hs.env t _ hx
  obtain ⟨v, news, h2, h3, h4⟩ := hy ρ I L hs
  obtain ⟨j, X, h5, h6, h7⟩ := hH.get hs.heap
  obtain ⟨xs, h8, h9⟩ := h6.1
  intro a w0 ha hst
  have hfr := h6.2 hbb
  refine Yld.mono (OpS.appendG (K := fun v' J L' => ∃ X', L' = L.set j X' ∧ J = I ∧ OwnG E (Rep.size α) v' (l.length + m.length) (xs ++ news) X' ∧ (∀ p ∈ X', p.1 ∈ X.map Prod.fst ∨ C.w0.heap.size ≤ p.1)) j st.elt st.pos hU (x := .tmp t) h1 h2 h5 h8 h3 h4.flat (by unfold maxLen; omega) hb (fun v' X' ho hn => ⟨X', rfl, rfl, ho, hn⟩) a w0 ha hst) ?_
  rintro v' w' ⟨J, L', hst', X', rfl, rfl, ho, hnew⟩
  refine ⟨J, _, hst', Le.refl J, .raw v', _, rfl, h7 J (true, .own E v' (l ++ m)) X' (Le.refl J) ⟨⟨xs ++ news, by rw [List.length_append]; exact ho, h9.append h4⟩, fun _ p hp => ?_⟩, k v'⟩
  rcases hnew p hp with h | h
  · obtain ⟨q, hq, hqe⟩ := List.mem_map.1 h
    rw [← hqe]; exact hfr q hq
  · exact h
/-- An operation that makes one block. -/
theorem OpX.push {ρ : Env} {I : Im} {L : Lh} {KX : Value → Im → Lh → Prop} {o : Oper} (h : ∀ a w, Fits N ρ a → Mem I L w → (∃ v, (execOp a.eval o).run P w = .ok (.value v) w ∧ KX v I []) ∨
    ∃ v w' ob, (execOp a.eval o).run P w = .ok (.value v) w' ∧ w'.heap = w.heap.push ob ∧ w'.os = w.os ∧ w'.tape = w.tape ∧ w'.output = w.output ∧ KX v I [[(w.heap.size, ob)]]) : OpX P N o ρ I L KX := fun a w ha hm => by
  rcases h a w ha hm with ⟨v, hr, hk⟩ | ⟨v, w', ob, hr, hw, h1, h2, h3, hk⟩
  · rw [hr]; exact ⟨I, [], Chg.refl _ _, Le.refl _, fun b h0 h1 => absurd h0 h1, hm, by simp, hk⟩
  · rw [hr]
    have hnI : I w.heap.size = none := by
      cases hi : I w.heap.size with
      | none => rfl
      | some o => have := lt_of_get (hm.im _ _ hi); omega
    have hnew : w'.heap[w.heap.size]? = some ob := by rw [hw]; simp
    have hold : ∀ k, k < w.heap.size → w'.heap[k]? = w.heap[k]? := fun k hk => by
      rw [hw, Array.getElem?_push_lt hk, Array.getElem?_eq_getElem hk]
    refine ⟨I, [[(w.heap.size, ob)]], ⟨h1, h2, h3, by rw [hw]; simp, fun k hk _ => hold k hk⟩, Le.refl I, fun b h0 h1 => absurd h0 h1, ⟨fun b o hb => ?_, fun p hp => ?_, fun p hp => ?_, ?_⟩, ?_, hk⟩
    · exact (hold b (lt_of_get (hm.im b o hb))).trans (hm.im b o hb)
    · simp only [List.cons_append, List.nil_append, List.flatten_cons, List.mem_cons] at hp
      rcases hp with rfl | hp
      · exact hnew
      · exact (hold _ (lt_of_get (hm.loc p hp))).trans (hm.loc p hp)
    · simp only [List.cons_append, List.nil_append, List.flatten_cons, List.mem_cons] at hp
      rcases hp with rfl | hp
      · exact hnI
      · exact hm.sep p hp
    · simp only [List.cons_append, List.nil_append, List.flatten_cons, List.map_cons, List.nodup_cons, List.mem_map, not_exists, not_and]
      refine ⟨fun p hp e => ?_, hm.nodup⟩
      have := lt_of_get (hm.loc p hp)
      omega
    · intro p hp; simp at hp; subst hp; exact Nat.le_refl _
/-- Appending to a slice without spare room. -/
theorem OpP.appendC {α : Type} {r : Rep α} {i0 : Inhabited α} {by_ : Nat} {l m : List α} (st : SlT P T E α by_) (hU : (∃ E2, P.underlying U = some (.slice E2)) ∨ P.underlying U = some .string) (hx : EvA C σ H x (.vc l)) (hy : SrcA P C σ H y m)
    (hb : (l.length + m.length) * by_ ≤ 140737488355328) (hn : l.length + m.length ≤ 9223372036854775807) (k : K (.v (l ++ m))) : OpP P N C ⟨d, .call ⟨.builtin .append, #[x, y], #[T, U]⟩, ty, ps, af, g⟩ σ H K := fun ρ I L hs => by
  obtain ⟨u, h1, ⟨a0, rfl⟩, xs, hsl, hrl⟩ := hx ρ I L hs
  obtain ⟨v, news, h2, h3, h4⟩ := hy ρ I L hs
  obtain ⟨inf, zv, e1, e2, e3, e4, e5⟩ := st.elt.info
  refine OpX.frz (OpX.push fun a w ha hm => ?_)
  have hcells : ∀ w', w'.heap = w.heap → (Builtin.firstCells inf.size m.length v).run P w' = .ok news.toArray w' := fun w' hw => by
    have hm' : Mem I L w' := ⟨by rw [hw]; exact hm.im, by rw [hw]; exact hm.loc, hm.sep, hm.nodup⟩
    have := h3.cells w' hm' m.length (Nat.le_refl _)
    rw [← h3.size, List.take_length, ← e3] at this; exact this
  have hboth : (l.length + m.length ≤ l.length → (Builtin.append_ #[T, U] ty #[.slice a0 l.length l.length, v]).run P w = ((match a0 with | some ad => storeCells (ad.add (l.length * inf.size)) news | none => pure ()).run P w).andThen fun _ w' => .ok (.slice a0 (l.length + m.length) l.length) w') ∧
    (l.length < l.length + m.length → ∀ olds, ((Builtin.firstCells inf.size l.length (.slice a0 l.length l.length)).run P w.drew = .ok olds w.drew) →
      (Builtin.append_ #[T, U] ty #[.slice a0 l.length l.length, v]).run P w = .ok (.slice (some ⟨w.heap.size, 0, none⟩) (l.length + m.length) (grownCap w (l.length + m.length) l.length E))
        (w.drew.alloc (.cells (olds ++ news.toArray ++ Builtin.zeroCells zv.cells (grownCap w (l.length + m.length) l.length E - (l.length + m.length))) E))) := by
    rcases hU with ⟨E2, hU⟩ | hU
    · exact run_append_sl st.elt.und e1 e2 hU h3.len hcells hn (by rw [e4]; exact hb)
    · exact run_append_str st.elt.und e1 e2 hU h3.len hcells hn (by rw [e4]; exact hb)
  have hop : ∀ r, (Builtin.append_ #[T, U] ty #[.slice a0 l.length l.length, v]).run P w = r → (execOp a.eval ⟨d, .call ⟨.builtin .append, #[x, y], #[T, U]⟩, ty, ps, af, g⟩).run P w = r.andThen fun v w' => .ok (.value v) w' := fun r hr => by
    simp [execOp, resolve, invoke, builtin, ha.ev h1, ha.ev h2, hr]
  by_cases h0 : m.length = 0
  · have hm0 : m = [] := List.eq_nil_of_length_eq_zero h0
    subst hm0
    have hnw : news = [] := by simpa [repL] using h4
    subst hnw
    left
    refine ⟨.slice a0 l.length l.length, ?_, fun J' hle _ => ⟨rfl, .v (l ++ []), ?_, k⟩⟩
    · rw [hop _ (hboth.1 (by simp))]
      cases a0 <;> simp [storeCells]
    · rw [List.append_nil]
      exact ⟨_, ⟨_, rfl, xs, hsl.mono hle, hrl.mono hle⟩, rfl⟩
  · right
    have hold : (Builtin.firstCells inf.size l.length (.slice a0 l.length l.length)).run P w.drew = .ok xs.toArray w.drew := by
      have hm' : Mem I L w.drew := ⟨hm.im, hm.loc, hm.sep, hm.nodup⟩
      have := (Src.sl (P := P) (L := L) hsl).cells w.drew hm' l.length (Nat.le_refl _)
      rw [← hsl.len, List.take_length, ← e3] at this; exact this
    have hr := hboth.2 (by omega) _ hold
    have hge := grownCap_ge w (l.length + m.length) l.length E
    have hcm : grownCap w (l.length + m.length) l.length E ≤ maxLen := grownCap_le_maxLen w _ _ E (by unfold maxLen; omega)
    refine ⟨.slice (some ⟨w.heap.size, 0, none⟩) (l.length + m.length) (grownCap w (l.length + m.length) l.length E), w.drew.alloc (.cells (xs.toArray ++ news.toArray ++ Builtin.zeroCells zv.cells (grownCap w (l.length + m.length) l.length E - (l.length + m.length))) E),
      .cells (xs.toArray ++ news.toArray ++ Builtin.zeroCells zv.cells (grownCap w (l.length + m.length) l.length E - (l.length + m.length))) E, by rw [hop _ hr]; rfl, rfl, rfl, rfl, rfl, fun J' hle hp => ⟨rfl, .v (l ++ m), ⟨_, ⟨_, rfl, xs ++ news, ?_, (hrl.append h4).mono hle⟩, rfl⟩, k⟩⟩
    have hob := hp (w.heap.size, _) (List.mem_singleton.2 rfl)
    rw [List.length_append]
    refine Sl.of_cells ⟨_, _, _, hob, fun i q hq => ?_⟩ ?_ hge hcm
    · have hi := (List.getElem?_eq_some_iff.1 hq).1
      rw [Nat.zero_add]
      have : (xs.toArray ++ news.toArray ++ Builtin.zeroCells zv.cells (grownCap w (l.length + m.length) l.length E - (l.length + m.length))) = (xs ++ news ++ (Builtin.zeroCells zv.cells (grownCap w (l.length + m.length) l.length E - (l.length + m.length))).toList).toArray := by
        apply Array.ext'; simp
      rw [this, List.getElem?_toArray, List.getElem?_append_left hi]; exact hq
    · rw [List.length_append, hsl.len, h3.size, Nat.add_mul]
end Go.Ab
