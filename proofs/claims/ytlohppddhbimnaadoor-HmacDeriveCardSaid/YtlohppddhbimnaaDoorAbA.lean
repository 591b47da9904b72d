import Derived.Test.YtlohppddhbimnaaDoorFlB7
import Derived.Test.YtlohppddhbimnaaDoorFlL
/- Walks over typed values: a slot or a chunk of own memory is known by a plain Lean value that it holds. Plain Lean over any program; built on the frames by facts. -/
set_option linter.unusedVariables false
namespace Go.Ab
open Go.Fl Go.RowKit

/-- How the values of a Lean type stand in cells. -/
class Rep (α : Type) where
  size : Nat
  agg : Bool
  rep : Im → α → List Value → Prop
  len : ∀ {I x cs}, rep I x cs → cs.length = size
  mono : ∀ {I J x cs}, Le I J → rep I x cs → rep J x cs
  one : agg = false → size = 1
  flat : ∀ {I x cs}, rep I x cs → ones cs = true
open Rep (rep)

def asV (ag : Bool) (cs : List Value) : Value := if ag then .agg cs.toArray else cs.headD undef

/-- The values of a list stand in cells one behind the other. -/
def repL {α : Type} [Rep α] (I : Im) : List α → List Value → Prop
  | [], cs => cs = []
  | x :: l, cs => ∃ c r, cs = c ++ r ∧ rep I x c ∧ repL I l r
theorem repL.mono {α : Type} [Rep α] {I J : Im} (hle : Le I J) : ∀ {l : List α} {cs : List Value}, repL I l cs → repL J l cs
  | [], _, h => h
  | x :: l, _, h => by obtain ⟨c, r, h1, h2, h3⟩ := h; exact ⟨c, r, h1, Rep.mono hle h2, repL.mono hle h3⟩
theorem repL.len {α : Type} [Rep α] {I : Im} : ∀ {l : List α} {cs : List Value}, repL I l cs → cs.length = l.length * Rep.size α
  | [], _, h => by simp [repL] at h; simp [h]
  | x :: l, _, h => by
    obtain ⟨c, r, rfl, h2, h3⟩ := h
    simp [Rep.len h2, h3.len, Nat.succ_mul, Nat.add_comm]
theorem ones_append {xs ys : List Value} (h : ones xs = true) (k : ones ys = true) : ones (xs ++ ys) = true := by
  simp only [ones, List.all_append, Bool.and_eq_true] at *; exact ⟨h, k⟩
theorem ones_left {xs ys : List Value} (h : ones (xs ++ ys) = true) : ones xs = true ∧ ones ys = true := by
  simpa only [ones, List.all_append, Bool.and_eq_true] using h
theorem repL.flat {α : Type} [Rep α] {I : Im} : ∀ {l : List α} {cs : List Value}, repL I l cs → ones cs = true
  | [], _, h => by simp [repL] at h; simp [h, ones]
  | x :: l, _, h => by
    obtain ⟨c, r, rfl, h2, h3⟩ := h
    exact ones_append (Rep.flat h2) h3.flat
theorem repL.append {α : Type} [Rep α] {I : Im} : ∀ {l m : List α} {cs ds : List Value}, repL I l cs → repL I m ds → repL I (l ++ m) (cs ++ ds)
  | [], _, _, _, h, k => by simp [repL] at h; simpa [h] using k
  | x :: l, _, _, _, h, k => by
    obtain ⟨c, r, rfl, h2, h3⟩ := h
    exact ⟨c, r ++ _, by simp, h2, h3.append k⟩
theorem repL.one {α : Type} [Rep α] {I : Im} {x : α} {c : List Value} (h : rep I x c) : repL I [x] c := ⟨c, [], by simp, h, rfl⟩
theorem repL.split {α : Type} [Rep α] {I : Im} : ∀ {l m : List α} {cs : List Value}, repL I (l ++ m) cs → repL I l (cs.take (l.length * Rep.size α)) ∧ repL I m (cs.drop (l.length * Rep.size α))
  | [], _, _, h => by simp [repL]; simpa using h
  | x :: l, m, _, h => by
    obtain ⟨c, r, rfl, h2, h3⟩ := h
    have hl := Rep.len h2
    obtain ⟨h4, h5⟩ := h3.split
    have e : (x :: l).length * Rep.size α = c.length + l.length * Rep.size α := by simp [hl, Nat.succ_mul, Nat.add_comm]
    rw [e, List.take_length_add_append, List.drop_length_add_append]
    exact ⟨⟨c, _, rfl, h2, h4⟩, h5⟩
theorem repL.get {α : Type} [Rep α] {I : Im} {l : List α} {cs : List Value} (h : repL I l cs) (k : Nat) (hk : k < l.length) : rep I l[k] (segGet cs (k * Rep.size α) (Rep.size α)) := by
  have e : l = l.take k ++ (l[k] :: l.drop (k + 1)) := by simp
  rw [e] at h
  obtain ⟨_, h2⟩ := h.split
  obtain ⟨c, r, h3, h4, h5⟩ := h2
  have hl : (l.take k).length = k := by simp; omega
  rw [hl] at h3
  have : segGet cs (k * Rep.size α) (Rep.size α) = c := by rw [segGet, h3, ← Rep.len h4]; simp
  rw [this]; exact h4
theorem repL.set {α : Type} [Rep α] {I : Im} {l : List α} {cs vs : List Value} {y : α} (h : repL I l cs) (k : Nat) (hk : k < l.length) (hy : rep I y vs) : repL I (l.set k y) (segSet cs (k * Rep.size α) vs) := by
  have e : l = l.take k ++ (l[k] :: l.drop (k + 1)) := by simp
  have e2 : l.set k y = l.take k ++ (y :: l.drop (k + 1)) := List.set_eq_take_append_cons_drop .. |>.trans (by simp [hk])
  rw [e] at h
  obtain ⟨h1, h2⟩ := h.split
  obtain ⟨c, r, h3, h4, h5⟩ := h2
  have hl : (l.take k).length = k := by simp; omega
  rw [hl] at h1 h3
  rw [e2, segSet]
  have hd : cs.drop (k * Rep.size α + vs.length) = r := by
    rw [← List.drop_drop, h3, Rep.len hy, ← Rep.len h4]; simp
  rw [hd, List.append_assoc]
  exact h1.append ⟨vs, r, rfl, hy, h5⟩

/-- An array of n values. -/
structure Arr (n : Nat) (α : Type) where
  l : List α
  h : l.length = n
instance {n : Nat} {α : Type} [DecidableEq α] : DecidableEq (Arr n α) := fun a b =>
  if h : a.l = b.l then isTrue (by cases a; cases b; cases h; rfl) else isFalse (fun e => h (by rw [e]))
@[simp] theorem Arr.len {n : Nat} {α : Type} (a : Arr n α) : a.l.length = n := a.h
theorem Arr.ext {n : Nat} {α : Type} {a b : Arr n α} (h : a.l = b.l) : a = b := by cases a; cases b; cases h; rfl
instance {n : Nat} {α : Type} [Inhabited α] : Inhabited (Arr n α) := ⟨⟨List.replicate n default, by simp⟩⟩
instance {n : Nat} {α : Type} [Rep α] : Rep (Arr n α) where
  size := n * Rep.size α
  agg := true
  rep I x cs := repL I x.l cs
  len {_ x _} h := by rw [h.len, x.h]
  mono hle h := h.mono hle
  one h := by cases h
  flat h := h.flat
/-- A part of a value: where it stands, how it is read and written. -/
structure Lens (α β : Type) [Rep α] [Rep β] where
  off : Nat
  get : α → β
  set : β → α → α
  fits : off + Rep.size β ≤ Rep.size α
  gets : ∀ {I x cs}, rep I x cs → rep I (get x) (segGet cs off (Rep.size β))
  sets : ∀ {I x cs y vs}, rep I x cs → rep I y vs → rep I (set y x) (segSet cs off vs)

/-- What a slice that does not turn holds. -/
def SlA {α : Type} [Rep α] (I : Im) (v : Value) (l : List α) : Prop := ∃ xs, Sl I (Rep.size α) v l.length xs ∧ repL I l xs
inductive AV : Type 1 where
  | v {α : Type} [r : Rep α] (x : α)
  | p {α : Type} [r : Rep α] (x : α)
  | raw (u : Value)
  | vc {α : Type} [r : Rep α] (l : List α)
  | ln {α β : Type} [r : Rep α] [s : Rep β] (w : Value) (l : Lens α β)
  | el {α β : Type} [r : Rep α] [s : Rep β] (w : Value) (k : Nat) (l : Lens α β)
  | sv {α β : Type} {n : Nat} [r : Rep α] [s : Rep β] (w : Value) (l : Lens α (Arr n β))
  | t2 (a b : AV)
  | t3 (a b c : AV)
  | t4 (a b c d : AV)
  | opt (c : Bool) (a : AV)
  | any
def baseOf : Value → Option Nat
  | .pointer (some ⟨b, 0, none⟩) => some b
  | .slice (some ⟨b, 0, none⟩) _ _ => some b
  | _ => none
def RepV (I : Im) : AV → Value → Prop
  | @AV.v α r x, u => ∃ cs, @Rep.rep α r I x cs ∧ u = asV (@Rep.agg α r) cs
  | @AV.p α r x, u => ∃ b o cs, u = ptr b o ∧ @Rep.rep α r I x cs ∧ Cells I b o cs
  | .raw w, u => u = w
  | @AV.vc α r l, u => (∃ a, u = .slice a l.length l.length) ∧ @SlA α r I u l
  | @AV.ln α β r s w l, u => ∃ b, baseOf w = some b ∧ u = ptr b (@Lens.off α β r s l)
  | @AV.el α β r s w k l, u => ∃ b, baseOf w = some b ∧ u = ptr b (k * @Rep.size α r + @Lens.off α β r s l)
  | @AV.sv α β n r s w l, u => ∃ b, baseOf w = some b ∧ u = slc b (@Lens.off α (Arr n β) r _ l) n n
  | .t2 a b, u => ∃ x y, u = .tuple #[x, y] ∧ RepV I a x ∧ RepV I b y
  | .t3 a b c, u => ∃ x y z, u = .tuple #[x, y, z] ∧ RepV I a x ∧ RepV I b y ∧ RepV I c z
  | .t4 a b c d, u => ∃ x y z t, u = .tuple #[x, y, z, t] ∧ RepV I a x ∧ RepV I b y ∧ RepV I c z ∧ RepV I d t
  | .opt c a, u => c = true → RepV I a u
  | .any, _ => True
theorem RepV.mono {I J : Im} (hle : Le I J) : ∀ {a : AV} {u : Value}, RepV I a u → RepV J a u
  | @AV.v α r x, _, h => by obtain ⟨cs, h1, h2⟩ := h; exact ⟨cs, @Rep.mono α r _ _ _ _ hle h1, h2⟩
  | @AV.p α r x, _, h => by obtain ⟨b, o, cs, h1, h2, h3⟩ := h; exact ⟨b, o, cs, h1, @Rep.mono α r _ _ _ _ hle h2, h3.mono hle⟩
  | .raw w, _, h => h
  | @AV.vc α r l, _, h => ⟨h.1, by obtain ⟨_, xs, h1, h2⟩ := h; exact ⟨xs, h1.mono hle, h2.mono hle⟩⟩
  | @AV.ln α β r s w l, _, h => h
  | @AV.el α β r s w k l, _, h => h
  | @AV.sv α β n r s w l, _, h => h
  | .t2 a b, _, h => by obtain ⟨x, y, h1, h2, h3⟩ := h; exact ⟨x, y, h1, h2.mono hle, h3.mono hle⟩
  | .t3 a b c, _, h => by obtain ⟨x, y, z, h1, h2, h3, h4⟩ := h; exact ⟨x, y, z, h1, h2.mono hle, h3.mono hle, h4.mono hle⟩
  | .t4 a b c d, _, h => by obtain ⟨x, y, z, t, h1, h2, h3, h4, h5⟩ := h; exact ⟨x, y, z, t, h1, h2.mono hle, h3.mono hle, h4.mono hle, h5.mono hle⟩
  | .opt c a, _, h => fun hc => (h hc).mono hle
  | .any, _, h => h

/-! ### Instances -/
instance : Rep Int where
  size := 1
  agg := false
  rep _ x cs := cs = [i64 x] ∧ -9223372036854775808 ≤ x ∧ x ≤ 9223372036854775807
  len h := by simp [h.1]
  mono _ h := h
  one _ := rfl
  flat h := by simp [h.1, ones, Value.oneCell']
instance : Rep UInt8 where
  size := 1
  agg := false
  rep _ x cs := cs = [u8 x]
  len h := by simp [h]
  mono _ h := h
  one _ := rfl
  flat h := by simp [h, ones, u8, Value.oneCell']
def u16 (x : UInt16) : Value := .int .u16 (x.toNat : Int)
instance : Rep UInt16 where
  size := 1
  agg := false
  rep _ x cs := cs = [u16 x]
  len h := by simp [h]
  mono _ h := h
  one _ := rfl
  flat h := by simp [h, ones, u16, Value.oneCell']
instance : Rep UInt32 where
  size := 1
  agg := false
  rep _ x cs := cs = [u32 x]
  len h := by simp [h]
  mono _ h := h
  one _ := rfl
  flat h := by simp [h, ones, u32, Value.oneCell']
instance : Rep UInt64 where
  size := 1
  agg := false
  rep _ x cs := cs = [u64 x]
  len h := by simp [h]
  mono _ h := h
  one _ := rfl
  flat h := by simp [h, ones, u64, Value.oneCell']
instance : Rep Bool where
  size := 1
  agg := false
  rep _ x cs := cs = [.bool x]
  len h := by simp [h]
  mono _ h := h
  one _ := rfl
  flat h := by simp [h, ones, Value.oneCell']
/-- A string. -/
structure Str where
  l : List UInt8
instance : Inhabited Str := ⟨⟨[]⟩⟩
instance : DecidableEq Str := fun a b => if h : a.l = b.l then isTrue (by cases a; cases b; cases h; rfl) else isFalse (fun e => h (by rw [e]))
instance : Rep Str where
  size := 1
  agg := false
  rep _ x cs := (∃ b : ByteArray, cs = [.string b] ∧ b.data.toList = x.l) ∧ x.l.length ≤ 9223372036854775807
  len h := by obtain ⟨⟨b, h, _⟩, _⟩ := h; simp [h]
  mono _ h := h
  one _ := rfl
  flat h := by obtain ⟨⟨b, h, _⟩, _⟩ := h; simp [h, ones, Value.oneCell']
instance {α : Type} [Rep α] : Rep (List α) where
  size := 1
  agg := false
  rep I x cs := ∃ v, cs = [v] ∧ SlA I v x
  len h := by obtain ⟨v, h, _⟩ := h; simp [h]
  mono hle h := by obtain ⟨v, h, xs, h1, h2⟩ := h; exact ⟨v, h, xs, h1.mono hle, h2.mono hle⟩
  one _ := rfl
  flat h := by
    obtain ⟨v, h, xs, h1, _⟩ := h
    obtain ⟨a, c, rfl, _⟩ := h1
    simp [h, ones, Value.oneCell']
instance : Rep Unit where
  size := 0
  agg := true
  rep _ _ cs := cs = []
  len h := by simp [h]
  mono _ h := h
  one h := by cases h
  flat h := by simp [h, ones]
instance {α β : Type} [Rep α] [Rep β] : Rep (α × β) where
  size := Rep.size α + Rep.size β
  agg := true
  rep I x cs := ∃ c r, cs = c ++ r ∧ rep I x.1 c ∧ rep I x.2 r
  len h := by obtain ⟨c, r, rfl, h1, h2⟩ := h; simp [Rep.len h1, Rep.len h2]
  mono hle h := by obtain ⟨c, r, e, h1, h2⟩ := h; exact ⟨c, r, e, Rep.mono hle h1, Rep.mono hle h2⟩
  one h := by cases h
  flat h := by obtain ⟨c, r, rfl, h1, h2⟩ := h; exact ones_append (Rep.flat h1) (Rep.flat h2)
/-- A structure stands as the tuple of its fields does. -/
@[reducible] def Rep.via {S T : Type} [Rep T] (f : S → T) : Rep S where
  size := Rep.size T
  agg := true
  rep I x cs := Rep.rep I (f x) cs
  len h := Rep.len h
  mono hle h := Rep.mono hle h
  one h := by cases h
  flat h := Rep.flat h

/-! ### Lenses -/
theorem segGet_self {cs : List Value} {n : Nat} (h : cs.length = n) : segGet cs 0 n = cs := by subst h; exact segGet_all cs
def Lens.id {α : Type} [Rep α] : Lens α α where
  off := 0
  get x := x
  set y _ := y
  fits := by simp
  gets h := by rw [segGet_self (Rep.len h)]; exact h
  sets h k := by rw [segSet_all _ _ (by rw [Rep.len h, Rep.len k])]; exact k
def Lens.fst {α β : Type} [Rep α] [Rep β] : Lens (α × β) α where
  off := 0
  get x := x.1
  set y x := (y, x.2)
  fits := by simp [Rep.size]
  gets h := by
    obtain ⟨c, r, rfl, h1, h2⟩ := h
    have : segGet (c ++ r) 0 (Rep.size α) = c := by rw [segGet, ← Rep.len h1]; simp
    rw [this]; exact h1
  sets h k := by
    obtain ⟨c, r, rfl, h1, h2⟩ := h
    refine ⟨_, r, ?_, k, h2⟩
    rw [segSet, Nat.zero_add, Rep.len k, ← Rep.len h1]; simp
def Lens.snd {α β : Type} [Rep α] [Rep β] : Lens (α × β) β where
  off := Rep.size α
  get x := x.2
  set y x := (x.1, y)
  fits := by simp [Rep.size]
  gets h := by
    obtain ⟨c, r, rfl, h1, h2⟩ := h
    have : segGet (c ++ r) (Rep.size α) (Rep.size β) = r := by rw [segGet, ← Rep.len h1, ← Rep.len h2]; simp
    rw [this]; exact h2
  sets h k := by
    obtain ⟨c, r, rfl, h1, h2⟩ := h
    refine ⟨c, _, ?_, h1, k⟩
    rw [segSet, Rep.len k, ← Rep.len h1, ← Rep.len h2]
    simp
theorem segGet_segGet {cs : List Value} {o n p m : Nat} (h : p + m ≤ n) : segGet (segGet cs o n) p m = segGet cs (o + p) m := by
  simp only [segGet, List.drop_take, List.take_take, List.drop_drop]
  congr 1; omega
theorem segSet_segSet {cs vs : List Value} {o n p : Nat} (h : p + vs.length ≤ n) (hn : o + n ≤ cs.length) : segSet cs o (segSet (segGet cs o n) p vs) = segSet cs (o + p) vs := by
  have hl : (segGet cs o n).length = n := by simp [segGet]; omega
  have hll : (segSet (segGet cs o n) p vs).length = n := by rw [segSet_length _ _ _ (by omega), hl]
  apply List.ext_getElem?
  intro i
  rw [segSet_get (cs := cs) (o := o) (by omega), segSet_get (cs := cs) (o := o + p) (by omega), hll]
  by_cases h1 : i < o
  · rw [if_pos h1, if_pos (by omega)]
  · rw [if_neg h1]
    by_cases h2 : i < o + n
    · rw [if_pos h2, segSet_get (by omega)]
      have hg : ∀ j, j < n → (segGet cs o n)[j]? = cs[o + j]? := fun j hj => by simp [segGet, hj]
      by_cases h3 : i - o < p
      · rw [if_pos h3, if_pos (by omega), hg _ (by omega)]; congr 1; omega
      · rw [if_neg h3, if_neg (show ¬ i < o + p by omega)]
        by_cases h4 : i - o < p + vs.length
        · rw [if_pos h4, if_pos (by omega)]; congr 1; omega
        · rw [if_neg h4, if_neg (by omega), hg _ (by omega)]; congr 1; omega
    · rw [if_neg h2, if_neg (by omega), if_neg (by omega)]
def Lens.comp {α β γ : Type} [Rep α] [Rep β] [Rep γ] (l : Lens α β) (m : Lens β γ) : Lens α γ where
  off := l.off + m.off
  get x := m.get (l.get x)
  set y x := l.set (m.set y (l.get x)) x
  fits := by have := l.fits; have := m.fits; omega
  gets h := by
    have := m.gets (l.gets h)
    rwa [segGet_segGet m.fits] at this
  sets h k := by
    have h1 := l.gets h
    have h2 := l.sets h (m.sets h1 k)
    have hf := l.fits
    have hm := m.fits
    rw [segSet_segSet (by rw [Rep.len k]; exact m.fits) (by rw [Rep.len h]; exact hf)] at h2
    exact h2
def Lens.idx {n : Nat} {α : Type} [Rep α] (k : Nat) (hk : k < n) : Lens (Arr n α) α where
  off := k * Rep.size α
  get x := x.l[k]'(by rw [x.h]; exact hk)
  set y x := ⟨x.l.set k y, by simp [x.h]⟩
  fits := by
    have := Nat.mul_le_mul_right (Rep.size α) (Nat.succ_le_of_lt hk)
    simp only [Rep.size, Nat.succ_mul] at *; exact this
  gets {_ x _} h := repL.get h k (by rw [x.h]; exact hk)
  sets {_ x _ _ _} h y := repL.set h k (by rw [x.h]; exact hk) y
/-- A field of a structure, given as a field of the tuple of its fields. -/
def Lens.via {S T β : Type} [r : Rep T] [Rep β] (f : S → T) (m : Lens T β) (get : S → β) (set : β → S → S) (hg : ∀ x, get x = m.get (f x)) (hs : ∀ y x, f (set y x) = m.set y (f x)) : @Lens S β (Rep.via f) _ :=
  letI : Rep S := Rep.via f
  { off := m.off, get := get, set := set, fits := m.fits, gets := fun {_ x _} h => by rw [hg]; exact m.gets h, sets := fun {_ x _ y _} h k => by
      have := m.sets h k
      rw [← hs] at this; exact this }
end Go.Ab
