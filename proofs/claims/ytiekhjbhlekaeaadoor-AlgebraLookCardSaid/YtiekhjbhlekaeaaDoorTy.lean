import Derived.Test.YtiekhjbhlekaeaaDoorAb
set_option maxRecDepth 1000000
/- The structures of the program's types, by program (wip/tool/ab.py). -/
set_option linter.unusedVariables false
namespace Go.Mac
open Go.Ab
structure G_api_Mac where
  Key : (Arr 32 UInt8)
  Message : (List UInt8)
  Tag : (Arr 32 UInt8)
def G_api_Mac.f (x : G_api_Mac) : (Arr 32 UInt8) × (List UInt8) × (Arr 32 UInt8) × Unit := (x.Key, x.Message, x.Tag, ())
instance : Inhabited G_api_Mac := ⟨⟨default, default, default⟩⟩
instance : DecidableEq G_api_Mac := fun a b => decidable_of_iff (a.Key = b.Key ∧ a.Message = b.Message ∧ a.Tag = b.Tag) (by cases a; cases b; simp)
instance : Rep G_api_Mac := Rep.via G_api_Mac.f
instance : RepZ G_api_Mac := RepZ.via G_api_Mac.f rfl
def G_api_Mac.l0 : Lens G_api_Mac (Arr 32 UInt8) := Lens.via G_api_Mac.f Lens.fst (fun x => x.Key) (fun y x => { x with Key := y }) (fun _ => rfl) (fun _ _ => rfl)
def G_api_Mac.l1 : Lens G_api_Mac (List UInt8) := Lens.via G_api_Mac.f (Lens.snd.comp Lens.fst) (fun x => x.Message) (fun y x => { x with Message := y }) (fun _ => rfl) (fun _ _ => rfl)
def G_api_Mac.l2 : Lens G_api_Mac (Arr 32 UInt8) := Lens.via G_api_Mac.f (Lens.snd.comp (Lens.snd.comp Lens.fst)) (fun x => x.Tag) (fun y x => { x with Tag := y }) (fun _ => rfl) (fun _ _ => rfl)
structure G_api_Sealed where
  Key : (Arr 32 UInt8)
  Nonce : Int
  Plain : (List UInt8)
  Box : (List UInt8)
def G_api_Sealed.f (x : G_api_Sealed) : (Arr 32 UInt8) × Int × (List UInt8) × (List UInt8) × Unit := (x.Key, x.Nonce, x.Plain, x.Box, ())
instance : Inhabited G_api_Sealed := ⟨⟨default, default, default, default⟩⟩
instance : DecidableEq G_api_Sealed := fun a b => decidable_of_iff (a.Key = b.Key ∧ a.Nonce = b.Nonce ∧ a.Plain = b.Plain ∧ a.Box = b.Box) (by cases a; cases b; simp)
instance : Rep G_api_Sealed := Rep.via G_api_Sealed.f
instance : RepZ G_api_Sealed := RepZ.via G_api_Sealed.f rfl
def G_api_Sealed.l0 : Lens G_api_Sealed (Arr 32 UInt8) := Lens.via G_api_Sealed.f Lens.fst (fun x => x.Key) (fun y x => { x with Key := y }) (fun _ => rfl) (fun _ _ => rfl)
def G_api_Sealed.l1 : Lens G_api_Sealed Int := Lens.via G_api_Sealed.f (Lens.snd.comp Lens.fst) (fun x => x.Nonce) (fun y x => { x with Nonce := y }) (fun _ => rfl) (fun _ _ => rfl)
def G_api_Sealed.l2 : Lens G_api_Sealed (List UInt8) := Lens.via G_api_Sealed.f (Lens.snd.comp (Lens.snd.comp Lens.fst)) (fun x => x.Plain) (fun y x => { x with Plain := y }) (fun _ => rfl) (fun _ _ => rfl)
def G_api_Sealed.l3 : Lens G_api_Sealed (List UInt8) := Lens.via G_api_Sealed.f (Lens.snd.comp (Lens.snd.comp (Lens.snd.comp Lens.fst))) (fun x => x.Box) (fun y x => { x with Box := y }) (fun _ => rfl) (fun _ _ => rfl)
structure G_api_Algebra where
  Free : Bool
  Seed : (Arr 32 UInt8)
  Fresh : Int
  Macs : (List G_api_Mac)
  Boxes : (List G_api_Sealed)
def G_api_Algebra.f (x : G_api_Algebra) : Bool × (Arr 32 UInt8) × Int × (List G_api_Mac) × (List G_api_Sealed) × Unit := (x.Free, x.Seed, x.Fresh, x.Macs, x.Boxes, ())
instance : Inhabited G_api_Algebra := ⟨⟨default, default, default, default, default⟩⟩
instance : DecidableEq G_api_Algebra := fun a b => decidable_of_iff (a.Free = b.Free ∧ a.Seed = b.Seed ∧ a.Fresh = b.Fresh ∧ a.Macs = b.Macs ∧ a.Boxes = b.Boxes) (by cases a; cases b; simp)
instance : Rep G_api_Algebra := Rep.via G_api_Algebra.f
instance : RepZ G_api_Algebra := RepZ.via G_api_Algebra.f rfl
def G_api_Algebra.l0 : Lens G_api_Algebra Bool := Lens.via G_api_Algebra.f Lens.fst (fun x => x.Free) (fun y x => { x with Free := y }) (fun _ => rfl) (fun _ _ => rfl)
def G_api_Algebra.l1 : Lens G_api_Algebra (Arr 32 UInt8) := Lens.via G_api_Algebra.f (Lens.snd.comp Lens.fst) (fun x => x.Seed) (fun y x => { x with Seed := y }) (fun _ => rfl) (fun _ _ => rfl)
def G_api_Algebra.l2 : Lens G_api_Algebra Int := Lens.via G_api_Algebra.f (Lens.snd.comp (Lens.snd.comp Lens.fst)) (fun x => x.Fresh) (fun y x => { x with Fresh := y }) (fun _ => rfl) (fun _ _ => rfl)
def G_api_Algebra.l3 : Lens G_api_Algebra (List G_api_Mac) := Lens.via G_api_Algebra.f (Lens.snd.comp (Lens.snd.comp (Lens.snd.comp Lens.fst))) (fun x => x.Macs) (fun y x => { x with Macs := y }) (fun _ => rfl) (fun _ _ => rfl)
def G_api_Algebra.l4 : Lens G_api_Algebra (List G_api_Sealed) := Lens.via G_api_Algebra.f (Lens.snd.comp (Lens.snd.comp (Lens.snd.comp (Lens.snd.comp Lens.fst)))) (fun x => x.Boxes) (fun y x => { x with Boxes := y }) (fun _ => rfl) (fun _ _ => rfl)
structure G_api_Item where
  Place : Int
  Kind : Int
  Number : Int
  Node : (Arr 32 UInt8)
  Box : (List UInt8)
  Tag : (Arr 32 UInt8)
def G_api_Item.f (x : G_api_Item) : Int × Int × Int × (Arr 32 UInt8) × (List UInt8) × (Arr 32 UInt8) × Unit := (x.Place, x.Kind, x.Number, x.Node, x.Box, x.Tag, ())
instance : Inhabited G_api_Item := ⟨⟨default, default, default, default, default, default⟩⟩
instance : DecidableEq G_api_Item := fun a b => decidable_of_iff (a.Place = b.Place ∧ a.Kind = b.Kind ∧ a.Number = b.Number ∧ a.Node = b.Node ∧ a.Box = b.Box ∧ a.Tag = b.Tag) (by cases a; cases b; simp)
instance : Rep G_api_Item := Rep.via G_api_Item.f
instance : RepZ G_api_Item := RepZ.via G_api_Item.f rfl
def G_api_Item.l0 : Lens G_api_Item Int := Lens.via G_api_Item.f Lens.fst (fun x => x.Place) (fun y x => { x with Place := y }) (fun _ => rfl) (fun _ _ => rfl)
def G_api_Item.l1 : Lens G_api_Item Int := Lens.via G_api_Item.f (Lens.snd.comp Lens.fst) (fun x => x.Kind) (fun y x => { x with Kind := y }) (fun _ => rfl) (fun _ _ => rfl)
def G_api_Item.l2 : Lens G_api_Item Int := Lens.via G_api_Item.f (Lens.snd.comp (Lens.snd.comp Lens.fst)) (fun x => x.Number) (fun y x => { x with Number := y }) (fun _ => rfl) (fun _ _ => rfl)
def G_api_Item.l3 : Lens G_api_Item (Arr 32 UInt8) := Lens.via G_api_Item.f (Lens.snd.comp (Lens.snd.comp (Lens.snd.comp Lens.fst))) (fun x => x.Node) (fun y x => { x with Node := y }) (fun _ => rfl) (fun _ _ => rfl)
def G_api_Item.l4 : Lens G_api_Item (List UInt8) := Lens.via G_api_Item.f (Lens.snd.comp (Lens.snd.comp (Lens.snd.comp (Lens.snd.comp Lens.fst)))) (fun x => x.Box) (fun y x => { x with Box := y }) (fun _ => rfl) (fun _ _ => rfl)
def G_api_Item.l5 : Lens G_api_Item (Arr 32 UInt8) := Lens.via G_api_Item.f (Lens.snd.comp (Lens.snd.comp (Lens.snd.comp (Lens.snd.comp (Lens.snd.comp Lens.fst))))) (fun x => x.Tag) (fun y x => { x with Tag := y }) (fun _ => rfl) (fun _ _ => rfl)
structure G_macaroonmade_Deck where
  L : (List Int)
  At : Int
def G_macaroonmade_Deck.f (x : G_macaroonmade_Deck) : (List Int) × Int × Unit := (x.L, x.At, ())
instance : Inhabited G_macaroonmade_Deck := ⟨⟨default, default⟩⟩
instance : DecidableEq G_macaroonmade_Deck := fun a b => decidable_of_iff (a.L = b.L ∧ a.At = b.At) (by cases a; cases b; simp)
instance : Rep G_macaroonmade_Deck := Rep.via G_macaroonmade_Deck.f
instance : RepZ G_macaroonmade_Deck := RepZ.via G_macaroonmade_Deck.f rfl
def G_macaroonmade_Deck.l0 : Lens G_macaroonmade_Deck (List Int) := Lens.via G_macaroonmade_Deck.f Lens.fst (fun x => x.L) (fun y x => { x with L := y }) (fun _ => rfl) (fun _ _ => rfl)
def G_macaroonmade_Deck.l1 : Lens G_macaroonmade_Deck Int := Lens.via G_macaroonmade_Deck.f (Lens.snd.comp Lens.fst) (fun x => x.At) (fun y x => { x with At := y }) (fun _ => rfl) (fun _ _ => rfl)
structure G_algebra_Maker where
  a : G_api_Algebra
  e : Int
def G_algebra_Maker.f (x : G_algebra_Maker) : G_api_Algebra × Int × Unit := (x.a, x.e, ())
instance : Inhabited G_algebra_Maker := ⟨⟨default, default⟩⟩
instance : DecidableEq G_algebra_Maker := fun a b => decidable_of_iff (a.a = b.a ∧ a.e = b.e) (by cases a; cases b; simp)
instance : Rep G_algebra_Maker := Rep.via G_algebra_Maker.f
instance : RepZ G_algebra_Maker := RepZ.via G_algebra_Maker.f rfl
def G_algebra_Maker.l0 : Lens G_algebra_Maker G_api_Algebra := Lens.via G_algebra_Maker.f Lens.fst (fun x => x.a) (fun y x => { x with a := y }) (fun _ => rfl) (fun _ _ => rfl)
def G_algebra_Maker.l1 : Lens G_algebra_Maker Int := Lens.via G_algebra_Maker.f (Lens.snd.comp Lens.fst) (fun x => x.e) (fun y x => { x with e := y }) (fun _ => rfl) (fun _ _ => rfl)
structure G_api_Hash where
  H : (Arr 8 UInt32)
  Rest : (List UInt8)
  Len : Int
def G_api_Hash.f (x : G_api_Hash) : (Arr 8 UInt32) × (List UInt8) × Int × Unit := (x.H, x.Rest, x.Len, ())
instance : Inhabited G_api_Hash := ⟨⟨default, default, default⟩⟩
instance : DecidableEq G_api_Hash := fun a b => decidable_of_iff (a.H = b.H ∧ a.Rest = b.Rest ∧ a.Len = b.Len) (by cases a; cases b; simp)
instance : Rep G_api_Hash := Rep.via G_api_Hash.f
instance : RepZ G_api_Hash := RepZ.via G_api_Hash.f rfl
def G_api_Hash.l0 : Lens G_api_Hash (Arr 8 UInt32) := Lens.via G_api_Hash.f Lens.fst (fun x => x.H) (fun y x => { x with H := y }) (fun _ => rfl) (fun _ _ => rfl)
def G_api_Hash.l1 : Lens G_api_Hash (List UInt8) := Lens.via G_api_Hash.f (Lens.snd.comp Lens.fst) (fun x => x.Rest) (fun y x => { x with Rest := y }) (fun _ => rfl) (fun _ _ => rfl)
def G_api_Hash.l2 : Lens G_api_Hash Int := Lens.via G_api_Hash.f (Lens.snd.comp (Lens.snd.comp Lens.fst)) (fun x => x.Len) (fun y x => { x with Len := y }) (fun _ => rfl) (fun _ _ => rfl)
end Go.Mac
