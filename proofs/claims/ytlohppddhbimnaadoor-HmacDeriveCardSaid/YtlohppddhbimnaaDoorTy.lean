import Derived.Test.YtlohppddhbimnaaDoorAbK
/- The structures of the program's types, by program (wip/tool/ab.py). -/
set_option linter.unusedVariables false
namespace Go.Mac
open Go.Ab
structure G_api_Hash where
  H : (Arr 8 UInt32)
  Rest : (List UInt8)
  Len : Int
def G_api_Hash.f (x : G_api_Hash) : (Arr 8 UInt32) × (List UInt8) × Int × Unit := (x.H, x.Rest, x.Len, ())
instance : Inhabited G_api_Hash := ⟨⟨default, default, default⟩⟩
instance : DecidableEq G_api_Hash := fun a b => decidable_of_iff (a.H = b.H ∧ a.Rest = b.Rest ∧ a.Len = b.Len) (by cases a; cases b; simp)
instance : Rep G_api_Hash := Rep.via G_api_Hash.f
instance : RepZ G_api_Hash := RepZ.via G_api_Hash.f rfl
def G_api_Hash.l0 : Lens G_api_Hash (Arr 8 UInt32) := Lens.via G_api_Hash.f Lens.fst (fun x => x.H) (fun y x => { x with H := y }) (fun _ => rfl) (fun _ _ => rfl)
def G_api_Hash.l1 : Lens G_api_Hash (List UInt8) := Lens.via G_api_Hash.f (Lens.snd.comp Lens.fst) (fun x => x.Rest) (fun y x => { x with Rest := y }) (fun _ => rfl) (fun _ _ => rfl)
def G_api_Hash.l2 : Lens G_api_Hash Int := Lens.via G_api_Hash.f (Lens.snd.comp (Lens.snd.comp Lens.fst)) (fun x => x.Len) (fun y x => { x with Len := y }) (fun _ => rfl) (fun _ _ => rfl)
structure G_macaroonmade_Deck where
  L : (List Int)
  At : Int
def G_macaroonmade_Deck.f (x : G_macaroonmade_Deck) : (List Int) × Int × Unit := (x.L, x.At, ())
instance : Inhabited G_macaroonmade_Deck := ⟨⟨default, default⟩⟩
instance : DecidableEq G_macaroonmade_Deck := fun a b => decidable_of_iff (a.L = b.L ∧ a.At = b.At) (by cases a; cases b; simp)
instance : Rep G_macaroonmade_Deck := Rep.via G_macaroonmade_Deck.f
instance : RepZ G_macaroonmade_Deck := RepZ.via G_macaroonmade_Deck.f rfl
def G_macaroonmade_Deck.l0 : Lens G_macaroonmade_Deck (List Int) := Lens.via G_macaroonmade_Deck.f Lens.fst (fun x => x.L) (fun y x => { x with L := y }) (fun _ => rfl) (fun _ _ => rfl)
def G_macaroonmade_Deck.l1 : Lens G_macaroonmade_Deck Int := Lens.via G_macaroonmade_Deck.f (Lens.snd.comp Lens.fst) (fun x => x.At) (fun y x => { x with At := y }) (fun _ => rfl) (fun _ _ => rfl)
end Go.Mac
