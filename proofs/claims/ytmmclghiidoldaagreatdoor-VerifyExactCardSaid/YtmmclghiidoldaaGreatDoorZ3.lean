/- Plain Lean over any program, and walks of this seat's functions: contracts, each proved once (part 3). -/
import Derived.Test.YtmmclghiidoldaaGreatDoorZ2
import Derived.Shelf.Bytes.SlJoin
import Derived.Laws.StructEq
set_option maxRecDepth 1000000
set_option synthInstance.maxSize 1000000
set_option synthInstance.maxHeartbeats 10000000
set_option linter.unusedVariables false
set_option linter.unusedSimpArgs false
namespace Go.Proofs.YtmmclghiidoldaaGreatDoor
open Go.Proofs.Tryz
open Go.Ab Go.Mac
theorem _root_.Go.Ab.G7.ok {P:Program} {T:TypeId} {α:Type} [o8 α] [Inhabited α] [I5 α] (h:((P.info? T).map (·.size),(P.underlying T).map Fl.a08,Fl.U8 P T,Nat.beq (o8.size α) 0)=(some (o8.size α),some (o8.agg α),some (I5.zs α),false)):G7 P T α:=by
 simp only [Prod.mk.injEq] at h
 obtain⟨h1,h2,h3,h4⟩:=h
 exact .of h1 h2 h3 (fun e=>by rw [e] at h4;cases h4)
theorem R6:G7 prog 3 Int := .ok (by kernel_rfl)
theorem ty4:G7 prog 4 Bool := .ok (by kernel_rfl)
theorem ty5:G7 prog 5 UInt8 := .ok (by kernel_rfl)
theorem ty9:G7 prog 9 Str := .ok (by kernel_rfl)
theorem a6W:G7 prog 23 u6 := .ok (by kernel_rfl)
theorem a8A:G7 prog 24 (List m9) := .ok (by kernel_rfl)
theorem y6:G7 prog 26 (I7 32 UInt8) := .ok (by kernel_rfl)
theorem c0f:G7 prog 27 (List p8) := .ok (by kernel_rfl)
theorem V6:G7 prog 29 p9 := .ok (by kernel_rfl)
theorem c1W:G7 prog 30 (List u4) := .ok (by kernel_rfl)
theorem a9k:G7 prog 32 C4 := .ok (by kernel_rfl)
theorem c3c:G7 prog 33 (List Int) := .ok (by kernel_rfl)
theorem b8d:G7 prog 35 (List y5) := .ok (by kernel_rfl)
theorem b3U:G7 prog 36 (List o5) := .ok (by kernel_rfl)
theorem y7:G7 prog 38 m5 := .ok (by kernel_rfl)
theorem c4h:G7 prog 39 (List y9) := .ok (by kernel_rfl)
theorem b8e:G7 prog 41 x7 := .ok (by kernel_rfl)
theorem U6:G7 prog 43 x8 := .ok (by kernel_rfl)
theorem c4i:G7 prog 44 (List p6) := .ok (by kernel_rfl)
theorem b8f:G7 prog 46 p5 := .ok (by kernel_rfl)
theorem c4j:G7 prog 54 (List (I7 32 UInt8)) := .ok (by kernel_rfl)
theorem Z0:G7 prog 56 u3 := .ok (by kernel_rfl)
theorem b6m:G7 prog 57 Int := .ok (by kernel_rfl)
theorem a6l:G7 prog 66 u4 := .ok (by kernel_rfl)
theorem a5J:G7 prog 77 UInt64 := .ok (by kernel_rfl)
theorem a8B:G7 prog 83 (List j3) := .ok (by kernel_rfl)
theorem a2H:G7 prog 86 (List UInt8) := .ok (by kernel_rfl)
theorem a1f:G7 prog 88 p8 := .ok (by kernel_rfl)
theorem T1:G7 prog 97 j3 := .ok (by kernel_rfl)
theorem a0C:G7 prog 99 m9 := .ok (by kernel_rfl)
theorem c3d:G7 prog 103 m6 := .ok (by kernel_rfl)
theorem S9:G7 prog 139 p6 := .ok (by kernel_rfl)
theorem a5q:G7 prog 147 y9 := .ok (by kernel_rfl)
theorem a3C:G7 prog 151 C5 := .ok (by kernel_rfl)
theorem b1T:G7 prog 155 B2 := .ok (by kernel_rfl)
theorem a5r:G7 prog 199 y5 := .ok (by kernel_rfl)
theorem c3e:G7 prog 224 (I7 2 (List UInt8)) := .ok (by kernel_rfl)
theorem a5s:G7 prog 227 o5 := .ok (by kernel_rfl)
theorem c3f:G7 prog 241 m7 := .ok (by kernel_rfl)
theorem c0g:SlT prog 24 99 m9 120:=⟨.of (by kernel_rfl),a0C⟩
theorem c1X:SlT prog 27 88 p8 80:=⟨.of (by kernel_rfl),a1f⟩
theorem c0h:SlT prog 35 199 y5 88:=⟨.of (by kernel_rfl),a5r⟩
theorem c0i:SlT prog 36 227 o5 88:=⟨.of (by kernel_rfl),a5s⟩
theorem c4k:SlT prog 44 139 p6 80:=⟨.of (by kernel_rfl),S9⟩
theorem c1Y:SlT prog 54 26 (I7 32 UInt8) 32:=⟨.of (by kernel_rfl),y6⟩
theorem b8g:SlT prog 83 97 j3 56:=⟨.of (by kernel_rfl),T1⟩
theorem P5:SlT prog 86 5 UInt8 1:=⟨.of (by kernel_rfl),ty5⟩
theorem c3g:SlT prog 164 86 (List UInt8) 24:=⟨.of (by kernel_rfl),a2H⟩
instance:TyJ prog 3 Int:=⟨R6⟩
instance:UnI prog 3 (.int .i64):=⟨underlying3⟩
instance:TyJ prog 4 Bool:=⟨ty4⟩
instance:TyJ prog 5 UInt8:=⟨ty5⟩
instance:UnI prog 5 (.int .u8):=⟨underlying5⟩
instance:TyJ prog 9 Str:=⟨ty9⟩
instance:UnI prog 9 (.string):=⟨underlying9⟩
instance:TyJ prog 23 u6:=⟨a6W⟩
theorem _root_.Go.Ab.FdI.ok {P:Program} {T:TypeId} {i:Nat} {β:Type} {s:o8 β} {γ:Type} {q:o8 γ} {m:m0 β γ} {f:β→γ} {off sz:Nat} {ag:Bool} (hf:Fl.u9 P T i=some (off,sz+1,ag)) (h:(off,sz+1,ag,true)=(m.off,o8.size γ,o8.agg γ,o8.agg β)) (e:∀ x,m.get x=f x):FdI P T i β s γ q m f:=by
 simp only [Prod.mk.injEq] at h
 exact .mk' hf h.1 h.2.1 h.2.2.1 e h.2.2.2.symm
instance:FdJ prog 23 0 u6.l0 (fun x=>x.Gate) := .ok b3o rfl fun _=>rfl
instance:LnI u6.l0 (fun x=>x.Gate) (fun y x => { x with Gate:=y }):=⟨fun _=>rfl,fun _ _=>rfl⟩
instance:FdJ prog 23 1 u6.l1 (fun x=>x.E4) := .ok b0k rfl fun _=>rfl
instance:LnI u6.l1 (fun x=>x.E4) (fun y x => { x with E4:=y }):=⟨fun _=>rfl,fun _ _=>rfl⟩
instance:TyJ prog 24 (List m9):=⟨a8A⟩
instance:UnI prog 24 (.slice 99):=⟨underlying24⟩
instance:TyJ prog 26 (I7 32 UInt8):=⟨y6⟩
instance:TyJ prog 27 (List p8):=⟨c0f⟩
instance:UnI prog 27 (.slice 88):=⟨underlying27⟩
instance:SlJ prog 27 88 p8 80:=⟨c1X⟩
instance:TyJ prog 29 p9:=⟨V6⟩
instance:FdJ prog 29 0 p9.l0 (fun x=>x.Request) := .ok b3p rfl fun _=>rfl
instance:LnI p9.l0 (fun x=>x.Request) (fun y x => { x with Request:=y }):=⟨fun _=>rfl,fun _ _=>rfl⟩
instance:FdJ prog 29 1 p9.l1 (fun x=>x.D3) := .ok b7t rfl fun _=>rfl
instance:FdJ prog 29 2 p9.l2 (fun x=>x.A8) := .ok b3q rfl fun _=>rfl
instance:FdJ prog 29 3 p9.l3 (fun x=>x.j9) := .ok V4 rfl fun _=>rfl
instance:LnI p9.l3 (fun x=>x.j9) (fun y x => { x with j9:=y }):=⟨fun _=>rfl,fun _ _=>rfl⟩
instance:FdJ prog 29 4 p9.l4 (fun x=>x.Proof) := .ok a8l rfl fun _=>rfl
instance:FdJ prog 29 5 p9.l5 (fun x=>x.j4) := .ok Z6 rfl fun _=>rfl
instance:LnI p9.l5 (fun x=>x.j4) (fun y x => { x with j4:=y }):=⟨fun _=>rfl,fun _ _=>rfl⟩
instance:TyJ prog 30 (List u4):=⟨c1W⟩
instance:UnI prog 30 (.slice 66):=⟨underlying30⟩
instance:TyJ prog 32 C4:=⟨a9k⟩
instance:FdJ prog 32 0 C4.l0 (fun x=>x.Live) := .ok b3r rfl fun _=>rfl
instance:LnI C4.l0 (fun x=>x.Live) (fun y x => { x with Live:=y }):=⟨fun _=>rfl,fun _ _=>rfl⟩
instance:UnI prog 33 (.slice 3):=⟨underlying33⟩
instance:TyJ prog 35 (List y5):=⟨b8d⟩
instance:UnI prog 35 (.slice 199):=⟨underlying35⟩
instance:TyJ prog 36 (List o5):=⟨b3U⟩
instance:UnI prog 36 (.slice 227):=⟨underlying36⟩
instance:TyJ prog 38 m5:=⟨y7⟩
instance:FdJ prog 38 0 m5.l0 (fun x=>x.K2) := .ok c1y rfl fun _=>rfl
instance:LnI m5.l0 (fun x=>x.K2) (fun y x => { x with K2:=y }):=⟨fun _=>rfl,fun _ _=>rfl⟩
instance:FdJ prog 38 1 m5.l1 (fun x=>x.a4g) := .ok c1z rfl fun _=>rfl
instance:LnI m5.l1 (fun x=>x.a4g) (fun y x => { x with a4g:=y }):=⟨fun _=>rfl,fun _ _=>rfl⟩
instance:FdJ prog 38 2 m5.l2 (fun x=>x.F9) := .ok b3s rfl fun _=>rfl
instance:LnI m5.l2 (fun x=>x.F9) (fun y x => { x with F9:=y }):=⟨fun _=>rfl,fun _ _=>rfl⟩
instance:FdJ prog 38 3 m5.l3 (fun x=>x.G4) := .ok a5C rfl fun _=>rfl
instance:LnI m5.l3 (fun x=>x.G4) (fun y x => { x with G4:=y }):=⟨fun _=>rfl,fun _ _=>rfl⟩
instance:FdJ prog 38 4 m5.l4 (fun x=>x.y2) := .ok a5D rfl fun _=>rfl
instance:LnI m5.l4 (fun x=>x.y2) (fun y x => { x with y2:=y }):=⟨fun _=>rfl,fun _ _=>rfl⟩
instance:TyJ prog 39 (List y9):=⟨c4h⟩
instance:UnI prog 39 (.slice 147):=⟨underlying39⟩
instance:TyJ prog 41 x7:=⟨b8e⟩
instance:FdJ prog 41 0 x7.l0 (fun x=>x.G6) := .ok b7u rfl fun _=>rfl
instance:FdJ prog 41 1 x7.l1 (fun x=>x.Key) := .ok b7v rfl fun _=>rfl
instance:FdJ prog 41 2 x7.l2 (fun x=>x.a1L) := .ok c1A rfl fun _=>rfl
instance:TyJ prog 43 x8:=⟨U6⟩
instance:FdJ prog 43 0 x8.l0 (fun x=>x.D3) := .ok c1B rfl fun _=>rfl
instance:LnI x8.l0 (fun x=>x.D3) (fun y x => { x with D3:=y }):=⟨fun _=>rfl,fun _ _=>rfl⟩
instance:FdJ prog 43 1 x8.l1 (fun x=>x.A8) := .ok c1C rfl fun _=>rfl
instance:LnI x8.l1 (fun x=>x.A8) (fun y x => { x with A8:=y }):=⟨fun _=>rfl,fun _ _=>rfl⟩
instance:FdJ prog 43 2 x8.l2 (fun x=>x.j9) := .ok b0l rfl fun _=>rfl
instance:LnI x8.l2 (fun x=>x.j9) (fun y x => { x with j9:=y }):=⟨fun _=>rfl,fun _ _=>rfl⟩
instance:FdJ prog 43 3 x8.l3 (fun x=>x.Tag) := .ok a6M rfl fun _=>rfl
instance:LnI x8.l3 (fun x=>x.Tag) (fun y x => { x with Tag:=y }):=⟨fun _=>rfl,fun _ _=>rfl⟩
instance:UnI prog 44 (.slice 139):=⟨underlying44⟩
instance:TyJ prog 46 p5:=⟨b8f⟩
instance:UnI prog 52 (.slice 29):=⟨underlying52⟩
instance:UnI prog 53 (.slice 32):=⟨underlying53⟩
instance:TyJ prog 54 (List (I7 32 UInt8)):=⟨c4j⟩
instance:UnI prog 54 (.slice 26):=⟨underlying54⟩
instance:SlJ prog 54 26 (I7 32 UInt8) 32:=⟨c1Y⟩
instance:TyJ prog 56 u3:=⟨Z0⟩
instance:FdJ prog 56 0 u3.l0 (fun x=>x.a4y) := .ok c1D rfl fun _=>rfl
instance:LnI u3.l0 (fun x=>x.a4y) (fun y x => { x with a4y:=y }):=⟨fun _=>rfl,fun _ _=>rfl⟩
instance:FdJ prog 56 1 u3.l1 (fun x=>x.a8v) := .ok c1E rfl fun _=>rfl
instance:LnI u3.l1 (fun x=>x.a8v) (fun y x => { x with a8v:=y }):=⟨fun _=>rfl,fun _ _=>rfl⟩
instance:TyJ prog 57 Int:=⟨b6m⟩
instance:TyJ prog 66 u4:=⟨a6l⟩
instance:FdJ prog 66 0 u4.l0 (fun x=>x.Number) := .ok b7y rfl fun _=>rfl
instance:LnI u4.l0 (fun x=>x.Number) (fun y x => { x with Number:=y }):=⟨fun _=>rfl,fun _ _=>rfl⟩
instance:FdJ prog 66 1 u4.l1 (fun x=>x.Key) := .ok b3x rfl fun _=>rfl
instance:TyJ prog 77 UInt64:=⟨a5J⟩
instance:UnI prog 77 (.int .u64):=⟨underlying77⟩
instance:TyJ prog 83 (List j3):=⟨a8B⟩
instance:UnI prog 83 (.slice 97):=⟨underlying83⟩
instance:SlJ prog 83 97 j3 56:=⟨b8g⟩
instance:TyJ prog 86 (List UInt8):=⟨a2H⟩
instance:UnI prog 86 (.slice 5):=⟨underlying86⟩
instance:SlJ prog 86 5 UInt8 1:=⟨P5⟩
instance:TyJ prog 88 p8:=⟨a1f⟩
instance:FdJ prog 88 0 p8.l0 (fun x=>x.j8) := .ok a6N rfl fun _=>rfl
instance:LnI p8.l0 (fun x=>x.j8) (fun y x => { x with j8:=y }):=⟨fun _=>rfl,fun _ _=>rfl⟩
instance:FdJ prog 88 1 p8.l1 (fun x=>x.l8) := .ok a5E rfl fun _=>rfl
instance:LnI p8.l1 (fun x=>x.l8) (fun y x => { x with l8:=y }):=⟨fun _=>rfl,fun _ _=>rfl⟩
instance:FdJ prog 88 2 p8.l2 (fun x=>x.Proof) := .ok b7z rfl fun _=>rfl
instance:LnI p8.l2 (fun x=>x.Proof) (fun y x => { x with Proof:=y }):=⟨fun _=>rfl,fun _ _=>rfl⟩
instance:TyJ prog 97 j3:=⟨T1⟩
instance:FdJ prog 97 0 j3.l0 (fun x=>x.Kind) := .ok b0n rfl fun _=>rfl
instance:LnI j3.l0 (fun x=>x.Kind) (fun y x => { x with Kind:=y }):=⟨fun _=>rfl,fun _ _=>rfl⟩
instance:FdJ prog 97 1 j3.l1 (fun x=>x.Mask) := .ok a0P rfl fun _=>rfl
instance:LnI j3.l1 (fun x=>x.Mask) (fun y x => { x with Mask:=y }):=⟨fun _=>rfl,fun _ _=>rfl⟩
instance:FdJ prog 97 2 j3.l2 (fun x=>x.R8) := .ok M5 rfl fun _=>rfl
instance:LnI j3.l2 (fun x=>x.R8) (fun y x => { x with R8:=y }):=⟨fun _=>rfl,fun _ _=>rfl⟩
instance:FdJ prog 97 3 j3.l3 (fun x=>x.To) := .ok M6 rfl fun _=>rfl
instance:LnI j3.l3 (fun x=>x.To) (fun y x => { x with To:=y }):=⟨fun _=>rfl,fun _ _=>rfl⟩
instance:FdJ prog 97 4 j3.l4 (fun x=>x.Name) := .ok b0o rfl fun _=>rfl
instance:LnI j3.l4 (fun x=>x.Name) (fun y x => { x with Name:=y }):=⟨fun _=>rfl,fun _ _=>rfl⟩
instance:FdJ prog 97 5 j3.l5 (fun x=>x.Number) := .ok a8m rfl fun _=>rfl
instance:LnI j3.l5 (fun x=>x.Number) (fun y x => { x with Number:=y }):=⟨fun _=>rfl,fun _ _=>rfl⟩
instance:TyJ prog 99 m9:=⟨a0C⟩
instance:FdJ prog 99 0 m9.l0 (fun x=>x.Q2) := .ok b7A rfl fun _=>rfl
instance:FdJ prog 99 1 m9.l1 (fun x=>x.a4x) := .ok c1F rfl fun _=>rfl
instance:FdJ prog 99 2 m9.l2 (fun x=>x.G6) := .ok b7B rfl fun _=>rfl
instance:FdJ prog 99 3 m9.l3 (fun x=>x.j8) := .ok a8n rfl fun _=>rfl
instance:FdJ prog 99 4 m9.l4 (fun x=>x.U4) := .ok b7C rfl fun _=>rfl
instance:TyJ prog 139 p6:=⟨S9⟩
instance:FdJ prog 139 1 p6.l1 (fun x=>x.l8) := .ok a6d rfl fun _=>rfl
instance:LnI p6.l1 (fun x=>x.l8) (fun y x => { x with l8:=y }):=⟨fun _=>rfl,fun _ _=>rfl⟩
instance:TyJ prog 147 y9:=⟨a5q⟩
instance:FdJ prog 147 0 y9.l0 (fun x=>x.Name) := .ok b9L rfl fun _=>rfl
instance:FdJ prog 147 1 y9.l1 (fun x=>x.b3I) := .ok a7R rfl fun _=>rfl
instance:TyJ prog 151 C5:=⟨a3C⟩
instance:TyJ prog 155 B2:=⟨b1T⟩
instance:FdJ prog 155 0 B2.l0 (fun x=>x.a3y) := .ok b4Q rfl fun _=>rfl
instance:LnI B2.l0 (fun x=>x.a3y) (fun y x => { x with a3y:=y }):=⟨fun _=>rfl,fun _ _=>rfl⟩
instance:FdJ prog 155 1 B2.l1 (fun x=>x.a6T) := .ok b4R rfl fun _=>rfl
instance:LnI B2.l1 (fun x=>x.a6T) (fun y x => { x with a6T:=y }):=⟨fun _=>rfl,fun _ _=>rfl⟩
instance:UnI prog 164 (.slice 86):=⟨underlying164⟩
instance:SlJ prog 164 86 (List UInt8) 24:=⟨c3g⟩
instance:TyJ prog 199 y5:=⟨a5r⟩
instance:FdJ prog 199 0 y5.l0 (fun x=>x.Key) := .ok b4S rfl fun _=>rfl
instance:LnI y5.l0 (fun x=>x.Key) (fun y x => { x with Key:=y }):=⟨fun _=>rfl,fun _ _=>rfl⟩
instance:FdJ prog 199 1 y5.l1 (fun x=>x.Message) := .ok b4T rfl fun _=>rfl
instance:LnI y5.l1 (fun x=>x.Message) (fun y x => { x with Message:=y }):=⟨fun _=>rfl,fun _ _=>rfl⟩
instance:FdJ prog 199 2 y5.l2 (fun x=>x.Tag) := .ok b9O rfl fun _=>rfl
instance:UnI prog 213 (.int .u64):=⟨underlying213⟩
instance:TyJ prog 227 o5:=⟨a5s⟩
instance:FdJ prog 227 0 o5.l0 (fun x=>x.Key) := .ok b4U rfl fun _=>rfl
instance:LnI o5.l0 (fun x=>x.Key) (fun y x => { x with Key:=y }):=⟨fun _=>rfl,fun _ _=>rfl⟩
instance:FdJ prog 227 1 o5.l1 (fun x=>x.E4) := .ok b9P rfl fun _=>rfl
instance:LnI o5.l1 (fun x=>x.E4) (fun y x => { x with E4:=y }):=⟨fun _=>rfl,fun _ _=>rfl⟩
instance:FdJ prog 227 2 o5.l2 (fun x=>x.Plain) := .ok b9Q rfl fun _=>rfl
instance:LnI o5.l2 (fun x=>x.Plain) (fun y x => { x with Plain:=y }):=⟨fun _=>rfl,fun _ _=>rfl⟩
instance:FdJ prog 227 3 o5.l3 (fun x=>x.U4) := .ok b0r rfl fun _=>rfl
instance:LnI o5.l3 (fun x=>x.U4) (fun y x => { x with U4:=y }):=⟨fun _=>rfl,fun _ _=>rfl⟩
instance:FdJ prog 241 1 m7.l1 (fun x=>x.Used) := .ok a3P rfl fun _=>rfl
instance:LnI m7.l1 (fun x=>x.Used) (fun y x => { x with Used:=y }):=⟨fun _=>rfl,fun _ _=>rfl⟩
instance:FdJ prog 241 2 m7.l2 (fun x=>x.E) := .ok a4Y rfl fun _=>rfl
instance:LnI m7.l2 (fun x=>x.E) (fun y x => { x with E:=y }):=⟨fun _=>rfl,fun _ _=>rfl⟩
end Go.Proofs.YtmmclghiidoldaaGreatDoor
namespace Go.Mac
open Go.Fl Go.Ab Go.Sha
abbrev Tag:=I7 32 UInt8
def h8 (a:I7 8 UInt32):H8:=⟨a.l.getD 0 0,a.l.getD 1 0,a.l.getD 2 0,a.l.getD 3 0,a.l.getD 4 0,a.l.getD 5 0,a.l.getD 6 0,a.l.getD 7 0⟩
def a9g (x:H8):I7 8 UInt32:=⟨x.l,rfl⟩
theorem b5s (x:H8):h8 (a9g x)=x:=rfl
theorem c4l (a:I7 8 UInt32):(h8 a).l=a.l:=by
 obtain⟨l,h⟩:=a
 match l,h with
 | [a,b,c,d,e,f,g,i],_=>rfl
def sha (l:List UInt8):Tag:=⟨a3e l,a9c l⟩
theorem a9l (x:H8) (r:List UInt8) (n:Nat):(a2z x r n).length=32:=by rw [a2z,a0W,H8.length]
def c1Z:O2:=⟨a9g iv,[],0⟩
def a6X (h:O2) (b:List UInt8):O2:=⟨a9g (a1b (h8 h.H) (h.Rest++b)),rest (h.Rest++b),h.Len+b.length⟩
def c0j (h:O2):Tag:=⟨a2z (h8 h.H) h.Rest h.Len.toNat,a9l _ _ _⟩
def hOf (l:List UInt8):O2:=⟨a9g (a1b iv l),rest l,l.length⟩
@[simp] theorem a7X:c1Z=hOf []:=rfl
@[simp] theorem a3U (l m:List UInt8):a6X (hOf l) m=hOf (l++m):=by
 simp only [a6X,hOf,b5s,a5j,b1F,List.length_append]
 congr 1
@[simp] theorem a6m (l:List UInt8):c0j (hOf l)=sha l:=by
 apply I7.ext
 show a2z (h8 (a9g (a1b iv l))) (rest l) (Int.toNat (l.length:Int))=a3e l
 rw [b5s,Int.toNat_natCast];rfl
@[simp] theorem c3h (l:List UInt8):(hOf l).Rest.length=l.length % 64:=a2S l
@[simp] theorem c3K (l:List UInt8):(hOf l).Len=l.length:=rfl
end Go.Mac
namespace Go.Proofs.YtmmclghiidoldaaGreatDoor
open Go.Proofs.Tryz
open Go.Fl Go.Ab Go.Sha Go.Mac
def a6n:I7 8 Int:=⟨[0,64,32,7,0,0,0,0],rfl⟩
def glX:Gl:=⟨fun I=>Cells I 0 0 (a6n.l.map i64),fun hle h=>h.mono hle⟩
def gl:Gl:=⟨fun I=>Cells I 1 0 (kk.map Fl.u32)∧glX.p I,fun hle h=>⟨h.1.mono hle,glX.mono hle h.2⟩⟩
theorem a1g (I:Im) (h:gl.p I):E6 I (.p a6n) (ptr 0 0):=⟨0,0,_,rfl,(by repeat' (first|exact rfl|(refine⟨[_],_,rfl,⟨rfl,by decide,by decide⟩,?_⟩))),h.2⟩
theorem b1U (a:I7 8 UInt32):a.l.map Fl.u32=(h8 a).cells:=by
 rw [←c4l a];rfl
theorem b0K {I:Im} {v:Value} {l:List UInt8}:SlA I v l↔Sl I 1 v l.length (x6 l):=by
 constructor
 ·rintro⟨xs,h1,h2⟩
  rw [a2T.1 h2] at h1;exact h1
 ·intro h;exact⟨_,h,a2T.2 rfl⟩
theorem a9I {I:Im} {h:O2} {u:Value} (hu:E6 I (.v h) u):∃ sv,u = .agg ((h8 h.H).cells ++ [sv,i64 h.Len]).toArray∧Sl I 1 sv h.Rest.length (x6 h.Rest):=by
 obtain⟨cs,⟨c1,r1,rfl,h1,c2,r2,rfl,⟨sv,rfl,h2⟩,c3,r3,rfl,⟨rfl,_⟩,h4⟩,rfl⟩:=hu
 cases h4
 have:=a6g.1 h1
 subst this
 exact⟨sv,by rw [←b1U];rfl,b0K.1 h2⟩
theorem a8C {I:Im} {h:O2} {sv:Value} (hs:Sl I 1 sv h.Rest.length (x6 h.Rest)) (h1 : -9223372036854775808≤h.Len) (h2:h.Len≤9223372036854775807):E6 I (.v h) (.agg ((h8 h.H).cells ++ [sv,i64 h.Len]).toArray):=by
 refine⟨h.H.l.map Fl.u32++([sv]++([i64 h.Len] ++ [])),⟨_,_,a8,a6g.2 a8,_,_,a8,⟨sv,a8,b0K.2 hs⟩,_,_,a8,⟨a8,h1,h2⟩,a8⟩,?_⟩
 rw [b1U];rfl
theorem a5K {I:Im} {l:List UInt8} {u:Value} (hu:E6 I (.v l) u):Sl I 1 u l.length (x6 l):=by
 obtain⟨cs,⟨v,rfl,h⟩,rfl⟩:=hu
 exact b0K.1 h
theorem b1V {I:Im} {l:List UInt8} {u:Value} (h:Sl I 1 u l.length (x6 l)):E6 I (.v l) u:=⟨[u],⟨u,rfl,b0K.2 h⟩,rfl⟩
theorem a6Y {I:Im} {t:Tag}:E6 I (.v t) (.agg (x6 t.l).toArray):=⟨x6 t.l,a2T.2 rfl,rfl⟩
theorem b5t:u1 gl prog 200 [] (fun r=>r = .v c1Z):=fun I vs hG hvs=>by
 cases hvs
 refine(b5c I).mono fun v J hle hv=>⟨_,?_,a8⟩
 subst hv
 exact a8C (h:=c1Z) (Sl.nil J 1) (by decide) (by decide)
theorem a2W (h : O2) (b : List UInt8) (h0 : 0 ≤ h.Len) (h1 : h.Rest.length + b.length ≤ 35184372088832) (h2 : h.Len + b.length ≤ 4611686018427387904) :
    u1 gl prog 199 [.v h,.v b] (fun r=>r = .v (a6X h b)):=fun I vs hG hvs=>by
  obtain⟨u,r,rfl,hu,u2,r2,rfl,hu2,rfl⟩:=hvs
  obtain⟨sv,rfl,hs⟩:=a9I hu
  obtain⟨n,hn⟩:=Int.eq_ofNat_of_zero_le h0
  have hw:=a6Q I (h8 h.H) sv h.Rest n u2 b hs (a5K hu2) h1 (by omega) hG.1
  rw [hn]
  refine hw.mono fun v J hle ⟨sv',hv,hs'⟩=>⟨_,?_,rfl⟩
  subst hv
  have e:(a6X h b).Len=((n+b.length:Nat):Int):=by simp [a6X,hn]
  have:=a8C (I:=J) (h:=a6X h b) (sv:=sv') hs' (by rw [e];omega) (by rw [e];omega)
  rw [e] at this
  exact this
theorem b5u (h:O2) (h0:0≤h.Len) (h1:h.Rest.length≤17592186044416) (h2:h.Len≤2305843009213693952):u1 gl prog 198 [.v h] (fun r=>r = .v (c0j h)):=fun I vs hG hvs=>by
 obtain⟨u,r,rfl,hu,rfl⟩:=hvs
 obtain⟨sv,rfl,hs⟩:=a9I hu
 obtain⟨n,hn⟩:=Int.eq_ofNat_of_zero_le h0
 have hw:=b5d I (h8 h.H) sv h.Rest n hs h1 (by omega) hG.1
 rw [hn]
 refine hw.mono fun v J hle hv=>⟨_,?_,rfl⟩
 subst hv
 have e:(c0j h).l=a2z (h8 h.H) h.Rest n:=by simp [c0j,hn]
 rw [←e]
 exact a6Y
theorem c4m (b:List UInt8) (h1:b.length≤17592186044416):u1 gl prog 197 [.v b] (fun r=>r = .v (sha b)):=fun I vs hG hvs=>by
 obtain⟨u,r,rfl,hu,rfl⟩:=hvs
 refine(c1G I u b (a5K hu) h1 hG.1).mono fun v J hle hv=>⟨_,?_,a8⟩
 subst hv
 exact a6Y (t:=sha b)
theorem a8D (b:List UInt8) (h1:b.length≤17592186044416):u1 gl prog 181 [.v b] (fun r=>r = .v (sha b)):=fun I vs hG hvs=>by
 obtain⟨u,r,rfl,hu,rfl⟩:=hvs
 refine(b9T I u b (a5K hu) h1).mono fun v J hle hv=>⟨_,?_,a8⟩
 subst hv
 rw [b6g]
 exact a6Y (t:=sha b)
theorem b0L (n:UInt64):u1 gl prog 183 [.v n] (fun r=>r = .v (S1 n 8)):=fun I vs hG hvs=>by
 obtain⟨u,r,rfl,hu,rfl⟩:=hvs
 obtain⟨cs,rfl,rfl⟩:=hu
 exact(a9C I n).mono fun v J hle hv=>⟨_,b1V (by rw [E1];exact hv),a8⟩
open Go.Fl Go.Ab Go.Mac
theorem b3V (a b:UInt8):(a ||| b=0)↔(a=0∧b=0):=by
 rw [←UInt8.toBitVec_inj,←UInt8.toBitVec_inj,←UInt8.toBitVec_inj]
 simp only [UInt8.toBitVec_or,UInt8.toBitVec_ofNat]
 exact BitVec.or_eq_zero_iff
theorem b1W (a b:UInt8):(a ^^^ b=0)↔a=b:=by
 rw [←UInt8.toBitVec_inj,←UInt8.toBitVec_inj]
 simp only [UInt8.toBitVec_xor,UInt8.toBitVec_ofNat]
 exact BitVec.xor_eq_zero_iff
theorem a6o {α:Type} (a b:List α) (k:Nat) (h1:k < a.length) (h2:k < b.length):(a.take (k+1)=b.take (k+1))↔(a.take k=b.take k∧a[k]=b[k]):=by
 rw [List.take_succ_eq_append_getElem h1,List.take_succ_eq_append_getElem h2]
 constructor
 ·intro h
  have h3:=List.append_inj h (by simp<;>omega)
  exact⟨h3.1,by simpa using h3.2⟩
 ·rintro⟨h3,h4⟩
  rw [h3,h4]
theorem _root_.Go.Ab.I9.sr {P:Program} {C:Ctx} {N:Nat} {σ:x9} {H:j7} {Q:Exit→x9→j7→Prop} {id:Nat} {l:List Oper} {y:Code} (hd:J7 N l=true) (h:D5 P C N l.toArray (a6f (I9 P C N y Q) Q) l σ H):I9 P C N (.seq (.region id l.toArray false) y) Q σ H := .seq (.region hd h)
theorem _root_.Go.Ab.D5.mv {P:Program} {C:Ctx} {N:Nat} {ops:Array Oper} {σ:x9} {H:j7} {Q:Exit→x9→j7→Prop} {d t:Nat} {ty:TypeId} {ps:String} {af:Array Edge} {a:AV} {rest:List Oper} (hx:F0 σ t=some a) (k:D5 P C N ops Q rest ((d,a)::σ) H):D5 P C N ops Q (⟨some d,.move (.tmp t),ty,ps,af,none⟩::rest) σ H := .p (.move (.t hx) k)
theorem _root_.Go.Ab.D5.ag {P:Program} {C:Ctx} {N:Nat} {ops:Array Oper} {σ:x9} {H:j7} {Q:Exit→x9→j7→Prop} {d t:Nat} {ty:TypeId} {ps:String} {af:Array Edge} {a:AV} {rest:List Oper} (hx:F0 σ t=some a) (k:D5 P C N ops Q rest ((d,a)::σ) H):D5 P C N ops Q (⟨some d,.assign (.tmp t),ty,ps,af,none⟩::rest) σ H := .p (.assign (.t hx) k)
theorem _root_.Go.Ab.E8.q {C:Ctx} {σ:x9} {H:j7} {t:Nat} {a:AV} {b w:Bool} (h:F0 σ t=some (.opt (b == w) a)) (hc:b=w):E8 C σ H (.tmp t) a := .o h (beq_iff_eq.2 hc)
theorem _root_.Go.Ab.a8t.c2 {σ' σ:x9} {t u:Nat} {a b:AV} (h:F0 σ t=some a) (g:F0 σ u=some b) (k:a8t σ' σ):a8t ((t,a)::(u,b)::σ') σ := .cons h (.cons g k)
theorem _root_.Go.Ab.u7.z1 {A0 B:Bool×E3} {H:j7}:u7 (A0::B::H) B (fun X=>A0::X::H) := .s .z
theorem _root_.Go.Ab.u7.z2 {A0 A1 B:Bool×E3} {H:j7}:u7 (A0::A1::B::H) B (fun X=>A0::A1::X::H) := .s (.s .z)
theorem _root_.Go.Ab.u7.z3 {A0 A1 A2 B:Bool×E3} {H:j7}:u7 (A0::A1::A2::B::H) B (fun X=>A0::A1::A2::X::H) := .s (.s (.s .z))
theorem _root_.Go.Ab.u7.z4 {A0 A1 A2 A3 B:Bool×E3} {H:j7}:u7 (A0::A1::A2::A3::B::H) B (fun X=>A0::A1::A2::A3::X::H) := .s (.s (.s (.s .z)))
theorem _root_.Go.Ab.u7.z5 {A0 A1 A2 A3 A4 B:Bool×E3} {H:j7}:u7 (A0::A1::A2::A3::A4::B::H) B (fun X=>A0::A1::A2::A3::A4::X::H) := .s (.s (.s (.s (.s .z))))
theorem _root_.Go.Ab.u7.z6 {A0 A1 A2 A3 A4 A5 B:Bool×E3} {H:j7}:u7 (A0::A1::A2::A3::A4::A5::B::H) B (fun X=>A0::A1::A2::A3::A4::A5::X::H) := .s (.s (.s (.s (.s (.s .z)))))
theorem _root_.Go.Ab.u7.z7 {A0 A1 A2 A3 A4 A5 A6 B:Bool×E3} {H:j7}:u7 (A0::A1::A2::A3::A4::A5::A6::B::H) B (fun X=>A0::A1::A2::A3::A4::A5::A6::X::H) := .s (.s (.s (.s (.s (.s (.s .z))))))
theorem _root_.Go.Ab.u7.z8 {A0 A1 A2 A3 A4 A5 A6 A7 B:Bool×E3} {H:j7}:u7 (A0::A1::A2::A3::A4::A5::A6::A7::B::H) B (fun X=>A0::A1::A2::A3::A4::A5::A6::A7::X::H) := .s (.s (.s (.s (.s (.s (.s (.s .z)))))))
theorem _root_.Go.Ab.u7.z9 {A0 A1 A2 A3 A4 A5 A6 A7 A8 B:Bool×E3} {H:j7}:u7 (A0::A1::A2::A3::A4::A5::A6::A7::A8::B::H) B (fun X=>A0::A1::A2::A3::A4::A5::A6::A7::A8::X::H) := .s (.s (.s (.s (.s (.s (.s (.s (.s .z))))))))
theorem _root_.Go.Ab.u7.z10 {A0 A1 A2 A3 A4 A5 A6 A7 A8 A9 B:Bool×E3} {H:j7}:u7 (A0::A1::A2::A3::A4::A5::A6::A7::A8::A9::B::H) B (fun X=>A0::A1::A2::A3::A4::A5::A6::A7::A8::A9::X::H) := .s (.s (.s (.s (.s (.s (.s (.s (.s (.s .z)))))))))
theorem _root_.Go.Ab.u7.z11 {A0 A1 A2 A3 A4 A5 A6 A7 A8 A9 A10 B:Bool×E3} {H:j7}:u7 (A0::A1::A2::A3::A4::A5::A6::A7::A8::A9::A10::B::H) B (fun X=>A0::A1::A2::A3::A4::A5::A6::A7::A8::A9::A10::X::H) := .s (.s (.s (.s (.s (.s (.s (.s (.s (.s (.s .z))))))))))
theorem _root_.Go.Ab.u7.z12 {A0 A1 A2 A3 A4 A5 A6 A7 A8 A9 A10 A11 B:Bool×E3} {H:j7}:u7 (A0::A1::A2::A3::A4::A5::A6::A7::A8::A9::A10::A11::B::H) B (fun X=>A0::A1::A2::A3::A4::A5::A6::A7::A8::A9::A10::A11::X::H) := .s (.s (.s (.s (.s (.s (.s (.s (.s (.s (.s (.s .z)))))))))))
theorem _root_.Go.Ab.a7M.e1 {P:Program} {fn:Func} {C:Ctx} {post:AV→j7→Prop} {σ:x9} {H:j7} {t:Nat} {a:AV} (h:fn.results = #[.tmp t]) (ha:F0 σ t=some a) (k:post a H):a7M P fn C post .ret σ H:=⟨a,.r1 h (.tmp ha),k⟩
theorem _root_.Go.Ab.a7M.e2 {P:Program} {fn:Func} {C:Ctx} {post:AV→j7→Prop} {σ:x9} {H:j7} {t t2:Nat} {a b:AV} (h:fn.results = #[.tmp t,.tmp t2]) (ha:F0 σ t=some a) (hb:F0 σ t2=some b) (k:post (.t2 a b) H):a7M P fn C post .ret σ H:=⟨_,.r2 h (.tmp ha) (.tmp hb),k⟩
theorem _root_.Go.Ab.u1.jn {G : Gl} {P : Program} {f : FuncId} {fn : Func} {c : Code} {vs : List AV} {post : AV → Prop} {σ : x9} (hf : P.funcs[f]? = some fn) (hn : (fn.name == "runtime.NumGoroutine") = false) (N : Nat) (hb : (fn.body, fn.ntmps, Nat.ble vs.length N, b0y vs 0) = (some c, N, true, σ))
    (h:∀ C:Ctx,Ctx.Ok C→G.p C.I0→I9 P C N c (a7M P fn C (fun r _=>post r)) σ []):u1 G P f vs post:=by
  simp only [Prod.mk.injEq] at hb
  exact .intro hf hb.1 hn N hb.2.1 hb.2.2.1 σ hb.2.2.2 h
theorem _root_.Go.Ab.F5.jn {G : Gl} {P : Program} {f : FuncId} {fn : Func} {c : Code} {vs : List AV} {Hs : List E3} {post : AV → List E3 → Prop} {σ : x9} {H0 : j7} (hf : P.funcs[f]? = some fn) (hn : (fn.name == "runtime.NumGoroutine") = false) (N : Nat) (hb : (fn.body, fn.ntmps, Nat.ble vs.length N, b0y vs 0, Hs.map (fun B => (false, B))) = (some c, N, true, σ, H0))
    (h:∀ C:Ctx,Ctx.Ok C→G.p C.I0→I9 P C N c (a7M P fn C (fun r H=>post r (H.map Prod.snd))) σ H0):F5 G P f vs Hs post:=by
  simp only [Prod.mk.injEq] at hb
  exact .intro hf hb.1 hn N hb.2.1 hb.2.2.1 σ hb.2.2.2.1 H0 hb.2.2.2.2 h
theorem c0k (a b:List UInt8):u1 gl prog 164 [.v a,.v b] (fun r=>r = .v (decide (a=b))):=by
 refine u1.jn func164 (by kernel_rfl) 31 rfl fun C hC hG => ?_
 refine .q 6 hG ?_
 refine .T7 0 a8 fun hl0 => ?_
 refine .q 8 hG ⟨fun hc11 => ?_,fun hc11 => ?_⟩
 ·refine .q 5 hG ?_
  refine .e1 a8 a8 ?_
  exact congrArg AV.v (by rw [eq_comm,decide_eq_false_iff_not];rintro rfl;exact hc11 rfl)
 ·refine .q 13 hG ?_
  refine .D9 (α:=Nat×UInt8) [(0,_),(1,_),(13,_)] (fun x R=>(5,.v x.2)::(14,.v (x.1:Int))::R) (fun x => []) (fun x=>x.1≤a.length∧(x.2=0↔a.take x.1=b.take x.1)) (fun x=>a.length - x.1) ((0,0)) (.c2 a8 a8 (.cons a8 (.nil _))) ?_ (.c2 a8 a8 (.c2 a8 a8 (.cons a8 (.nil _)))) (a8) fun x hF => ?_
  ·simp
  obtain⟨k,e⟩:=x
  obtain⟨h1,h2⟩:=hF
  dsimp only at h1 h2 ⊢
  refine .q 6 hG ⟨fun hc15 => ?_,fun hc15 => ?_⟩
  ·refine .q 8 hG ?_
   refine .draw (by kernel_rfl) 12 [[],[],[],[(18,1),(19,2)],[(20,3)],[],[],[(22,5),(23,6)],[(24,7)],[(21,4),(25,8)],[(17,0),(26,9)],[(27,10)]] a8 (by kernel_rfl) a8 ?_
   refine⟨_,j6.move (.t a8) a8,?_⟩
   refine⟨_,j6.move (.t a8) a8,?_⟩
   refine⟨_,j6.move (.t a8) a8,?_⟩
   refine⟨_,j6.idx ty5 underlying86 (.t a8) (.t a8) (by omega) (by omega) a8,?_⟩
   refine⟨_,j6.G2 ty5 (.t a8) a8,?_⟩
   refine⟨_,j6.move (.t a8) a8,?_⟩
   refine⟨_,j6.move (.t a8) a8,?_⟩
   refine⟨_,j6.idx ty5 underlying86 (.t a8) (.t a8) (by omega) (by omega) a8,?_⟩
   refine⟨_,j6.G2 ty5 (.t a8) a8,?_⟩
   refine⟨_,j6.b3f (.t a8) (.t a8) a8,?_⟩
   refine⟨_,j6.or8 (.t a8) (.t a8) a8,?_⟩
   refine⟨_,j6.assign (.t a8) a8,?_⟩
   show D5 _ _ _ _ _ [] ((5,_)::(27,_)::(26,_)::(25,_)::(24,_)::(23,_)::(22,_)::(21,_)::(20,_)::(19,_)::(18,_)::(17,_)::_) _
   refine .q 2 hG ?_
   refine .ad (by omega) (by omega) ?_
   refine .q 2 hG ?_
   refine⟨(k+1,_),.c2 rfl rfl (.c2 rfl rfl (.cons rfl (.nil _))),rfl,?_,by dsimp only;omega⟩
   refine⟨by dsimp only;omega,?_⟩;dsimp only;rw [a6o a b k (by omega) (by omega),b3V,b1W,h2];rfl
  ·refine .q 8 hG ?_
   refine .e1 a8 a8 ?_
   exact congrArg AV.v (by rw [decide_eq_decide,h2,List.take_of_length_le (by omega),List.take_of_length_le (by omega)])
theorem a5L (a b:List UInt8):u1 gl prog 50 [.v a,.v b] (fun r=>r = .v (decide (a=b))):=by
 refine u1.jn func50 (by kernel_rfl) 26 rfl fun C hC hG => ?_
 refine .q 6 hG ?_
 refine .T7 0 a8 fun hl0 => ?_
 refine .q 8 hG ⟨fun hc10 => ?_,fun hc10 => ?_⟩
 ·refine .q 5 hG ?_
  refine .e1 a8 a8 ?_
  exact congrArg AV.v (by rw [eq_comm,decide_eq_false_iff_not];rintro rfl;exact hc10 rfl)
 ·refine .q 7 hG ?_
  refine .D9 (α:=Nat) [(0,_),(1,_)] (fun k R=>(5,.v (k:Int))::R) (fun k => []) (fun k=>k≤a.length∧a.take k=b.take k) (fun k=>a.length - k) (0) (.c2 a8 a8 (.nil _)) ?_ (.c2 a8 a8 (.cons a8 (.nil _))) (a8) fun k hF => ?_
  ·simp
  obtain⟨h1,h2⟩:=hF
  refine .q 9 hG ⟨fun hc14 => ?_,fun hc14 => ?_⟩
  ·refine .q 4 hG ?_
   refine .draw (by kernel_rfl) 9 [[],[],[(17,0),(18,1)],[(19,2)],[],[],[(21,4),(22,5)],[(23,6)],[(20,3),(24,7)]] a8 (by kernel_rfl) a8 ?_
   refine⟨_,j6.move (.t a8) a8,?_⟩
   refine⟨_,j6.move (.t a8) a8,?_⟩
   refine⟨_,j6.idx ty5 underlying86 (.t a8) (.t a8) (by omega) (by omega) a8,?_⟩
   refine⟨_,j6.G2 ty5 (.t a8) a8,?_⟩
   refine⟨_,j6.move (.t a8) a8,?_⟩
   refine⟨_,j6.move (.t a8) a8,?_⟩
   refine⟨_,j6.idx ty5 underlying86 (.t a8) (.t a8) (by omega) (by omega) a8,?_⟩
   refine⟨_,j6.G2 ty5 (.t a8) a8,?_⟩
   refine⟨_,j6.c3Y (.t a8) (.t a8) a8,?_⟩
   show D5 _ _ _ _ _ [] ((25,_)::(24,_)::(23,_)::(22,_)::(21,_)::(20,_)::(19,_)::(18,_)::(17,_)::_) _
   refine .q 2 hG ⟨fun hc25 => ?_,fun hc25 => ?_⟩
   ·refine .q 5 hG ?_
    refine .e1 a8 a8 ?_
    exact congrArg AV.v (by rw [eq_comm,decide_eq_false_iff_not];rintro rfl;exact hc25 rfl)
   ·refine .q 3 hG ?_
    refine .ad (by omega) (by omega) ?_
    refine .q 2 hG ?_
    refine⟨k+1,.c2 rfl rfl (.cons rfl (.nil _)),rfl,?_,by omega⟩
    exact⟨by omega,(a6o a b k (by omega) (by omega)).2 ⟨h2,by simpa using hc25⟩⟩
  ·refine .q 6 hG ?_
   refine .e1 a8 a8 ?_
   refine congrArg AV.v (by rw [eq_comm,decide_eq_true_eq];rwa [List.take_of_length_le (by omega),List.take_of_length_le (by omega)] at h2)
theorem b8h (x n:Int) (h0:0 < n) (h1:n≤4611686018427387904):u1 gl prog 56 [.v x,.v n] (fun r=>r = .v (x % n)):=by
 have h2:=Int.tmod_lt_of_pos x h0
 have h3 : -n < x.tmod n:=Int.lt_tmod_of_pos x h0
 have h4:(x.tmod n+n) % n=x % n:=by
  rw [Int.add_emod_right,Int.tmod_def,Int.sub_mul_emod_self_left]
 refine u1.jn func56 (by kernel_rfl) 12 rfl fun C hC hG => ?_
 refine .q 8 hG ?_
 refine .p (.tmod (.t a8) (.t a8) (by omega) ?_)
 refine .q 1 hG ?_
 refine .ad (by omega) (by omega) ?_
 refine .q 1 hG ?_
 refine .p (.rem (.t a8) (.t a8) (by omega) (by omega) ?_)
 refine .q 3 hG ?_
 refine .e1 a8 a8 ?_
 rw [h4]
def a3V (c:UInt8):Bool:=decide (97≤c)&&decide (c≤122)
def T8 (s:Str):Bool:=decide (1≤s.l.length)&&decide (s.l.length≤16)&&s.l.all a3V
theorem all_succ {α:Type} (p:α→Bool) (l:List α) (k:Nat) (h:k < l.length):(l.take (k+1)).all p=((l.take k).all p&&p l[k]):=by
 rw [List.take_succ_eq_append_getElem h,List.all_append];simp
theorem b0M {α:Type} (p:α→Bool) (l:List α) (k:Nat) (h:k < l.length) (hf:p l[k]=false):l.all p=false:=by
 rw [List.all_eq_false];exact⟨l[k],List.getElem_mem h,by simp [hf]⟩
theorem b3W (s:Str):u1 gl prog 119 [.v s] (fun r=>r = .v (T8 s)):=by
 refine u1.jn func119 (by kernel_rfl) 28 rfl fun C hC hG => ?_
 refine .q 6 hG ?_
 refine .a9E 0 a8 fun hs => ?_
 refine .q 10 hG ?_
 refine .cond (.t a8) (fun hc11 => ?_) (fun hc11 => ?_)
 ·refine .q 5 hG ?_
  refine .e1 a8 a8 ?_
  refine congrArg AV.v ?_;simp only [Bool.or_eq_true,decide_eq_true_eq] at hc11;unfold T8;rcases hc11 with h|h
  ·rw [decide_eq_false (show ¬1≤s.l.length by omega)];rfl
  ·rw [decide_eq_false (show ¬s.l.length≤16 by omega)];simp
 ·refine .q 7 hG ?_
  refine .D9 (α:=Nat) [(0,_)] (fun k R=>(3,.v (k:Int))::R) (fun k => []) (fun k=>k≤s.l.length∧(s.l.take k).all a3V=true) (fun k=>s.l.length - k) (0) (.cons a8 (.nil _)) ?_ (.c2 a8 a8 (.nil _)) (a8) fun k hF => ?_
  ·simp
  obtain⟨h1,h2⟩:=hF
  refine .q 9 hG ⟨fun hc15 => ?_,fun hc15 => ?_⟩
  ·refine .q 7 hG ?_
   refine .p (.b5i underlying9 (.t a8) (.t a8) (by omega) (by omega) ?_)
   refine .q 4 hG ?_
   refine .go 22 a8 (.t a8) (fun hg25 => .b5i underlying9 (.q a8 hg25) (.q a8 hg25) (by first|omega|(simp;omega)|(have:=hg25;simp at this;omega)) (by first|omega|(simp;omega)|(have:=hg25;simp at this;omega)) a8) ?_
   refine .q 3 hG ?_
   refine .cond (.t a8) (fun hc27 => ?_) (fun hc27 => ?_)
   ·refine .q 5 hG ?_
    refine .e1 a8 a8 ?_
    refine congrArg AV.v (Eq.symm ?_);unfold T8;rw [b0M a3V s.l k (by omega),Bool.and_false];unfold a3V;simp only [Bool.or_eq_true,decide_eq_true_eq,Int.toNat_natCast] at hc27;rcases hc27 with h|h
    ·rw [decide_eq_false (UInt8.not_le.2 h)];rfl
    ·rw [decide_eq_false (UInt8.not_le.2 h),Bool.and_false]
   ·refine .q 3 hG ?_
    refine .ad (by omega) (by omega) ?_
    refine .q 2 hG ?_
    refine⟨k+1,.c2 rfl rfl (.nil _),rfl,?_,by omega⟩
    refine⟨by omega,?_⟩;rw [all_succ _ _ _ (by omega),h2];simp only [Bool.or_eq_false_iff,decide_eq_false_iff_not,UInt8.not_lt,Int.toNat_natCast] at hc27;simpa [a3V] using hc27
  ·refine .q 6 hG ?_
   refine .e1 a8 a8 ?_
   refine congrArg AV.v (Eq.symm ?_);simp only [Bool.or_eq_false_iff,decide_eq_false_iff_not] at hc11;unfold T8;rw [List.take_of_length_le (by omega)] at h2;rw [h2];simp;omega
def a9m (key:List UInt8):List UInt8:=key++List.replicate (64 - key.length) 0
def a2b (key:List UInt8) (x:UInt8):List UInt8:=(a9m key).map (· ^^^ x)
theorem a4D (key:List UInt8) (h:key.length≤64):(a9m key).length=64:=by simp [a9m];omega
@[simp] theorem c11 (key:List UInt8) (x:UInt8):(a2b key x).length=max 64 key.length:=by simp [a2b,a9m];omega
theorem a5t (key:List UInt8) (x:UInt8) (h:key.length≤64):(a2b key x).length=64:=by simp [a2b,a4D key h]
theorem b6n {α:Type} (f:α→α) (l:List α) (k:Nat) (h:k < l.length):((l.take k).map f++l.drop k).set k (f l[k])=(l.take (k+1)).map f++l.drop (k+1):=by
 rw [List.set_append_right _ _ (by simp<;>omega)]
 have e:k - ((l.take k).map f).length=0:=by simp;omega
 rw [e,List.drop_eq_getElem_cons h,List.set_cons_zero,List.take_succ_eq_append_getElem h]
 simp only [List.map_append,List.map_cons,List.map_nil,List.append_assoc,List.cons_append,List.nil_append]
theorem a9n {α:Type} (f:α→α) (l:List α) (k:Nat) (h:k < l.length) (h2:k < ((l.take k).map f++l.drop k).length):((l.take k).map f++l.drop k)[k]=l[k]:=by
 rw [List.getElem_append_right (by simp<;>omega)]
 simp [Nat.min_eq_left (Nat.le_of_lt h)]
theorem b8i {α:Type} (f:α→α) (l:List α) (k:Nat) (h:k < l.length) (h2:k < ((l.take k).map f++l.drop k).length):((l.take k).map f++l.drop k).set k (f (((l.take k).map f++l.drop k)[k]))=(l.take (k+1)).map f++l.drop (k+1):=by
 rw [a9n f l k h h2];exact b6n f l k h
theorem b6o (key:List UInt8) (f:UInt8→UInt8) (hk:key.length≤64):key.take (List.replicate 64 (0:UInt8)).length++(List.replicate 64 (0:UInt8)).drop key.length=((a9m key).take 0).map f++(a9m key).drop 0:=by
 rw [List.length_replicate,List.drop_replicate,List.take_of_length_le hk]
 rfl
theorem c3i (key:List UInt8) (hk:key.length≤64):(key.take (List.replicate (Int.toNat 64) (default:UInt8)).length++(List.replicate (Int.toNat 64) (default:UInt8)).drop key.length).length=64:=by
 rw [List.length_append,List.length_take,List.length_drop,List.length_replicate]
 show min 64 key.length+(64 - key.length)=64
 omega
theorem b5v (key:List UInt8) (x:UInt8) (hk:key.length≤64):u1 gl prog 201 [.v key,.v x] (fun r=>r = .v (a2b key x)):=by
 have hl:=a4D key hk
 have e64:=c3i key hk
 refine u1.jn func201 (by kernel_rfl) 25 rfl fun C hC hG => ?_
 refine .q 6 hG ?_
 refine .h (.make P5 (.i a8) (by omega) (by omega) (by omega) fun b7 => ?_)
 refine .q 6 hG ?_
 refine .h (.b9X ty5 underlying86 a8 .z (.v (.t a8)) (by omega) ?_)
 refine .q 5 hG ?_
 refine .p (.a3S underlying86 a8 .z ?_)
 refine .q 3 hG ?_
 refine .D9 (α:=Nat) [(1,_),(5,_),(12,_)] (fun k R=>(13,.v (k:Int))::R) (fun k => [(true,.own 5 (slc b7 0 64 64) (((a9m key).take k).map (· ^^^ x)++(a9m key).drop k))]) (fun k=>k≤64) (fun k=>64 - k) (0) (.c2 a8 a8 (.cons a8 (.nil _))) ?_ (.c2 a8 a8 (.c2 a8 a8 (.nil _))) (congrArg (fun q => [(true,E3.own _ _ q)]) (b6o key _ hk)) fun k hF => ?_
 ·simp
 refine .q 6 hG ⟨fun hc14 => ?_,fun hc14 => ?_⟩
 ·refine .q 11 hG ?_
  refine .p (.W7 ty5 underlying86 a8 .z (.t a8) (by omega) (by simp<;>omega) (.p (.b3H ty5 (.t a8) .z (by simp<;>omega) ?_)))
  refine .q 1 hG ?_
  refine .p (.b3f (.t a8) (.t a8) (.p (.W7 ty5 underlying86 a8 .z (.t a8) (by omega) (by simp<;>omega) (.n (.b0E ty5 (.t a8) (.t a8) .z (by simp<;>omega) ?_)))))
  refine .q 2 hG ?_
  refine .ad (by omega) (by omega) ?_
  refine .q 2 hG ?_
  refine⟨k+1,.c2 rfl rfl (.c2 rfl rfl (.nil _)),congrArg (fun q => [(true,E3.own _ _ q)]) (b8i (· ^^^ x) (a9m key) k (by omega) _),?_,by omega⟩
  omega
 ·refine .q 6 hG ?_
  refine .u0 hC .z (.as 4 a8 .z ?_)
  refine .q 1 hG ?_
  refine .e1 a8 a8 ?_
  refine congrArg AV.v ?_;have:k=64:=by simp at hc14;omega
  subst this;rw [List.take_of_length_le (by omega),List.drop_eq_nil_of_le (by omega),List.append_nil];rfl
theorem a6p {α:Type} (P:List α) (z:α) (n k:Nat) (hn:P.length=n) (h:k < n) (v:α) (hv:P[k]'(by omega)=v):(P.take k++List.replicate (n - k) z).set k v=P.take (k+1)++List.replicate (n - (k+1)) z:=by
 rw [List.set_append_right _ _ (by simp<;>omega)]
 have e:k - (P.take k).length=0:=by simp;omega
 rw [e,show n - k=(n - (k+1))+1 by omega,List.replicate_succ,List.set_cons_zero,List.take_succ_eq_append_getElem (by omega),hv]
 simp
theorem a3W (key:List UInt8) (x:UInt8) (k:Nat) (h:k < (a2b key x).length):(a2b key x)[k]=(if h2:k < key.length then key[k] ^^^ x else x):=by
 simp only [a2b,a9m,List.getElem_map]
 by_cases h2:k < key.length
 ·rw [List.getElem_append_left h2,dif_pos h2]
 ·rw [List.getElem_append_right (by omega),dif_neg h2];simp
theorem a45 (key:List UInt8) (x:UInt8) (hk:key.length≤64):u1 gl prog 182 [.v key,.v x] (fun r=>r = .vc (a2b key x)):=by
 have hl:=a4D key hk
 have hl2:=a5t key x hk
 refine u1.jn func182 (by kernel_rfl) 30 rfl fun C hC hG => ?_
 refine .q 6 hG ?_
 refine .h (.make P5 (.i a8) (by omega) (by omega) (by omega) fun b7 => ?_)
 refine .q 4 hG ?_
 skip
 refine .q 4 hG ?_
 refine .D9 (α:=Nat) [(0,_),(1,_),(5,_)] (fun k R=>(6,.v (k:Int))::R) (fun k => [(true,.own 5 (slc b7 0 64 64) ((a2b key x).take k++List.replicate (64 - k) 0))]) (fun k=>k≤64) (fun k=>64 - k) (0) (.c2 a8 a8 (.cons a8 (.nil _))) ?_ (.c2 a8 a8 (.c2 a8 a8 (.nil _))) (a8) fun k hF => ?_
 ·omega
 refine .q 7 hG ⟨fun hc9 => ?_,fun hc9 => ?_⟩
 ·refine .q 8 hG ?_
  refine .p (.W7 ty5 underlying86 a8 .z (.t a8) (by omega) (by simp<;>omega) (.n (.b0E ty5 (.t a8) (.t a8) .z (by simp<;>omega) ?_)))
  refine .q 9 hG ⟨fun hc19 => ?_,fun hc19 => ?_⟩
  ·refine .q 5 hG ?_
   refine .ix (by omega) (by omega) ?_
   refine .q 2 hG ?_
   refine .p (.b3f (.t a8) (.t a8) (.p (.W7 ty5 underlying86 a8 .z (.t a8) (by omega) (by simp<;>omega) (.n (.b0E ty5 (.t a8) (.t a8) .z (by simp<;>omega) ?_)))))
   refine .q 3 hG ?_
   refine .ad (by omega) (by omega) ?_
   refine .q 2 hG ?_
   refine⟨k+1,.c2 rfl rfl (.c2 rfl rfl (.nil _)),congrArg (fun q => [(true,E3.own _ _ q)]) (by first|exact a6p _ 0 64 k hl2 (by omega) x (by rw [a3W,dif_neg (by omega)])|exact(List.set_set ..).trans (a6p _ 0 64 k hl2 (by omega) _ (by rw [a3W,dif_pos (by omega)];rfl))),?_,by omega⟩
   omega
  ·refine .q 3 hG ?_
   refine .ad (by omega) (by omega) ?_
   refine .q 2 hG ?_
   refine⟨k+1,.c2 rfl rfl (.c2 rfl rfl (.nil _)),congrArg (fun q => [(true,E3.own _ _ q)]) (by first|exact a6p _ 0 64 k hl2 (by omega) x (by rw [a3W,dif_neg (by omega)])|exact(List.set_set ..).trans (a6p _ 0 64 k hl2 (by omega) _ (by rw [a3W,dif_pos (by omega)];rfl))),?_,by omega⟩
   omega
 ·refine .q 6 hG ?_
  refine .c3U hC .z (by rw [List.length_append,List.length_take,List.length_replicate,hl2];omega) (.as 4 a8 .z ?_)
  refine .q 1 hG ?_
  refine .e1 a8 a8 ?_
  refine congrArg AV.vc ?_;have:k=64:=by omega
  subst this;rw [List.take_of_length_le (by rw [a5t key x hk];omega)];simp
def a0m (key m:List UInt8):Tag :=
 let k:=if key.length>64 then (sha key).l else key
 sha (a2b k 92++(sha (a2b k 54++m)).l)
theorem a47 (key m:List UInt8) (h1:key.length≤1000000) (h2:m.length≤1000000):u1 gl prog 133 [.v key,.v m] (fun r=>r = .v (a0m key m)):=by
 refine u1.jn func133 (by kernel_rfl) 23 rfl fun C hC hG => ?_
 refine .q 3 hG fun b4 => ?_
 refine .q 9 hG ⟨fun hc9 => ?_,fun hc9 => ?_⟩
 ·refine .q 3 hG ?_
  refine .k hG (a8D _ (by omega)) ?_
  refine .q 1 hG fun b5 => ?_
  refine .q 1 hG ?_
  refine .A0 hC .z (.M1 5 a8 .z ?_)
  refine .q 2 hG ?_
  refine .p (.P0 (by decide) M0 (.t a8) ?_)
  refine .q 5 hG ?_
  refine .p (.o7 hG (a45 _ _ (by simp)) (.cons (.t a8) (.cons (.u8 54 a8) .nil)) ?_)
  refine .q 1 hG ?_
  refine .p (.a0I P5 (.inl ⟨_,underlying86⟩) (.t a8) (.v (.t a8)) (by simp<;>omega) (by simp<;>omega) ?_)
  refine .k hG (a8D _ (by simp<;>omega)) ?_
  refine .q 1 hG fun b6 => ?_
  refine .q 1 hG ?_
  refine .A0 hC .z (.M1 6 a8 .z ?_)
  refine .q 2 hG ?_
  refine .draw (by kernel_rfl) 5 [[],[(18,0)],[],[(19,1),(20,2)],[(21,3)]] a8 (by kernel_rfl) a8 ?_
  refine⟨_,j6.move (.t a8) a8,?_⟩
  refine⟨_,j6.o7 hG (a45 _ _ (by simp)) (.cons (.t a8) (.cons (.u8 92 a8) .nil)) a8,?_⟩
  refine⟨_,j6.P0 (by decide) M0 (.t a8) a8,?_⟩
  refine⟨_,j6.a0I P5 (.inl ⟨_,underlying86⟩) (.t a8) (.v (.t a8)) (by simp) (by simp) a8,?_⟩
  refine⟨_,j6.o7 hG (a8D _ (by simp)) (.cons (.t a8) .nil) a8,?_⟩
  show D5 _ _ _ _ _ [_] ((22,_)::(21,_)::(20,_)::(19,_)::(18,_)::_) _
  refine .q 3 hG ?_
  refine⟨_,.r1 a8 (.cell y6 a8 .z2),?_⟩
  show _=AV.v (a0m key m)
  simp only [a0m,if_pos (show key.length>64 by omega),a7X,a3U,a6m,List.nil_append]
 ·refine .q 4 hG ?_
  refine .p (.o7 hG (a45 _ _ (by omega)) (.cons (.t a8) (.cons (.u8 54 a8) .nil)) ?_)
  refine .q 1 hG ?_
  refine .p (.a0I P5 (.inl ⟨_,underlying86⟩) (.t a8) (.v (.t a8)) (by simp<;>omega) (by simp<;>omega) ?_)
  refine .k hG (a8D _ (by simp<;>omega)) ?_
  refine .q 1 hG fun b6 => ?_
  refine .q 1 hG ?_
  refine .A0 hC .z (.M1 6 a8 .z ?_)
  refine .q 2 hG ?_
  refine .draw (by kernel_rfl) 5 [[],[(18,0)],[],[(19,1),(20,2)],[(21,3)]] a8 (by kernel_rfl) a8 ?_
  refine⟨_,j6.move (.t a8) a8,?_⟩
  refine⟨_,j6.o7 hG (a45 _ _ (by omega)) (.cons (.t a8) (.cons (.u8 92 a8) .nil)) a8,?_⟩
  refine⟨_,j6.P0 (by decide) M0 (.t a8) a8,?_⟩
  refine⟨_,j6.a0I P5 (.inl ⟨_,underlying86⟩) (.t a8) (.v (.t a8)) (by simp<;>omega) (by simp<;>omega) a8,?_⟩
  refine⟨_,j6.o7 hG (a8D _ (by simp<;>omega)) (.cons (.t a8) .nil) a8,?_⟩
  show D5 _ _ _ _ _ [_] ((22,_)::(21,_)::(20,_)::(19,_)::(18,_)::_) _
  refine .q 3 hG ?_
  refine⟨_,.r1 a8 (.cell y6 a8 .z1),?_⟩
  show _=AV.v (a0m key m)
  simp only [a0m,if_neg (show ¬key.length>64 by omega),a7X,a3U,a6m,List.nil_append]
theorem a8E (key m:List UInt8) (h1:key.length≤1000000) (h2:m.length≤1000000):u1 gl prog 161 [.v key,.v m] (fun r=>r = .v (a0m key m)):=by
 refine u1.jn func161 (by kernel_rfl) 27 rfl fun C hC hG => ?_
 refine .q 3 hG fun b4 => ?_
 refine .q 9 hG ⟨fun hc9 => ?_,fun hc9 => ?_⟩
 ·refine .q 3 hG ?_
  refine .k hG (c4m _ (by omega)) ?_
  refine .q 1 hG fun b5 => ?_
  refine .q 1 hG ?_
  refine .A0 hC .z (.M1 5 a8 .z ?_)
  refine .q 2 hG ?_
  refine .p (.P0 (by decide) M0 (.t a8) ?_)
  refine .q 4 hG ?_
  refine .k hG (b5t) ?_
  refine .q 1 hG ?_
  refine .p (.o7 hG (b5v _ _ (by simp)) (.cons (.t a8) (.cons (.u8 54 a8) .nil)) (.p (.o7 hG (a2W _ _ (by simp) (by simp) (by simp)) (.cons (.t a8) (.cons (.t a8) .nil)) ?_)))
  refine .q 1 hG ?_
  refine .p (.o7 hG (a2W _ _ (by simp) (by simp<;>omega) (by simp<;>omega)) (.cons (.t a8) (.cons (.t a8) .nil)) ?_)
  refine .k hG (b5u _ (by simp<;>omega) (by simp<;>omega) (by simp<;>omega)) ?_
  refine .q 1 hG fun b6 => ?_
  refine .q 1 hG ?_
  refine .A0 hC .z (.M1 6 a8 .z ?_)
  refine .q 2 hG ?_
  refine .draw (by kernel_rfl) 7 [[],[],[(21,1)],[(20,0),(22,2)],[],[(23,3),(24,4)],[(25,5)]] a8 (by kernel_rfl) a8 ?_
  refine⟨_,j6.o7 hG (b5t) .nil a8,?_⟩
  refine⟨_,j6.move (.t a8) a8,?_⟩
  refine⟨_,j6.o7 hG (b5v _ _ (by simp)) (.cons (.t a8) (.cons (.u8 92 a8) .nil)) a8,?_⟩
  refine⟨_,j6.o7 hG (a2W _ _ (by simp) (by simp) (by simp)) (.cons (.t a8) (.cons (.t a8) .nil)) a8,?_⟩
  refine⟨_,j6.P0 (by decide) M0 (.t a8) a8,?_⟩
  refine⟨_,j6.o7 hG (a2W _ _ (by simp) (by simp) (by simp)) (.cons (.t a8) (.cons (.t a8) .nil)) a8,?_⟩
  refine⟨_,j6.o7 hG (b5u _ (by simp) (by simp) (by simp)) (.cons (.t a8) .nil) a8,?_⟩
  show D5 _ _ _ _ _ [_] ((26,_)::(25,_)::(24,_)::(23,_)::(22,_)::(21,_)::(20,_)::_) _
  refine .q 3 hG ?_
  refine⟨_,.r1 a8 (.cell y6 a8 .z2),?_⟩
  show _=AV.v (a0m key m)
  simp only [a0m,if_pos (show key.length>64 by omega),a7X,a3U,a6m,List.nil_append]
 ·refine .q 3 hG ?_
  refine .k hG (b5t) ?_
  refine .q 1 hG ?_
  refine .p (.o7 hG (b5v _ _ (by omega)) (.cons (.t a8) (.cons (.u8 54 a8) .nil)) (.p (.o7 hG (a2W _ _ (by simp) (by simp<;>omega) (by simp<;>omega)) (.cons (.t a8) (.cons (.t a8) .nil)) ?_)))
  refine .q 1 hG ?_
  refine .p (.o7 hG (a2W _ _ (by simp) (by simp<;>omega) (by simp<;>omega)) (.cons (.t a8) (.cons (.t a8) .nil)) ?_)
  refine .k hG (b5u _ (by simp<;>omega) (by simp<;>omega) (by simp<;>omega)) ?_
  refine .q 1 hG fun b6 => ?_
  refine .q 1 hG ?_
  refine .A0 hC .z (.M1 6 a8 .z ?_)
  refine .q 2 hG ?_
  refine .draw (by kernel_rfl) 7 [[],[],[(21,1)],[(20,0),(22,2)],[],[(23,3),(24,4)],[(25,5)]] a8 (by kernel_rfl) a8 ?_
  refine⟨_,j6.o7 hG (b5t) .nil a8,?_⟩
  refine⟨_,j6.move (.t a8) a8,?_⟩
  refine⟨_,j6.o7 hG (b5v _ _ (by omega)) (.cons (.t a8) (.cons (.u8 92 a8) .nil)) a8,?_⟩
  refine⟨_,j6.o7 hG (a2W _ _ (by simp) (by simp<;>omega) (by simp<;>omega)) (.cons (.t a8) (.cons (.t a8) .nil)) a8,?_⟩
  refine⟨_,j6.P0 (by decide) M0 (.t a8) a8,?_⟩
  refine⟨_,j6.o7 hG (a2W _ _ (by simp) (by simp<;>omega) (by simp<;>omega)) (.cons (.t a8) (.cons (.t a8) .nil)) a8,?_⟩
  refine⟨_,j6.o7 hG (b5u _ (by simp<;>omega) (by simp<;>omega) (by simp<;>omega)) (.cons (.t a8) .nil) a8,?_⟩
  show D5 _ _ _ _ _ [_] ((26,_)::(25,_)::(24,_)::(23,_)::(22,_)::(21,_)::(20,_)::_) _
  refine .q 3 hG ?_
  refine⟨_,.r1 a8 (.cell y6 a8 .z1),?_⟩
  show _=AV.v (a0m key m)
  simp only [a0m,if_neg (show ¬key.length>64 by omega),a7X,a3U,a6m,List.nil_append]
open Go.Fl Go.Ab Go.Mac Go.Sha
theorem b6p (n:Int) (h0:0≤n) (h1:n < 9223372036854775808) (k:Nat) (hk:k < 64):UInt8.ofInt (n >>> k)=(UInt64.ofInt n >>> UInt64.ofNat k).toUInt8:=by
 obtain⟨m,rfl⟩:=Int.eq_ofNat_of_zero_le h0
 rw [show((m:Int) >>> k)=((m >>> k:Nat):Int) from rfl]
 apply UInt8.toNat_inj.1
 have e1:(UInt64.ofInt (m:Int)).toNat=m % 2^64:=by
  simp [UInt64.ofInt];omega
 have e2:(UInt64.ofNat k).toNat=k:=by simp;omega
 have e3:(UInt8.ofInt ((m >>> k:Nat):Int)).toNat=(m >>> k) % 256:=by
  generalize m >>> k=q
  simp [UInt8.ofInt];omega
 rw [e3,UInt64.toNat_toUInt8,UInt64.toNat_shiftRight,e1,e2]
 rw [Nat.mod_eq_of_lt hk,Nat.mod_eq_of_lt (show m < 2^64 by omega)]
attribute [local simp] E1
def derive (key:Tag) (name:Str) (n:Int):Tag×Int :=
 if T8 name=false then (default,7) else if n < 0∨281474976710656 < n then (default,1) else (a0m key.l (name.l ++ [0]++S1 (UInt64.ofInt n) 8),0)
theorem b6q (key:Tag) (name:Str) (n:Int) (hs:name.l.length≤1000):u1 gl prog 137 [.v key,.v name,.v n] (fun r=>r = .t2 (.v (derive key name n).1) (.v (derive key name n).2)):=by
 refine u1.jn func137 (by kernel_rfl) 29 rfl fun C hC hG => ?_
 refine .q 3 hG fun b3 => ?_
 refine .q 1 hG fun b6 => ?_
 refine .q 6 hG ?_
 refine .k hG (b3W _) ?_
 refine .q 2 hG ?_
 refine .cond (.t a8) (fun hc10 => ?_) (fun hc10 => ?_)
 ·refine .q 2 hG ?_
  refine .p (.O0 (default:(I7 32 UInt8)) y6 M0 .nil a8 ?_)
  refine .q 4 hG ?_
  refine⟨_,.r2 a8 (.cell y6 a8 .z) (.tmp a8),?_⟩
  have e:derive key name n=(default,7):=by unfold derive;rw [if_pos (by simpa using hc10)]
  rw [e]
 ·refine .q 11 hG ?_
  refine .cond (.t a8) (fun hc17 => ?_) (fun hc17 => ?_)
  ·refine .q 2 hG ?_
   refine .p (.O0 (default:(I7 32 UInt8)) y6 M0 .nil a8 ?_)
   refine .q 4 hG ?_
   refine⟨_,.r2 a8 (.cell y6 a8 .z) (.tmp a8),?_⟩
   have e:derive key name n=(default,1):=by unfold derive;rw [if_neg (by simpa using hc10),if_pos (by simpa using hc17)]
   rw [e]
  ·refine .q 2 hG ?_
   refine .A0 hC .z1 (.M1 3 a8 .z1 (.a7n (by kernel_rfl) 10 [[],[],[(20,1)],[],[(21,2),(22,3)],[],[(24,5)],[(25,6)],[(23,4),(26,7)],[(19,0),(27,8)]] [2,4,8,9] a8 (by kernel_rfl) a8 (by kernel_rfl) (by decide) ?_))
   refine⟨_,fun H=>j6.P0 (by decide) M0 (.t a8) a8,?_⟩
   refine⟨_,fun H=>j6.move (.t a8) a8,?_⟩
   refine .inl ?_
   refine⟨_,fun H=>j6.F1 (α:=UInt8) ty5 underlying86 (.cons (.u8 0 a8) .nil) a8 (by decide) a8,?_⟩
   refine .inl ?_
   refine⟨_,fun H=>j6.move (.t a8) a8,?_⟩
   refine⟨_,fun H=>j6.a1y underlying3 underlying77 (.t a8) a8,?_⟩
   refine⟨_,fun H=>j6.o7 hG (b0L _) (.cons (.t a8) .nil) a8,?_⟩
   refine .inl (.inl ?_)
   refine A6.X7 underlying9 underlying86 underlying5 (.t rfl) fun w21 => ?_
   refine A6.append P5 (.inl ⟨_,underlying86⟩) rfl .z (.v (.c rfl)) (by simp<;>omega) (by simp<;>omega) (fun w23 => ?_) rfl
   refine A6.append P5 (.inl ⟨_,underlying86⟩) rfl .z (.v (.t rfl)) (by simp<;>omega) (by simp<;>omega) (fun w27 => ?_) rfl
   refine A6.u0 hC .z (A6.as 27 rfl .z (A6.ofP (j6.o7 hG (a47 _ _ (by simp) (by simp<;>omega)) (.cons (.t rfl) (.cons (.t rfl) .nil)) ?_)))
   show D5 _ _ _ _ _ [_,_] ((28,_)::(27,_)::(26,_)::(25,_)::(24,_)::(23,_)::(22,_)::(21,_)::(20,_)::(19,_)::_) _
   refine .q 4 hG ?_
   refine⟨_,.r2 a8 (.cell y6 a8 .z1) (.tmp a8),?_⟩
   have e:derive key name n=(a0m key.l (name.l ++ [0]++S1 (UInt64.ofInt n) 8),0):=by unfold derive;rw [if_neg (by simpa using hc10),if_neg (by simpa using hc17)]
   rw [e]
abbrev dk (w:Value):AV := .ln w (m0.id (α:=m6))
theorem a9J (l:List Int):F5 gl prog 12 [.v l] [] (fun r Hs=>∃ b,r=dk (ptr b 0)∧Hs = [.ob (ptr b 0) (⟨l,0⟩:m6)]):=by
 refine F5.jn func12 (by kernel_rfl) 6 rfl fun C hC hG => ?_
 refine .q 2 hG ?_
 refine .p (.assign .raw ?_)
 refine .q 4 hG ?_
 refine .p (.bS1 m6.l0 a8 c3d c2G (fun c0=>(⟨c0,0⟩:m6)) (fun _=>a8) a8 a8 (.t a8) ?_)
 refine .q 1 hG fun b5 => ?_
 refine .q 3 hG ?_
 refine .e1 a8 a8 ?_
 exact⟨b5,a8,a8⟩
def P1 (d:m6) (n:Int):Int×m6 :=
 if h:d.At.toNat < d.L.length then (d.L[d.At.toNat] % n,⟨d.L,d.At+1⟩) else (0,d)
def G9 (d:m6):Prop:=0≤d.At
theorem R7 {d:m6} {n:Int} (h:G9 d):G9 (P1 d n).2:=by
 unfold P1;split
 ·show 0≤d.At+1
  unfold G9 at h;omega
 ·exact h
theorem W4 {d:m6} {n:Int} (h:0 < n):0≤(P1 d n).1∧(P1 d n).1 < n:=by
 unfold P1;split
 ·exact⟨Int.emod_nonneg _ (by omega),Int.emod_lt_of_pos _ h⟩
 ·exact⟨Int.le_refl 0,h⟩
theorem a3i (w : Value) (d : m6) (n : Int) (hd : G9 d) (h0 : 0 < n) (h1 : n ≤ 4611686018427387904) :
    F5 gl prog 19 [dk w,.v n] [.ob w d] (fun r Hs=>r = .v (P1 d n).1∧Hs = [.ob w (P1 d n).2]):=by
  unfold G9 at hd
  refine F5.jn func19 (by kernel_rfl) 35 rfl fun C hC hG => ?_
  refine .q 6 hG ?_
  refine .draw (by kernel_rfl) 10 [[],[(5,0)],[(6,1)],[(7,2)],[],[(9,4)],[(10,5)],[(11,6)],[(12,7)],[(8,3),(13,8)]] a8 (by kernel_rfl) a8 ?_
  refine⟨_,j6.move (.t a8) a8,?_⟩
  refine⟨_,j6.F3 (.t a8) a8,?_⟩
  refine⟨_,j6.B1 m6.l1 a7Q a8 (.t a8) a8,?_⟩
  refine⟨_,j6.ldF (fun x=>x.At) R6 (.t a8) .z (fun _=>a8) a8,?_⟩
  refine⟨_,j6.move (.t a8) a8,?_⟩
  refine⟨_,j6.F3 (.t a8) a8,?_⟩
  refine⟨_,j6.B1 m6.l0 b4N a8 (.t a8) a8,?_⟩
  refine⟨_,j6.ldF (fun x=>x.L) c3c (.t a8) .z (fun _=>a8) a8,?_⟩
  refine⟨_,j6.len underlying33 (.t a8) a8,?_⟩
  refine⟨_,j6.geq (.t a8) (.t a8) a8,?_⟩
  show D5 _ _ _ _ _ [] ((14,_)::(13,_)::(12,_)::(11,_)::(10,_)::(9,_)::(8,_)::(7,_)::(6,_)::(5,_)::_) _
  refine .q 2 hG ⟨fun hc14 => ?_,fun hc14 => ?_⟩
  · refine .q 5 hG ?_
    refine .e1 a8 a8 ?_
    have e:P1 d n=(0,d):=by unfold P1;rw [dif_neg (by omega)]
    rw [e];exact⟨rfl,rfl⟩
  · refine .q 2 hG ?_
    refine .T7 12 a8 fun hl => ?_
    refine .q 1 hG ?_
    refine .mv a8 (.p (.F3 (.t a8) (.p (.B1 m6.l1 a7Q a8 (.t a8) (.p (.ldF (fun x=>x.At) R6 (.t a8) .z (fun _=>a8) ?_))))))
    refine .ad (by omega) (by omega) (.p (.F3 (.t a8) (.p (.B1 m6.l1 a7Q a8 (.t a8) (.n (.stF (fun y x => { x with At:=y }) R6 (.t a8) (.t a8) .z (fun _ _=>a8) ?_))))))
    refine .q 2 hG ?_
    refine .draw (by kernel_rfl) 14 [[],[(22,0)],[(23,1)],[(24,2)],[],[(26,4)],[(27,5)],[(28,6)],[(29,7)],[(25,3),(30,8)],[(31,9)],[],[(32,10),(33,11)],[(34,12)]] a8 (by kernel_rfl) a8 ?_
    refine⟨_,j6.move (.t a8) a8,?_⟩
    refine⟨_,j6.F3 (.t a8) a8,?_⟩
    refine⟨_,j6.B1 m6.l0 b4N a8 (.t a8) a8,?_⟩
    refine⟨_,j6.ldF (fun x=>x.L) c3c (.t a8) .z (fun _=>a8) a8,?_⟩
    refine⟨_,j6.move (.t a8) a8,?_⟩
    refine⟨_,j6.F3 (.t a8) a8,?_⟩
    refine⟨_,j6.B1 m6.l1 a7Q a8 (.t a8) a8,?_⟩
    refine⟨_,j6.ldF (fun x=>x.At) R6 (.t a8) .z (fun _=>a8) a8,?_⟩
    refine⟨_,j6.sub (.t a8) (.i a8) (by simp<;>omega) (by simp<;>omega) a8,?_⟩
    refine⟨_,j6.idx R6 underlying33 (.t a8) (.t a8) (by simp<;>omega) (by simp<;>omega) a8,?_⟩
    refine⟨_,j6.G2 R6 (.t a8) a8,?_⟩
    refine⟨_,j6.move (.t a8) a8,?_⟩
    refine⟨_,j6.o7 hG (b8h _ _ (by omega) (by omega)) (.cons (.t a8) (.cons (.t a8) .nil)) a8,?_⟩
    refine⟨_,j6.assign (.t a8) a8,?_⟩
    show D5 _ _ _ _ _ [] ((4,_)::(34,_)::(33,_)::(32,_)::(31,_)::(30,_)::(29,_)::(28,_)::(27,_)::(26,_)::(25,_)::(24,_)::(23,_)::(22,_)::_) _
    refine .q 2 hG ?_
    refine .e1 a8 a8 ?_
    have e:P1 d n=(d.L[d.At.toNat]'(by omega) % n,⟨d.L,d.At+1⟩):=by unfold P1;rw [dif_pos (by omega)]
    rw [e];refine⟨congrArg AV.v ?_,rfl⟩;simp only [Int.add_sub_cancel]
theorem a1h (a b:List UInt8):u1 gl prog 101 [.v a,.v b] (fun r=>r = .v (decide (a=b))):=by
 refine u1.jn func101 (by kernel_rfl) 10 rfl fun C hC hG => ?_
 refine .q 7 hG ?_
 refine .p (.b1O underlying86 underlying5 underlying9 (.t a8) ?_)
 refine .q 1 hG ?_
 refine .p (.b1O underlying86 underlying5 underlying9 (.t a8) ?_)
 refine .q 4 hG ?_
 refine .e1 a8 a8 ?_
 refine congrArg AV.v ?_
 rw [decide_eq_decide];exact⟨fun h=>congrArg Str.l h,fun h=>congrArg Str.mk h⟩
theorem b0N (b:List UInt8) (hb:b.length≤1000000):u1 gl prog 162 [.v b] (fun r=>r = .v b):=by
 refine u1.jn func162 (by kernel_rfl) 8 rfl fun C hC hG => ?_
 refine .q 8 hG ?_
 refine .p (.b3K underlying86 (.t a8) fun c4 hn4 => ?_)
 refine .q 1 hG ?_
 refine .cond (.t a8) (fun hc4 => ?_) (fun hc4 => ?_)
 ·refine .q 5 hG ?_
  refine .e1 a8 a8 ?_
  rw [hn4 hc4]
 ·refine .q 3 hG ?_
  refine .h (.buildSlice (α:=UInt8) ty5 underlying86 .nil a8 (by decide) fun b5 => ?_)
  refine .q 1 hG ?_
  refine .ap (by simp<;>omega) (by simp<;>omega) fun w7 => ?_
  refine .q 2 hG ?_
  refine .u0 hC .z (.as 2 a8 .z ?_)
  refine .q 1 hG ?_
  refine .e1 a8 a8 ?_
  rw [List.nil_append]
def a4c (k:Tag) (m:List UInt8) (x:y5):Bool:=decide (x.Key=k)&&decide (x.Message=m)
theorem c0l (k:Tag) (m:List UInt8) (x:y5):u1 gl prog 196 [.v x,.p k,.p m] (fun r=>r = .v (a4c k m x)):=by
 refine u1.jn func196 (by kernel_rfl) 15 rfl fun C hC hG => ?_
 refine .q 3 hG fun b3 => ?_
 refine .q 7 hG ?_
 refine .p (.a7m underlying26 sz5 underlying5 a8k (.t a8) (.t a8) ?_)
 refine .q 4 hG ?_
 refine .go 9 a8 (.t a8) (fun hg13 => .o7 hG (a1h _ _) (.cons (.q a8 hg13) (.cons (.q a8 hg13) .nil)) a8) ?_
 refine .q 4 hG ?_
 refine .e1 a8 a8 ?_
 rfl
def idx {α:Type} (l:List α) (p:α→Bool):Int:=if l.findIdx p < l.length then (l.findIdx p:Int) else -1
theorem a8F {α:Type} {l:List α} {p:α→Bool} {k:Nat} (h:k < l.length) (h1:p l[k]=true) (h2:∀ j (hj:j < l.length),j < k→p l[j]=false):idx l p=(k:Int):=by
 have e:l.findIdx p=k:=(List.findIdx_eq h).2 ⟨h1,fun j hj=>h2 j (by omega) hj⟩
 unfold idx;rw [e,if_pos h]
theorem a3D {α:Type} {l:List α} {p:α→Bool} (h:∀ j (hj:j < l.length),p l[j]=false):idx l p = -1:=by
 have e:l.findIdx p=l.length:=List.findIdx_eq_length.2 fun x hx=>by
  obtain⟨j,hj,rfl⟩:=List.getElem_of_mem hx
  exact h j hj
 unfold idx;rw [e,if_neg (by omega)]
theorem b3X (l:List y5) (p:y5→Bool):u1 gl prog 195 [.v l,.a8w prog p] (fun r=>r = .v (idx l p)):=by
 refine u1.jn func195 (by kernel_rfl) 19 rfl fun C hC hG => ?_
 refine .q 6 hG ?_
 refine .T7 0 a8 fun hl0 => ?_
 refine .q 6 hG ?_
 refine .D9 (α:=Nat) [(0,_),(1,_),(7,_)] (fun k R=>(8,.v (k:Int))::R) (fun k => []) (fun k=>k≤l.length∧∀ j (hj:j < l.length),j < k→p l[j]=false) (fun k=>l.length - k) (0) (.c2 a8 a8 (.cons a8 (.nil _))) ?_ (.c2 a8 a8 (.c2 a8 a8 (.nil _))) (a8) fun k hF => ?_
 ·simp
 obtain⟨h1,h2⟩:=hF
 refine .q 6 hG ⟨fun hc9 => ?_,fun hc9 => ?_⟩
 ·refine .q 13 hG ?_
  refine .ix (by omega) (by omega) ?_
  refine .q 1 hG ?_
  refine .p (.a4z a8 (.t a8) ?_)
  refine .q 1 hG ?_
  refine .cond (.t a8) (fun hc16 => ?_) (fun hc16 => ?_)
  ·refine .q 6 hG ?_
   refine .e1 a8 a8 ?_
   rw [a8F (by omega) (by simpa using hc16) h2]
  ·refine .q 2 hG ?_
   refine .ad (by omega) (by omega) ?_
   refine .q 2 hG ?_
   refine⟨k+1,.c2 rfl rfl (.c2 rfl rfl (.nil _)),rfl,?_,by omega⟩
   refine⟨by omega,fun j hj hjk => ?_⟩;rcases Nat.lt_or_ge j k with h|h;exact h2 j hj h;(obtain rfl:j=k:=by omega);simpa using hc16
 ·refine .q 3 hG ?_
  refine .p (.assign (.i a8) ?_)
  refine .q 2 hG ?_
  refine .e1 a8 a8 ?_
  rw [a3D fun j hj=>h2 j hj (by omega)]
theorem c12 (l:List y5) (k:Tag) (m:List UInt8):u1 gl prog 160 [.v l,.v k,.v m] (fun r=>r = .v (idx l (a4c k m))):=by
 refine u1.jn func160 (by kernel_rfl) 10 rfl fun C hC hG => ?_
 refine .q 3 hG fun b4 => ?_
 refine .q 1 hG fun b5 => ?_
 refine .q 3 hG ?_
 refine .A0 hC .z1 (.M1 4 a8 .z1 (.A0 hC .z (.M1 5 a8 .z ?_)))
 refine .q 2 hG ?_
 refine .p (.b0F hG (fun x=>c0l k m x) (.cons (.t a8) (.cons (.t a8) .nil)) (.p (.o7 hG (b3X _ _) (.cons (.t a8) (.cons (.t a8) .nil)) ?_)))
 refine .q 3 hG ?_
 refine .e1 a8 a8 ?_
 rfl
def b1X (kind:UInt8) (n:Int) (k:Nat):List UInt8 := [115,121,109,98,111,108] ++ [kind]++S1 (UInt64.ofInt n) k
def V7 (kind:UInt8) (n:Int):Tag:=K6 default (b1X kind n 8)
theorem c13 (free:Bool) (seed:Tag):u1 gl prog 75 [.v free,.v seed] (fun r=>r = .v (⟨free,seed,0,[],[]⟩:m5)):=by
 refine u1.jn func75 (by kernel_rfl) 8 rfl fun C hC hG => ?_
 refine .q 3 hG fun b3 => ?_
 refine .q 1 hG fun b4 => ?_
 refine .q 5 hG ?_
 refine .p (.bS2 m5.l0 m5.l1 a8 y7 a1r (fun c0 c1=>(⟨c0,c1,0,[],[]⟩:m5)) (fun _ _=>a8) a8 a8 a8 (.t a8) (.t a8) ?_)
 refine .q 3 hG ?_
 refine⟨_,.r1 a8 (.cell y7 a8 .z),?_⟩
 rfl
theorem a6Z (kind:UInt8) (n:Int):u1 gl prog 134 [.v kind,.v n] (fun r=>r = .v (V7 kind n)):=by
 refine u1.jn func134 (by kernel_rfl) 18 rfl fun C hC hG => ?_
 have hbe:=E1 (UInt64.ofInt n) 8
 refine .q 3 hG fun b4 => ?_
 refine .q 4 hG fun b5 => ?_
 refine .q 2 hG ?_
 refine .D7 [j0,j1] (by kernel_rfl) 11 [[],[],[(7,1)],[],[(9,3)],[(8,2),(10,4)],[],[(12,6)],[(13,7)],[(11,5),(14,8)],[(6,0),(15,9)]] [1,2,5,9,10] a8 (by kernel_rfl) a8 (by kernel_rfl) (by decide) ?_
 refine⟨_,fun H=>j6.b3G M0 (.t a8) a8,?_⟩
 refine .inl (.inl ?_)
 refine⟨_,fun H=>j6.move (.t a8) a8,?_⟩
 refine⟨_,fun H=>j6.F1 (α:=UInt8) ty5 underlying86 (.cons (.t a8) .nil) a8 (by decide) a8,?_⟩
 refine .inl ?_
 refine⟨_,fun H=>j6.move (.t a8) a8,?_⟩
 refine⟨_,fun H=>j6.a1y underlying3 underlying77 (.t a8) a8,?_⟩
 refine⟨_,fun H=>j6.o7 hG (b0L _) (.cons (.t a8) .nil) a8,?_⟩
 refine .inl (.inl ?_)
 refine⟨⟨([],j2 [_,c8]),a8⟩,?_⟩
 refine A6.buildSlice (α:=UInt8) ty5 underlying86 (.cons (.u8 115 rfl) (.cons (.u8 121 rfl) (.cons (.u8 109 rfl) (.cons (.u8 98 rfl) (.cons (.u8 111 rfl) (.cons (.u8 108 rfl) .nil)))))) rfl (by decide) fun b7 => ?_
 refine⟨⟨([_],j2 [_,c8]),a8⟩,?_⟩
 refine A6.same underlying86 underlying5 rfl .z (by simp) ?_
 refine⟨⟨([_],j2 [_,c8]),a8⟩,?_⟩
 refine A6.append P5 (.inl ⟨_,underlying86⟩) rfl .z (.v (.c rfl)) (by simp) (by simp) (fun w11 => ?_) rfl
 refine⟨⟨([_],j2 [_,c8]),a8⟩,?_⟩
 refine A6.append P5 (.inl ⟨_,underlying86⟩) rfl .z (.v (.t rfl)) (by simp<;>omega) (by simp<;>omega) (fun w15 => ?_) rfl
 refine⟨⟨([_],j2 [_,c8]),a8⟩,?_⟩
 refine A6.b3L ty5 underlying86 (.t rfl) .z1 (.own rfl .z) (by simp<;>omega) ?_
 refine⟨⟨([_],j2 [_,c8]),a8⟩,?_⟩
 show D5 _ _ _ _ _ [] ((16,_)::(15,_)::(14,_)::(13,_)::(12,_)::(11,_)::(10,_)::(9,_)::(8,_)::(7,_)::(6,_)::_) _
 refine .q 7 hG ?_
 refine⟨_,.r1 a8 (.cell y6 a8 .z2),?_⟩
 rfl
theorem a4E (kind:UInt8) (n:Int) (k:Nat):(b1X kind n k).length=7+k:=by simp [b1X,E1];omega
abbrev D0:=m5
def a8G:Str:=⟨[102,114,101,115,104]⟩
def Q7 (a:D0):D0×Tag×Int :=
 if 65536≤a.F9 then (default,default,2) else
 (⟨a.K2,a.a4g,a.F9+1,a.G4,a.y2⟩,(if a.K2 then V7 107 (a.F9+1) else (derive a.a4g a8G (a.F9+1)).1),0)
def S4 (a:D0) (k:Tag) (m:List UInt8):Option y5:=a.G4.find? (a4c k m)
def M9 (a:D0) (k:Tag) (m:List UInt8):Tag×Bool:=match S4 a k m with|some x=>(x.Tag,true)|none=>(default,false)
def a3j (a:D0) (k:Tag) (m:List UInt8):Tag:=if a.K2 then V7 109 (a.G4.length+1) else a0m k.l m
def G8 (a:D0) (k:Tag) (m:List UInt8):D0×Tag×Int :=
 if 4096 < m.length then (default,default,2) else
 match S4 a k m with
 | some x=>(a,x.Tag,0)
 | none=>if 65536≤a.G4.length then (default,default,2) else
  (⟨a.K2,a.a4g,a.F9,a.G4 ++ [⟨k,m,a3j a k m⟩],a.y2⟩,a3j a k m,0)
def l9 (a:D0) (k:Tag) (m:List UInt8):Tag×Bool :=
 if a.K2 then M9 a k m else if 4096 < m.length then (default,false) else (a0m k.l m,true)
theorem b3Y (a:D0) (h0:0≤a.F9):u1 gl prog 77 [.v a] (fun r=>r = .t3 (.v (Q7 a).1) (.v (Q7 a).2.1) (.v (Q7 a).2.2)):=by
 refine u1.jn func77 (by kernel_rfl) 32 rfl fun C hC hG => ?_
 refine .q 3 hG fun b1 => ?_
 refine .q 1 hG fun b2 => ?_
 refine .q 1 hG fun b3 => ?_
 refine .q 10 hG ⟨fun hc9 => ?_,fun hc9 => ?_⟩
 ·refine .q 2 hG ?_
  refine .p (.bS0 (α:=m5) a8 y7 a1r (.p (.O0 (default:(I7 32 UInt8)) y6 M0 .nil a8 ?_)))
  refine .q 5 hG ?_
  refine⟨_,.r3 a8 (.cell y7 a8 .z1) (.cell y6 a8 .z) (.tmp a8),?_⟩
  have e:Q7 a=(default,default,2):=by unfold Q7;rw [if_pos hc9]
  rw [e]
 ·refine .q 5 hG ?_
  refine .ad (by omega) (by omega) ?_
  refine .q 9 hG ?_
  refine .cond (.t a8) (fun hc17 => ?_) (fun hc17 => ?_)
  ·refine .q 1 hG ?_
   refine .draw (by kernel_rfl) 4 [[],[],[(19,1)],[(20,2)]] a8 (by kernel_rfl) a8 ?_
   refine⟨_,j6.Q1 y7 (.t a8) .z2 a8,?_⟩
   refine⟨_,j6.B1 m5.l2 b3s a8 (.t a8) a8,?_⟩
   refine⟨_,j6.ldF (fun x=>x.F9) R6 (.t a8) .z2 (fun _=>a8) a8,?_⟩
   refine⟨_,j6.o7 hG (a6Z _ _) (.cons (.u8 107 a8) (.cons (.t a8) .nil)) a8,?_⟩
   show D5 _ _ _ _ _ [_,_,_] ((21,_)::(20,_)::(19,_)::(18,_)::_) _
   refine .q 5 hG ?_
   refine⟨_,.r3 a8 (.cell y7 a8 .z1) (.cell y6 a8 .z) (.tmp a8),?_⟩
   have e:Q7 a=(⟨a.K2,a.a4g,a.F9+1,a.G4,a.y2⟩,V7 107 (a.F9+1),0):=by unfold Q7;rw [if_neg hc9,if_pos hc17]
   rw [e]
  ·refine .q 7 hG ?_
   refine .p (.o7 hG (b6q _ _ _ (by decide)) (.cons (.t a8) (.cons (.s [102,114,101,115,104] (by decide) (by decide)) (.cons (.t a8) .nil))) ?_)
   refine .q 4 hG fun b5 => ?_
   refine .q 4 hG ?_
   refine .D7 [j1,j0,j0,j1] (by kernel_rfl) 5 [[],[],[(30,0)],[(31,1)],[]] [2,3] a8 (by kernel_rfl) a8 (by kernel_rfl) (by decide) ?_
   refine⟨_,fun H=>j6.Q1 y7 (.t a8) (u7.app .z3) a8,?_⟩
   refine⟨_,fun H=>j6.Q1 y6 (.t a8) (u7.app .z) a8,?_⟩
   refine .inl (.inl ?_)
   refine⟨_,fun H=>j6.assign (.i a8) a8,?_⟩
   refine⟨⟨([],j2 [c8,_,_,c8]),a8⟩,?_⟩
   refine A6.O5 y7 (.t rfl) (.t rfl) .z2 ?_
   refine⟨⟨([],j2 [c8,_,_,c8]),a8⟩,?_⟩
   refine A6.O5 y6 (.t rfl) (.t rfl) .z1 ?_
   refine⟨⟨([],j2 [c8,_,_,c8]),a8⟩,?_⟩
   show D5 _ _ _ _ _ [] ((4,_)::(31,_)::(30,_)::_) _
   refine .q 2 hG ?_
   refine⟨_,.r3 a8 (.cell y7 a8 .z2) (.cell y6 a8 .z1) (.tmp a8),?_⟩
   have e:Q7 a=(⟨a.K2,a.a4g,a.F9+1,a.G4,a.y2⟩,(derive a.a4g a8G (a.F9+1)).1,0):=by unfold Q7;rw [if_neg hc9,if_neg (by rw [show a.K2=false from hc17];decide)]
   rw [e];rfl
theorem b6r {l:List y5} {p:y5→Bool} {k:Nat} (h:k < l.length) (h1:p l[k]=true) (h2:∀ j (hj:j < l.length),j < k→p l[j]=false):l.find? p=some l[k] :=
 List.find?_eq_some_iff_getElem.2 ⟨h1,k,h,rfl,fun j hj=>by rw [h2 j (by omega) hj];rfl⟩
theorem b6s {l:List y5} {p:y5→Bool} (h:∀ j (hj:j < l.length),p l[j]=false):l.find? p=none :=
 List.find?_eq_none.2 fun x hx=>by
  obtain⟨j,hj,rfl⟩:=List.getElem_of_mem hx
  rw [h j hj];decide
theorem b1Y (a:D0) (k:Tag) (m:List UInt8):u1 gl prog 132 [.v a,.v k,.v m] (fun r=>r = .t2 (.v (M9 a k m).1) (.v (M9 a k m).2)):=by
 refine u1.jn func132 (by kernel_rfl) 41 rfl fun C hC hG => ?_
 refine .q 3 hG fun b3 => ?_
 refine .q 1 hG fun b4 => ?_
 refine .q 1 hG fun b6 => ?_
 refine .q 4 hG ?_
 refine .A0 hC .z1 (.M1 4 a8 .z1 (.A0 hC .z2 (.M1 3 a8 .z2 ?_)))
 refine .q 4 hG ?_
 refine .D9 (α:=Nat) [(2,_),(3,_),(4,_),(6,_)] (fun i R=>(8,.v (i:Int))::R) (fun i => [(true,.ob (ptr b6 0) (default:Tag)),(true,.fz (ptr b4 0) (.p k)),(true,.fz (ptr b3 0) (.p a))]) (fun i=>i≤a.G4.length∧∀ j (hj:j < a.G4.length),j < i→a4c k m a.G4[j]=false) (fun i=>a.G4.length - i) (0) (.c2 a8 a8 (.c2 a8 a8 (.nil _))) ?_ (.c2 a8 a8 (.c2 a8 a8 (.cons a8 (.nil _)))) (a8) fun i hF => ?_
 ·simp
 obtain⟨h1,h2⟩:=hF
 refine .q 10 hG ⟨fun hc13 => ?_,fun hc13 => ?_⟩
 ·refine .q 4 hG ?_
  refine .draw (by kernel_rfl) 18 [[],[(16,0)],[],[(17,1),(18,2)],[(19,3)],[(20,4)],[],[(21,5),(22,6)],[(23,7)],[],[(25,9)],[],[(26,10),(27,11)],[(28,12)],[(29,13)],[],[(30,14),(31,15)],[(24,8),(32,16)]] a8 (by kernel_rfl) a8 ?_
  refine⟨_,j6.A7 m5.l3 (fun x=>x.G4) a5C a8 (fun _=>a8) (.t a8) a8,?_⟩
  refine⟨_,j6.G2 b8d (.t a8) a8,?_⟩
  refine⟨_,j6.move (.t a8) a8,?_⟩
  refine⟨_,j6.idx a5r underlying35 (.t a8) (.t a8) (by omega) (by omega) a8,?_⟩
  refine⟨_,j6.A7 y5.l0 (fun x=>x.Key) b4S a8 (fun _=>a8) (.t a8) a8,?_⟩
  refine⟨_,j6.G2 y6 (.t a8) a8,?_⟩
  refine⟨_,j6.G2 y6 (.t a8) a8,?_⟩
  refine⟨_,j6.a7m underlying26 sz5 underlying5 a8k (.t a8) (.t a8) a8,?_⟩
  refine⟨_,j6.move (.t a8) a8,?_⟩
  refine⟨_,⟨_,_,a8,a8,fun hg25=>j6.A7 m5.l3 (fun x=>x.G4) a5C a8 (fun _=>a8) (.t a8) a8⟩,?_⟩
  refine⟨_,⟨_,_,a8,a8,fun hg26=>j6.G2 b8d (.q a8 hg26) a8⟩,?_⟩
  refine⟨_,⟨_,_,a8,a8,fun hg27=>j6.move (.t a8) a8⟩,?_⟩
  refine⟨_,⟨_,_,a8,a8,fun hg28=>j6.idx a5r underlying35 (.q a8 hg28) (.q a8 hg28) (by first|omega|(simp;omega)|(have:=hg28;simp at this;omega)) (by first|omega|(simp;omega)|(have:=hg28;simp at this;omega)) a8⟩,?_⟩
  refine⟨_,⟨_,_,a8,a8,fun hg29=>j6.A7 y5.l1 (fun x=>x.Message) b4T a8 (fun _=>a8) (.q a8 hg29) a8⟩,?_⟩
  refine⟨_,⟨_,_,a8,a8,fun hg30=>j6.G2 a2H (.q a8 hg30) a8⟩,?_⟩
  refine⟨_,⟨_,_,a8,a8,fun hg31=>j6.move (.t a8) a8⟩,?_⟩
  refine⟨_,⟨_,_,a8,a8,fun hg32=>j6.o7 hG (a5L _ _) (.cons (.q a8 hg32) (.cons (.q a8 hg32) .nil)) a8⟩,?_⟩
  refine⟨_,j6.S3 (.t a8) (fun hp=>(.q a8 hp)) a8,?_⟩
  show D5 _ _ _ _ _ [] ((33,_)::(32,_)::(31,_)::(30,_)::(29,_)::(28,_)::(27,_)::(26,_)::(25,_)::(24,_)::(23,_)::(22,_)::(21,_)::(20,_)::(19,_)::(18,_)::(17,_)::(16,_)::_) _
  refine .q 1 hG ?_
  refine .cond (.t a8) (fun hc33 => ?_) (fun hc33 => ?_)
  ·refine .q 5 hG ?_
   refine .ix (by omega) (by omega) ?_
   refine .q 6 hG ?_
   refine⟨_,.r2 a8 (.cell y6 a8 .z) (.tmp a8),?_⟩
   have e:M9 a k m=(a.G4[i].Tag,true):=by unfold M9 S4;rw [b6r (k:=i) (by omega) hc33 h2]
   rw [e];rfl
  ·refine .q 1 hG ?_
   refine .T7 11 a8 fun hl11 => ?_
   refine .q 2 hG ?_
   refine .ad (by omega) (by omega) ?_
   refine .q 2 hG ?_
   refine⟨i+1,.c2 rfl rfl (.c2 rfl rfl (.cons rfl (.nil _))),rfl,?_,by omega⟩
   refine⟨by omega,fun j hj hji => ?_⟩;rcases Nat.lt_or_ge j i with h|h;exact h2 j hj h;(obtain rfl:j=i:=by omega);exact hc33
 ·refine .q 3 hG ?_
  refine .p (.O0 (default:(I7 32 UInt8)) y6 M0 .nil a8 ?_)
  refine .q 4 hG ?_
  refine⟨_,.r2 a8 (.cell y6 a8 .z) (.tmp a8),?_⟩
  have e:M9 a k m=(default,false):=by unfold M9 S4;rw [b6s fun j hj=>h2 j hj (by omega)]
  rw [e]
theorem a2X (a:D0) (k:Tag) (m:List UInt8):u1 gl prog 109 [.v a,.v k,.v m] (fun r=>r = .t2 (.v (l9 a k m).1) (.v (l9 a k m).2)):=by
 refine u1.jn func109 (by kernel_rfl) 23 rfl fun C hC hG => ?_
 refine .q 3 hG fun b3 => ?_
 refine .q 1 hG fun b4 => ?_
 refine .q 1 hG fun b6 => ?_
 refine .q 4 hG ?_
 refine .A0 hC .z1 (.M1 4 a8 .z1 (.A0 hC .z2 (.M1 3 a8 .z2 ?_)))
 refine .q 4 hG ?_
 refine .cond (.t a8) (fun hc9 => ?_) (fun hc9 => ?_)
 ·refine .q 5 hG ?_
  refine .p (.o7 hG (b1Y _ _ _) (.cons (.t a8) (.cons (.t a8) (.cons (.t a8) .nil))) ?_)
  refine .q 6 hG ?_
  refine⟨_,.r2 a8 (.cell y6 a8 .z) (.tmp a8),?_⟩
  have e:l9 a k m=M9 a k m:=by unfold l9;rw [if_pos hc9]
  rw [e]
 ·refine .q 9 hG ⟨fun hc18 => ?_,fun hc18 => ?_⟩
  ·refine .q 2 hG ?_
   refine .p (.O0 (default:(I7 32 UInt8)) y6 M0 .nil a8 ?_)
   refine .q 4 hG ?_
   refine⟨_,.r2 a8 (.cell y6 a8 .z) (.tmp a8),?_⟩
   have e:l9 a k m=(default,false):=by unfold l9;rw [if_neg (by rw [show a.K2=false from hc9];decide),if_pos (by omega)]
   rw [e]
  ·refine .q 3 hG ?_
   refine .p (.P0 (by decide) M0 (.t a8) ?_)
   refine .q 1 hG ?_
   refine .p (.o7 hG (a47 _ _ (by simp) (by omega)) (.cons (.t a8) (.cons (.t a8) .nil)) ?_)
   refine .q 4 hG ?_
   refine⟨_,.r2 a8 (.cell y6 a8 .z) (.tmp a8),?_⟩
   have e:l9 a k m=(a0m k.l m,true):=by unfold l9;rw [if_neg (by rw [show a.K2=false from hc9];decide),if_neg (by omega)]
   rw [e]
theorem b1Z {a:D0} {k:Tag} {m:List UInt8} (h:4096 < m.length):G8 a k m=(default,default,2):=by unfold G8;rw [if_pos h]
theorem b0O {a:D0} {k:Tag} {m:List UInt8} (h:¬4096 < m.length) (he:(M9 a k m).2=true):G8 a k m=(a,(M9 a k m).1,0):=by
 unfold G8;rw [if_neg h];unfold M9 at *
 cases hf:S4 a k m with
 | none=>rw [hf] at he;cases he
 | some x=>rfl
theorem a5M {a:D0} {k:Tag} {m:List UInt8} (he:(M9 a k m).2=false):S4 a k m=none:=by
 unfold M9 at he
 cases hf:S4 a k m with
 | none=>rfl
 | some x=>rw [hf] at he;cases he
theorem b2a {a:D0} {k:Tag} {m:List UInt8} (h:¬4096 < m.length) (he:S4 a k m=none) (hl:65536≤a.G4.length):G8 a k m=(default,default,2):=by
 unfold G8;rw [if_neg h,he];simp only [];rw [if_pos hl]
theorem a3X {a : D0} {k : Tag} {m : List UInt8} (h : ¬ 4096 < m.length) (he : S4 a k m = none) (hl : ¬ 65536 ≤ a.G4.length) :
    G8 a k m=(⟨a.K2,a.a4g,a.F9,a.G4 ++ [⟨k,m,a3j a k m⟩],a.y2⟩,a3j a k m,0):=by
  unfold G8;rw [if_neg h,he];simp only [];rw [if_neg hl]
theorem b2b {a:D0} {k:Tag} {m:List UInt8} (h:a.K2=true):a3j a k m=V7 109 (a.G4.length+1):=by unfold a3j;rw [if_pos h]
theorem b2c {a:D0} {k:Tag} {m:List UInt8} (h:a.K2=false):a3j a k m=a0m k.l m:=by unfold a3j;rw [if_neg (by rw [h];decide)]
theorem a5N (a:D0) (k:Tag) (m:List UInt8):u1 gl prog 72 [.v a,.v k,.v m] (fun r=>r = .t3 (.v (G8 a k m).1) (.v (G8 a k m).2.1) (.v (G8 a k m).2.2)):=by
 refine u1.jn func72 (by kernel_rfl) 58 rfl fun C hC hG => ?_
 refine .q 3 hG fun b3 => ?_
 refine .q 1 hG fun b4 => ?_
 refine .q 1 hG fun b6 => ?_
 refine .q 1 hG fun b7 => ?_
 refine .q 4 hG ?_
 refine .A0 hC .z2 (.M1 4 a8 .z2 ?_)
 refine .q 6 hG ⟨fun hc14 => ?_,fun hc14 => ?_⟩
 ·refine .q 2 hG ?_
  refine .p (.bS0 (α:=m5) a8 y7 a1r (.p (.O0 (default:(I7 32 UInt8)) y6 M0 .nil a8 ?_)))
  refine .q 5 hG ?_
  refine⟨_,.r3 a8 (.cell y7 a8 .z1) (.cell y6 a8 .z) (.tmp a8),?_⟩
  rw [b1Z (a:=a) (k:=k) (m:=m) (by omega)]
 ·refine .q 7 hG ?_
  refine .p (.o7 hG (b1Y _ _ _) (.cons (.t a8) (.cons (.t a8) (.cons (.t a8) .nil))) ?_)
  refine .q 4 hG fun b9 => ?_
  refine .q 7 hG ?_
  refine .cond (.t a8) (fun hc24 => ?_) (fun hc24 => ?_)
  ·refine .q 1 hG ?_
   refine .D7 [j1,j0,j0,j1,j1] (by kernel_rfl) 5 [[],[],[(25,0)],[(26,1)],[]] [2,3] a8 (by kernel_rfl) a8 (by kernel_rfl) (by decide) ?_
   refine⟨_,fun H=>j6.Q1 y7 (.t a8) (u7.app .z4) a8,?_⟩
   refine⟨_,fun H=>j6.Q1 y6 (.t a8) (u7.app .z) a8,?_⟩
   refine .inl (.inl ?_)
   refine⟨_,fun H=>j6.assign (.i a8) a8,?_⟩
   refine⟨⟨([],j2 [c8,_,_,c8,c8]),a8⟩,?_⟩
   refine A6.O5 y7 (.t rfl) (.t rfl) .z2 ?_
   refine⟨⟨([],j2 [c8,_,_,c8,c8]),a8⟩,?_⟩
   refine A6.O5 y6 (.t rfl) (.t rfl) .z1 ?_
   refine⟨⟨([],j2 [c8,_,_,c8,c8]),a8⟩,?_⟩
   show D5 _ _ _ _ _ [] ((8,_)::(26,_)::(25,_)::_) _
   refine .q 2 hG ?_
   refine⟨_,.r3 a8 (.cell y7 a8 .z2) (.cell y6 a8 .z1) (.tmp a8),?_⟩
   rw [b0O (a:=a) (k:=k) (m:=m) (by omega) hc24]
  ·refine .q 10 hG ⟨fun hc30 => ?_,fun hc30 => ?_⟩
   ·refine .q 2 hG ?_
    refine .p (.bS0 (α:=m5) a8 y7 a1r (.p (.O0 (default:(I7 32 UInt8)) y6 M0 .nil a8 ?_)))
    refine .q 5 hG ?_
    refine⟨_,.r3 a8 (.cell y7 a8 .z2) (.cell y6 a8 .z1) (.tmp a8),?_⟩
    rw [b2a (a:=a) (k:=k) (m:=m) (by omega) (a5M hc24) (by omega)]
   ·refine .q 3 hG ?_
    refine .p (.P0 (by decide) M0 (.t a8) ?_)
    refine .q 1 hG ?_
    refine .p (.o7 hG (a47 _ _ (by simp) (by omega)) (.cons (.t a8) (.cons (.t a8) .nil)) ?_)
    refine .q 1 hG fun b11 => ?_
    refine .q 8 hG ?_
    refine .cond (.t a8) (fun hc37 => ?_) (fun hc37 => ?_)
    ·refine .q 4 hG ?_
     refine .ad (by omega) (by omega) (.p (.o7 hG (a6Z _ _) (.cons (.u8 109 a8) (.cons (.t a8) .nil)) ?_))
     refine .q 3 hG ?_
     refine .D7 [j1,j1,j1,j1,j1,j1] (by kernel_rfl) 13 [[],[],[(44,1)],[(43,0),(45,2)],[],[],[],[(48,5),(49,6)],[],[(47,4),(50,7),(51,8)],[(52,9)],[(46,3),(53,10)],[]] [0,3,11] a8 (by kernel_rfl) a8 (by kernel_rfl) (by decide) (.inl ?_)
     refine⟨_,fun H=>j6.B1 m5.l3 a5C a8 (.t a8) a8,?_⟩
     refine⟨_,fun H=>j6.ldF (fun x=>x.G4) b8d (.t a8) (u7.app .z5) (fun _=>a8) a8,?_⟩
     refine .inl ?_
     refine⟨_,fun H=>j6.G2 y6 (.t a8) a8,?_⟩
     refine⟨_,fun H=>j6.F1 (α:=UInt8) ty5 underlying86 .nil a8 (by decide) a8,?_⟩
     refine⟨_,fun H=>j6.move (.t a8) a8,?_⟩
     refine⟨_,fun H=>j6.a0I P5 (.inl ⟨_,underlying86⟩) (.t a8) (.v (.t a8)) (by simp<;>omega) (by simp<;>omega) a8,?_⟩
     refine⟨_,fun H=>j6.Q1 y6 (.t a8) (u7.app .z) a8,?_⟩
     refine⟨_,fun H=>j6.bS3 y5.l0 y5.l1 y5.l2 a8 a5r c03 (fun c0 c1 c2=>(⟨c0,c1,c2⟩:y5)) (fun _ _ _=>a8) a8 a8 a8 a8 (.t a8) (.t a8) (.t a8) a8,?_⟩
     refine⟨_,fun H=>j6.F1 (α:=y5) a5r underlying35 (.cons (.t a8) .nil) a8 (by decide) a8,?_⟩
     refine .inl ?_
     refine⟨_,fun H=>j6.B1 m5.l3 a5C a8 (.t a8) a8,?_⟩
     refine⟨⟨([],j2 [c8,c8,c8,c8,c8,c8]),a8⟩,?_⟩
     refine A6.buildSlice (α:=y5) a5r underlying35 .nil rfl (by decide) fun b43 => ?_
     refine⟨⟨([_],j2 [c8,c8,c8,c8,c8,c8]),a8⟩,?_⟩
     refine A6.append c0h (.inl ⟨_,underlying35⟩) rfl .z (.v (.t rfl)) (by simp<;>omega) (by simp<;>omega) (fun w46 => ?_) rfl
     refine⟨⟨([_],j2 [c8,c8,c8,c8,c8,c8]),a8⟩,?_⟩
     refine A6.append c0h (.inl ⟨_,underlying35⟩) rfl .z (.v (.c rfl)) (by simp<;>omega) (by simp<;>omega) (fun w54 => ?_) rfl
     refine⟨⟨([_],j2 [c8,c8,c8,c8,c8,c8]),a8⟩,?_⟩
     show D5 _ _ _ _ _ [_] ((55,_)::(54,_)::(53,_)::(52,_)::(51,_)::(50,_)::(49,_)::(48,_)::(47,_)::(46,_)::(45,_)::(44,_)::(43,_)::_) _
     refine .u0 hC .z (.as 54 a8 .z ?_)
     refine .q 3 hG ?_
     refine .D7 [j1,j1,j1,j0,j0,j1,j1] (by kernel_rfl) 5 [[],[],[(56,0)],[(57,1)],[]] [2,3] a8 (by kernel_rfl) a8 (by kernel_rfl) (by decide) ?_
     refine⟨_,fun H=>j6.Q1 y7 (.t a8) (u7.app .z6) a8,?_⟩
     refine⟨_,fun H=>j6.Q1 y6 (.t a8) (u7.app .z1) a8,?_⟩
     refine .inl (.inl ?_)
     refine⟨_,fun H=>j6.assign (.i a8) a8,?_⟩
     refine⟨⟨([],j2 [c8,c8,c8,_,_,c8,c8]),a8⟩,?_⟩
     refine A6.O5 y7 (.t rfl) (.t rfl) .z4 ?_
     refine⟨⟨([],j2 [c8,c8,c8,_,_,c8,c8]),a8⟩,?_⟩
     refine A6.O5 y6 (.t rfl) (.t rfl) .z3 ?_
     refine⟨⟨([],j2 [c8,c8,c8,_,_,c8,c8]),a8⟩,?_⟩
     show D5 _ _ _ _ _ [] ((8,_)::(57,_)::(56,_)::_) _
     refine .q 2 hG ?_
     refine⟨_,.r3 a8 (.cell y7 a8 .z4) (.cell y6 a8 .z3) (.tmp a8),?_⟩
     rw [a3X (a:=a) (k:=k) (m:=m) (by omega) (a5M hc24) (by omega),b2b hc37];rfl
    ·refine .q 2 hG ?_
     refine .D7 [j1,j1,j1,j1,j1,j1] (by kernel_rfl) 13 [[],[],[(44,1)],[(43,0),(45,2)],[],[],[],[(48,5),(49,6)],[],[(47,4),(50,7),(51,8)],[(52,9)],[(46,3),(53,10)],[]] [0,3,11] a8 (by kernel_rfl) a8 (by kernel_rfl) (by decide) (.inl ?_)
     refine⟨_,fun H=>j6.B1 m5.l3 a5C a8 (.t a8) a8,?_⟩
     refine⟨_,fun H=>j6.ldF (fun x=>x.G4) b8d (.t a8) (u7.app .z5) (fun _=>a8) a8,?_⟩
     refine .inl ?_
     refine⟨_,fun H=>j6.G2 y6 (.t a8) a8,?_⟩
     refine⟨_,fun H=>j6.F1 (α:=UInt8) ty5 underlying86 .nil a8 (by decide) a8,?_⟩
     refine⟨_,fun H=>j6.move (.t a8) a8,?_⟩
     refine⟨_,fun H=>j6.a0I P5 (.inl ⟨_,underlying86⟩) (.t a8) (.v (.t a8)) (by simp<;>omega) (by simp<;>omega) a8,?_⟩
     refine⟨_,fun H=>j6.Q1 y6 (.t a8) (u7.app .z) a8,?_⟩
     refine⟨_,fun H=>j6.bS3 y5.l0 y5.l1 y5.l2 a8 a5r c03 (fun c0 c1 c2=>(⟨c0,c1,c2⟩:y5)) (fun _ _ _=>a8) a8 a8 a8 a8 (.t a8) (.t a8) (.t a8) a8,?_⟩
     refine⟨_,fun H=>j6.F1 (α:=y5) a5r underlying35 (.cons (.t a8) .nil) a8 (by decide) a8,?_⟩
     refine .inl ?_
     refine⟨_,fun H=>j6.B1 m5.l3 a5C a8 (.t a8) a8,?_⟩
     refine⟨⟨([],j2 [c8,c8,c8,c8,c8,c8]),a8⟩,?_⟩
     refine A6.buildSlice (α:=y5) a5r underlying35 .nil rfl (by decide) fun b43 => ?_
     refine⟨⟨([_],j2 [c8,c8,c8,c8,c8,c8]),a8⟩,?_⟩
     refine A6.append c0h (.inl ⟨_,underlying35⟩) rfl .z (.v (.t rfl)) (by simp<;>omega) (by simp<;>omega) (fun w46 => ?_) rfl
     refine⟨⟨([_],j2 [c8,c8,c8,c8,c8,c8]),a8⟩,?_⟩
     refine A6.append c0h (.inl ⟨_,underlying35⟩) rfl .z (.v (.c rfl)) (by simp<;>omega) (by simp<;>omega) (fun w54 => ?_) rfl
     refine⟨⟨([_],j2 [c8,c8,c8,c8,c8,c8]),a8⟩,?_⟩
     show D5 _ _ _ _ _ [_] ((55,_)::(54,_)::(53,_)::(52,_)::(51,_)::(50,_)::(49,_)::(48,_)::(47,_)::(46,_)::(45,_)::(44,_)::(43,_)::_) _
     refine .u0 hC .z (.as 54 a8 .z ?_)
     refine .q 3 hG ?_
     refine .D7 [j1,j1,j1,j0,j0,j1,j1] (by kernel_rfl) 5 [[],[],[(56,0)],[(57,1)],[]] [2,3] a8 (by kernel_rfl) a8 (by kernel_rfl) (by decide) ?_
     refine⟨_,fun H=>j6.Q1 y7 (.t a8) (u7.app .z6) a8,?_⟩
     refine⟨_,fun H=>j6.Q1 y6 (.t a8) (u7.app .z1) a8,?_⟩
     refine .inl (.inl ?_)
     refine⟨_,fun H=>j6.assign (.i a8) a8,?_⟩
     refine⟨⟨([],j2 [c8,c8,c8,_,_,c8,c8]),a8⟩,?_⟩
     refine A6.O5 y7 (.t rfl) (.t rfl) .z4 ?_
     refine⟨⟨([],j2 [c8,c8,c8,_,_,c8,c8]),a8⟩,?_⟩
     refine A6.O5 y6 (.t rfl) (.t rfl) .z3 ?_
     refine⟨⟨([],j2 [c8,c8,c8,_,_,c8,c8]),a8⟩,?_⟩
     show D5 _ _ _ _ _ [] ((8,_)::(57,_)::(56,_)::_) _
     refine .q 2 hG ?_
     refine⟨_,.r3 a8 (.cell y7 a8 .z4) (.cell y6 a8 .z3) (.tmp a8),?_⟩
     rw [a3X (a:=a) (k:=k) (m:=m) (by omega) (a5M hc24) (by omega),b2c hc37];rfl
theorem b3Z (w:Value) (d:m6) (hd:G9 d):F5 gl prog 76 [dk w] [.ob w d] (fun r Hs=>∃ t:Tag,∃ d',G9 d'∧r = .v t∧Hs = [.ob w d']):=by
 refine F5.a5H func76 rfl (by kernel_rfl) 16 rfl rfl _ rfl _ rfl fun C hC hG => ?_
 refine .q 3 hG fun b2 => ?_
 refine .q 4 hG fun b3 => ?_
 refine .q 7 hG ?_
 refine .D9 (α:=Nat×Tag×m6) [(0,_),(2,_),(3,_)] (fun x R=>(4,.v (x.1:Int))::R) (fun x => [(true,.ob (ptr b3 0) x.2.1),(true,.ob (ptr b2 0) (default:Tag)),(false,.ob w x.2.2)]) (fun x=>x.1≤4∧G9 x.2.2) (fun x=>4 - x.1) ((0,default,d)) (.c2 a8 a8 (.cons a8 (.nil _))) ?_ (.c2 a8 a8 (.c2 a8 a8 (.nil _))) (a8) fun x hF => ?_
 ·exact⟨Nat.zero_le _,hd⟩
 obtain⟨k,t,e⟩:=x
 obtain⟨h1,h2⟩:=hF
 dsimp only at h1 h2 ⊢
 refine .q 7 hG ⟨fun hc6 => ?_,fun hc6 => ?_⟩
 ·refine .q 5 hG ?_
  refine .p (.mul (.t a8) (.i a8) (by omega) (by omega) ?_)
  refine .q 1 hG ?_
  refine .h (.C8 hG (a3i _ _ _ (by assumption) (by omega) (by omega)) .z2 (.cons (.t a8) (.cons (.i a8) .nil)) (by rintro _ _ ⟨_,rfl⟩;exact⟨_,rfl⟩) fun r12 B12 hr12 => ?_)
  obtain⟨rfl,hB⟩:=hr12
  cases hB
  refine .q 1 hG ?_
  refine .p (.c1P M0 (.t a8) (.t a8) (by omega) (by omega) (.n (.stL ty5 (.t a8) (.t a8) .z ?_)))
  refine .q 3 hG ?_
  refine .ad (by omega) (by omega) ?_
  refine .q 2 hG ?_
  refine⟨(k+1,_,_),.c2 rfl rfl (.c2 rfl rfl (.nil _)),rfl,?_,by dsimp only;omega⟩
  exact⟨by dsimp only;omega,R7 h2⟩
 ·refine .q 7 hG ?_
  refine⟨_,.r1 a8 (.cell y6 a8 .z1),?_⟩
  exact⟨2,_,_,h2,a8,a8⟩
theorem a4F (s:Str) (b:List UInt8) (hs:s.l.length≤1000) (hb:b.length≤1000000):u1 gl prog 130 [.v s,.v b] (fun r=>r = .v (s.l++b)):=by
 refine u1.jn func130 (by kernel_rfl) 9 rfl fun C hC hG => ?_
 refine .q 7 hG ?_
 refine .h (.X7 underlying9 underlying86 underlying5 (.t a8) fun w6 => ?_)
 refine .q 1 hG ?_
 refine .ap (by omega) (by omega) fun w8 => ?_
 refine .q 2 hG ?_
 refine .u0 hC .z (.as 4 a8 .z ?_)
 refine .q 1 hG ?_
 refine .e1 a8 a8 ?_
 rfl
theorem b8j (j:Nat) (h:j < 8):UInt64.ofInt (56 - 8*(j:Int))=UInt64.ofNat (56 - 8*j):=by
 apply UInt64.toNat_inj.1
 have:=b0u j h
 rw [UInt64.toNat_ofNat']
 omega
theorem a2I (n:UInt64):F5 gl prog 183 [.v n] [] (fun r Hs=>∃ u,r = .raw u∧Hs = [.own 5 u (S1 n 8)]):=by
 refine F5.a5H func183 rfl (by kernel_rfl) 18 rfl rfl _ rfl _ rfl fun C hC hG => ?_
 refine .q 2 hG ?_
 refine .p (.assign .raw ?_)
 refine .q 3 hG ?_
 refine .p (.assign .raw ?_)
 refine .q 3 hG ?_
 refine .a1e 5 UInt8 ?_
 refine .q 4 hG ?_
 refine .D9 (α:=Nat×Value) [(0,_)] (fun x R=>(3,.raw x.2)::(4,.v (56 - 8*(x.1:Int)))::R) (fun x => [(true,.own 5 x.2 (S1 n x.1))]) (fun x=>x.1≤8) (fun x=>8 - x.1) ((0,.slice none 0 0)) (.cons a8 (.nil _)) ?_ (.c2 a8 a8 (.cons a8 (.nil _))) (a8) fun x hF => ?_
 ·simp
 obtain⟨j,w⟩:=x
 dsimp only at hF ⊢
 refine .q 7 hG ⟨fun hc6 => ?_,fun hc6 => ?_⟩
 ·refine .q 3 hG ?_
  have hbe:=E1 n j
  have hs5:=b0u j (by omega)
  refine .q 5 hG ?_
  refine .p (.a9w (.t a8) (.t a8) (by omega) (by omega) (.p (.a2v underlying77 underlying5 (.t a8) ?_)))
  refine .bs a8 (by decide) fun b15 => ?_
  refine .ap (by simp<;>omega) (by simp<;>omega) fun w16 => ?_
  refine .q 1 hG ?_
  refine .drop ?_
  refine .q 3 hG ?_
  refine .sb (by omega) (by omega) ?_
  refine .q 2 hG ?_
  refine⟨(j+1,w16),.cons rfl (.cons (congrArg (fun q=>some (AV.v q)) (by dsimp only;omega)) (.cons rfl (.nil _))),congrArg (fun q => [(true,E3.own _ _ q)]) (by dsimp only;rw [a1z,←b8j j (by omega)]),?_,by dsimp only;omega⟩
  dsimp only;omega
 ·refine .q 7 hG ?_
  refine .e1 a8 a8 ?_
  obtain rfl:j=8:=by omega
  exact⟨0,_,a8,a8⟩
def a48:Str:=⟨[115,116,114,101,97,109]⟩
def a6q (key:Tag) (G1:UInt64) (q:Nat):Tag:=a0m key.l (a48.l++(S1 G1 8++S1 (UInt64.ofNat q) 8))
def a0b (key:Tag) (G1:UInt64) (i:Nat):UInt8:=(a6q key G1 (i/32)).l.getD (i % 32) 0
def K7 (key:Tag) (G1:UInt64) (b:List UInt8) (k:Nat):List UInt8:=(b.take k).mapIdx (fun i c=>c ^^^ a0b key G1 i)++b.drop k
theorem P3 (key:Tag) (G1:UInt64) (b:List UInt8) (k:Nat):(K7 key G1 b k).length=b.length:=by simp [K7];omega
theorem a7q (key:Tag) (G1:UInt64) (b:List UInt8):K7 key G1 b b.length=b.mapIdx (fun i c=>c ^^^ a0b key G1 i):=by simp [K7]
theorem b2d (key:Tag) (G1:UInt64) (b:List UInt8) (k:Nat) (hk:k < b.length) (h:k < (K7 key G1 b k).length):(K7 key G1 b k)[k]=b[k]:=by
 simp only [K7]
 rw [List.getElem_append_right (by simp<;>omega)]
 simp
 congr 1;omega
theorem b0P (key:Tag) (G1:UInt64) (b:List UInt8) (k:Nat) (hk:k < b.length):(K7 key G1 b k).set k (b[k] ^^^ a0b key G1 k)=K7 key G1 b (k+1):=by
 apply List.ext_getElem (by simp [P3])
 intro j h1 h2
 rw [List.getElem_set]
 simp only [K7]
 by_cases e:k=j
 ·subst e
  rw [if_pos rfl,List.getElem_append_left (by simp<;>omega)]
  simp
 ·rw [if_neg e]
  rcases Nat.lt_or_ge j k with h|h
  ·rw [List.getElem_append_left (by simp<;>omega),List.getElem_append_left (by simp<;>omega)]
   simp
  ·rw [List.getElem_append_right (by simp<;>omega),List.getElem_append_right (by simp<;>omega)]
   simp
   congr 1;omega
theorem b2e (key : Tag) (G1 : UInt64) (b : List UInt8) (k : Nat) (hk : k < b.length) (h1 : (k : Int).toNat < (K7 key G1 b k).length) (h2 : ((k : Int) % 32).toNat < 32) :
    (K7 key G1 b k).set (k:Int).toNat ((K7 key G1 b k)[(k:Int).toNat] ^^^ (m0.idx ((k:Int) % 32).toNat h2).get (a0m key.l (a48.l++(S1 G1 8++S1 (UInt64.ofInt ((k:Int)/32)) 8))))=K7 key G1 b (k+1):=by
  rw [←b0P key G1 b k hk]
  have e1:(K7 key G1 b k)[(k:Int).toNat]=b[k]:=b2d key G1 b k hk h1
  have e2:UInt64.ofInt ((k:Int)/32)=UInt64.ofNat (k/32):=by
    apply UInt64.toNat_inj.1
    rw [show(k:Int)/32=((k/32:Nat):Int) by omega]
    simp [UInt64.ofInt];omega
  have e3:(m0.idx ((k:Int) % 32).toNat h2).get (a0m key.l (a48.l++(S1 G1 8++S1 (UInt64.ofInt ((k:Int)/32)) 8)))=a0b key G1 k:=by
    rw [e2]
    show(a6q key G1 (k/32)).l[((k:Int) % 32).toNat]'_=_
    unfold a0b
    have h3:((k:Int) % 32).toNat=k % 32:=by omega
    have h4:k % 32 < (a6q key G1 (k/32)).l.length:=by rw [I7.len];omega
    simp only [h3]
    rw [List.getD_eq_getElem?_getD,List.getElem?_eq_getElem h4];rfl
  rw [e1,e3];rfl
theorem a9K (key:Tag) (G1:UInt64) (b:List UInt8) (hb:b.length≤1000000):u1 gl prog 170 [.v key,.v G1,.v b] (fun r=>r = .v (K7 key G1 b b.length)):=by
 refine u1.jn func170 (by kernel_rfl) 42 rfl fun C hC hG => ?_
 refine .q 3 hG fun b3 => ?_
 refine .q 3 hG ?_
 refine .A0 hC .z (.M1 3 a8 .z ?_)
 refine .q 1 hG ?_
 refine .h (.buildSlice (α:=UInt8) ty5 underlying86 .nil a8 (by decide) fun b10 => ?_)
 refine .q 1 hG ?_
 refine .ap (by simp<;>omega) (by simp<;>omega) fun w12 => ?_
 refine .q 8 hG ?_
 refine .D9 (α:=Nat) [(1,_),(3,_),(7,_)] (fun k R=>(8,.v (k:Int))::R) (fun k => [(true,.own 5 w12 (K7 key G1 b k)),(true,.fz (ptr b3 0) (.p key))]) (fun k=>k≤b.length) (fun k=>b.length - k) (0) (.c2 a8 a8 (.cons a8 (.nil _))) ?_ (.c2 a8 a8 (.c2 a8 a8 (.nil _))) (a8) fun k hF => ?_
 ·simp
 have hl0:=P3 key G1 b k
 refine .q 5 hG ?_
 refine .p (.a3S underlying86 a8 .z ?_)
 refine .q 3 hG ⟨fun hc16 => ?_,fun hc16 => ?_⟩
 ·refine .q 4 hG ?_
  have hb1:=E1 G1 8
  have hb2:=E1 (UInt64.ofInt ((k:Int)/32)) 8
  have hl5:=P3 key G1 b k
  refine .a0r [[j1,j1],[j1,j1],[j1,j1],[j1,j1]] [[j1,j1],[j1,j1],[],[j1,j1],[j1,j1],[j1,j1],[j1,j1],[],[],[j1,j1],[]] [[],[],[],[9]] [(10,(⟨(I7 32 UInt8),inferInstance,default⟩:AT))] 3 (by kernel_rfl) 11 [[],[],[(20,1)],[],[(22,3)],[(23,4)],[(24,5)],[(21,2),(25,6)],[(26,7)],[(19,0),(27,8)],[]] [2,7,8] rfl (by kernel_rfl) rfl (by kernel_rfl) rfl (by decide) (by simp) (List.forall_mem_cons.2 ⟨fun o ho=>by obtain rfl:=Option.some.inj (show some _=some o from ho);exact⟨rfl,fun _ _=>A6.alloc y6 fun b=>⟨b,rfl,rfl⟩⟩,(fun p hp=>by cases hp)⟩) (by kernel_rfl) rfl ?_
  refine⟨_,fun H=>j6.P0 (by decide) M0 (.t a8) a8,?_⟩
  refine⟨_,fun H=>j6.move (.t a8) a8,?_⟩
  refine .inl ?_
  refine⟨_,fun H=>j6.move (.t a8) a8,?_⟩
  refine⟨_,fun H=>j6.quo (.t a8) (.i a8) (by omega) (by omega) a8,?_⟩
  refine⟨_,fun H=>j6.a1y underlying3 underlying77 (.t a8) a8,?_⟩
  refine⟨_,fun H=>j6.o7 hG (b0L _) (.cons (.t a8) .nil) a8,?_⟩
  refine .inl (.inl (.inl (.inl ?_)))
  refine⟨a8,?_⟩
  refine⟨⟨j2 [c8,c8],a8⟩,fun Ys5 => ?_⟩
  refine A6.a1c hG (a2I _) (.cons (.t rfl) .nil) fun r21 Hs21 hr21 => ?_
  obtain⟨u21,rfl,rfl⟩:=hr21
  refine⟨[_],_,a8,?_⟩
  refine⟨⟨j2 [c8,c8],a8⟩,fun Ys5 => ?_⟩
  refine A6.append P5 (.inl ⟨_,underlying86⟩) rfl .z (.v (.t rfl)) (by omega) (by omega) (fun w26 => ?_) rfl
  refine⟨[_],_,a8,?_⟩
  refine⟨⟨j2 [c8,c8],a8⟩,fun Ys5 => ?_⟩
  refine A6.u0 hC .z (A6.as 26 rfl .z (A6.ofP (j6.o7 hG (a4F _ _ (by simp) (by simp<;>omega)) (.cons (.s [115,116,114,101,97,109] (by decide) (by decide)) (.cons (.t rfl) .nil)) ?_)))
  refine⟨[_],_,a8,?_⟩
  refine⟨_,fun H=>j6.o7 hG (a47 _ _ (by simp) (by simp<;>omega)) (.cons (.t a8) (.cons (.t a8) .nil)) a8,?_⟩
  refine⟨⟨j2 [c8,c8],a8⟩,fun ws5 => ?_⟩
  refine⟨⟨j2 [c8,c8],a8⟩,fun _ => ?_⟩
  show D5 _ _ _ _ _ [_] ((9,_)::(28,_)::(27,_)::(26,_)::(25,_)::(24,_)::(23,_)::(22,_)::(21,_)::(20,_)::(19,_)::_) _
  refine .n (.O5 y6 (.t a8) (.t a8) .z1 ?_)
  refine .q 1 hG ?_
  have hl6:=P3 key G1 b k
  refine .draw (by kernel_rfl) 12 [[],[],[],[],[(31,2),(32,3)],[(33,4)],[],[(35,6)],[(36,7)],[(37,8)],[(34,5),(38,9)],[(29,0),(30,1)]] a8 (by kernel_rfl) a8 ?_
  refine⟨_,j6.move (.t a8) a8,?_⟩
  refine⟨_,j6.move (.t a8) a8,?_⟩
  refine⟨_,j6.move (.t a8) a8,?_⟩
  refine⟨_,j6.move (.t a8) a8,?_⟩
  refine⟨_,j6.W7 ty5 underlying86 a8 .z2 (.t a8) (by omega) (by omega) a8,?_⟩
  refine⟨_,j6.b3H ty5 (.t a8) .z2 (by omega) a8,?_⟩
  refine⟨_,j6.move (.t a8) a8,?_⟩
  refine⟨_,j6.rem (.t a8) (.i a8) (by omega) (by omega) a8,?_⟩
  refine⟨_,j6.c1P M0 (.t a8) (.t a8) (by omega) (by omega) a8,?_⟩
  refine⟨_,j6.ldL ty5 (.t a8) .z1 a8,?_⟩
  refine⟨_,j6.b3f (.t a8) (.t a8) a8,?_⟩
  refine⟨_,j6.W7 ty5 underlying86 a8 .z2 (.t a8) (by omega) (by omega) a8,?_⟩
  show D5 _ _ _ _ _ [_] ((40,_)::(39,_)::(38,_)::(37,_)::(36,_)::(35,_)::(34,_)::(33,_)::(32,_)::(31,_)::(30,_)::(29,_)::_) _
  refine .n (.b0E ty5 (.t a8) (.t a8) .z2 (by omega) (.drop (.drop ?_)))
  refine .q 3 hG ?_
  refine .ad (by omega) (by omega) ?_
  refine .q 2 hG ?_
  refine⟨k+1,.c2 rfl rfl (.c2 rfl rfl (.nil _)),congrArg (fun q => [(true,E3.own _ _ q),_]) (b2e key G1 b k (by omega) _ _),?_,by omega⟩
  omega
 ·refine .q 6 hG ?_
  refine .u0 hC .z (.as 6 a8 .z ?_)
  refine .q 1 hG ?_
  refine .e1 a8 a8 ?_
  obtain rfl:k=b.length:=by omega
  rfl
theorem a9L (s:Str) (b:List UInt8) (hs:s.l.length≤1000) (hb:b.length≤1000000):F5 gl prog 130 [.v s,.v b] [] (fun r Hs=>∃ u,r = .raw u∧Hs = [.own 5 u (s.l++b)]):=by
 refine F5.Q6 func130 rfl (by kernel_rfl) 9 rfl rfl _ rfl _ rfl fun C hC hG => ?_
 refine .q 7 hG ?_
 refine .h (.X7 underlying9 underlying86 underlying5 (.t a8) fun w6 => ?_)
 refine .q 1 hG ?_
 refine .ap (by omega) (by omega) fun w8 => ?_
 refine .q 3 hG ?_
 refine .e1 a8 a8 ?_
 refine⟨_,.cons .z (.nil),?_⟩
 exact⟨w8,a8,a8⟩
def a3k:Str:=⟨[98,111,120]⟩
def a4G (k:Tag) (n:Int) (p:List UInt8) (x:o5):Bool:=decide (x.Key=k)&&decide (x.E4=n)&&decide (x.Plain=p)
def V8 (k:Tag) (n:Int) (p:List UInt8):List UInt8:=S1 (UInt64.ofInt n) 8++K7 k (UInt64.ofInt n) p p.length
def Y8 (k:Tag) (n:Int) (p:List UInt8):List UInt8:=V8 k n p++(a0m k.l (a3k.l++V8 k n p)).l
def a3l (a:D0) (k:Tag) (n:Int) (p:List UInt8):List UInt8:=if a.K2 then (V7 98 (a.y2.length+1)).l++List.replicate (p.length+8) 0 else Y8 k n p
def Q8 (a:D0) (k:Tag) (n:Int) (p:List UInt8):D0×List UInt8×Int :=
 if n < 0∨281474976710656 < n then (default,[],1) else if 256 < p.length then (default,[],2) else
 match a.y2.find? (a4G k n p) with
 | some x=>(a,x.U4,0)
 | none=>if 65536≤a.y2.length then (default,[],2) else
  (⟨a.K2,a.a4g,a.F9,a.G4,a.y2 ++ [⟨k,n,p,a3l a k n p⟩]⟩,a3l a k n p,0)
theorem a9o {a:D0} {k:Tag} {n:Int} {p:List UInt8} (h:(decide (n < 0)||decide (281474976710656 < n))=true):Q8 a k n p=(default,[],1):=by
 unfold Q8;rw [if_pos (by simpa using h)]
theorem b0Q {a:D0} {k:Tag} {n:Int} {p:List UInt8} (h:(decide (n < 0)||decide (281474976710656 < n))=false) (h2:256 < p.length):Q8 a k n p=(default,[],2):=by
 unfold Q8;rw [if_neg (by simp at h ⊢;omega),if_pos h2]
theorem a3m {a:D0} {k:Tag} {n:Int} {p:List UInt8} {x:o5} (h:(decide (n < 0)||decide (281474976710656 < n))=false) (h2:¬256 < p.length) (h3:a.y2.find? (a4G k n p)=some x):Q8 a k n p=(a,x.U4,0):=by
 unfold Q8;rw [if_neg (by simp at h ⊢;omega),if_neg h2,h3]
theorem b0R {a:D0} {k:Tag} {n:Int} {p:List UInt8} (h:(decide (n < 0)||decide (281474976710656 < n))=false) (h2:¬256 < p.length) (h3:a.y2.find? (a4G k n p)=none) (h4:65536≤a.y2.length):Q8 a k n p=(default,[],2):=by
 unfold Q8;rw [if_neg (by simp at h ⊢;omega),if_neg h2,h3];simp only [];rw [if_pos h4]
theorem a2Y {a : D0} {k : Tag} {n : Int} {p : List UInt8} (h : (decide (n < 0) || decide (281474976710656 < n)) = false) (h2 : ¬ 256 < p.length) (h3 : a.y2.find? (a4G k n p) = none) (h4 : ¬ 65536 ≤ a.y2.length) :
    Q8 a k n p=(⟨a.K2,a.a4g,a.F9,a.G4,a.y2 ++ [⟨k,n,p,a3l a k n p⟩]⟩,a3l a k n p,0):=by
  unfold Q8;rw [if_neg (by simp at h ⊢;omega),if_neg h2,h3];simp only [];rw [if_neg h4]
theorem b2f {a:D0} {k:Tag} {n:Int} {p:List UInt8} (h:a.K2=true):a3l a k n p=(V7 98 (a.y2.length+1)).l++List.replicate (p.length+8) 0:=by unfold a3l;rw [if_pos h]
theorem b2g {a:D0} {k:Tag} {n:Int} {p:List UInt8} (h:a.K2=false):a3l a k n p=Y8 k n p:=by unfold a3l;rw [if_neg (by rw [h];decide)]
theorem a5O {l:List o5} {p:o5→Bool} {k:Nat} (h:k < l.length) (h1:p l[k]=true) (h2:∀ j (hj:j < l.length),j < k→p l[j]=false):l.find? p=some l[k] :=
 List.find?_eq_some_iff_getElem.2 ⟨h1,k,h,rfl,fun j hj=>by rw [h2 j (by omega) hj];rfl⟩
theorem a2J {l:List o5} {p:o5→Bool} (h:∀ j (hj:j < l.length),p l[j]=false):l.find? p=none :=
 List.find?_eq_none.2 fun x hx=>by
  obtain⟨j,hj,rfl⟩:=List.getElem_of_mem hx
  rw [h j hj];decide
theorem b5w (a:D0) (k:Tag) (n:Int) (p:List UInt8) (hb:∀ x∈a.y2,x.U4.length≤1000000):u1 gl prog 140 [.v a,.v k,.v n,.v p] (fun r=>r = .t3 (.v (Q8 a k n p).1) (.v (Q8 a k n p).2.1) (.v (Q8 a k n p).2.2)):=by
 refine u1.jn func140 (by kernel_rfl) 111 rfl fun C hC hG => ?_
 refine .q 3 hG fun b4 => ?_
 refine .q 1 hG fun b5 => ?_
 refine .q 1 hG fun b8 => ?_
 refine .q 5 hG ?_
 refine .A0 hC .z1 (.M1 5 a8 .z1 ?_)
 refine .q 8 hG ?_
 refine .cond (.t a8) (fun hc21 => ?_) (fun hc21 => ?_)
 ·refine .q 2 hG ?_
  refine .p (.bS0 (α:=m5) a8 y7 a1r ?_)
  refine .q 5 hG ?_
  refine⟨_,.r3 a8 (.cell y7 a8 .z) (.tmp a8) (.tmp a8),?_⟩
  rw [a9o hc21]
 ·refine .q 9 hG ⟨fun hc25 => ?_,fun hc25 => ?_⟩
  ·refine .q 2 hG ?_
   refine .p (.bS0 (α:=m5) a8 y7 a1r ?_)
   refine .q 5 hG ?_
   refine⟨_,.r3 a8 (.cell y7 a8 .z) (.tmp a8) (.tmp a8),?_⟩
   rw [b0Q hc21 (by omega)]
  ·refine .q 7 hG ?_
   refine .D9 (α:=Nat) [(2,_),(3,_),(4,_),(5,_),(8,_)] (fun i R=>(11,.v (i:Int))::R) (fun i => [(true,.ob (ptr b8 0) (default:D0)),(true,.fz (ptr b5 0) (.p k)),(true,.ob (ptr b4 0) a)]) (fun i=>i≤a.y2.length∧∀ j (hj:j < a.y2.length),j < i→a4G k n p a.y2[j]=false) (fun i=>a.y2.length - i) (0) (.c2 a8 a8 (.c2 a8 a8 (.cons a8 (.nil _)))) ?_ (.c2 a8 a8 (.c2 a8 a8 (.c2 a8 a8 (.nil _)))) (a8) fun i hF => ?_
   ·simp
   obtain⟨h1,h2⟩:=hF
   refine .q 10 hG ⟨fun hc31 => ?_,fun hc31 => ?_⟩
   ·refine .q 4 hG ?_
    refine .T7 29 a8 fun hl29 => ?_
    refine .q 4 hG ?_
    refine .ix (by omega) (by omega) ?_
    refine .q 2 hG fun b12 => ?_
    refine .q 7 hG ?_
    refine .p (.a7m underlying26 sz5 underlying5 a8k (.t a8) (.t a8) ?_)
    refine .q 10 hG ?_
    refine .go 49 a8 (.t a8) (fun hg53 => .o7 hG (a5L _ _) (.cons (.q a8 hg53) (.cons (.q a8 hg53) .nil)) a8) ?_
    refine .q 2 hG ?_
    refine .cond (.t a8) (fun hc54 => ?_) (fun hc54 => ?_)
    ·refine .q 1 hG ?_
     have hb10:∀ h:(i:Int).toNat < a.y2.length,(a.y2[(i:Int).toNat]'h).U4.length≤1000000:=fun h=>hb _ (List.getElem_mem h)
     have hb11:=hb10 (by omega)
     refine .draw (by kernel_rfl) 5 [[],[],[],[(57,2)],[(56,1),(58,3)]] a8 (by kernel_rfl) a8 ?_
     refine⟨_,j6.Q1 y7 (.t a8) .z3 a8,?_⟩
     refine⟨_,j6.F1 (α:=UInt8) ty5 underlying86 .nil a8 (by decide) a8,?_⟩
     refine⟨_,j6.B1 o5.l3 b0r a8 (.t a8) a8,?_⟩
     refine⟨_,j6.ldF (fun x=>x.U4) a2H (.t a8) .z (fun _=>a8) a8,?_⟩
     refine⟨_,j6.a0I P5 (.inl ⟨_,underlying86⟩) (.t a8) (.v (.t a8)) (by simp at * <;> omega) (by simp at * <;> omega) a8,?_⟩
     show D5 _ _ _ _ _ [_,_,_] ((59,_)::(58,_)::(57,_)::(56,_)::(55,_)::_) _
     refine .q 5 hG ?_
     refine⟨_,.r3 a8 (.cell y7 a8 .z1) (.tmp a8) (.tmp a8),?_⟩
     rw [a3m hc21 (by omega) (a5O (k:=i) (by omega) hc54 h2)];rfl
    ·refine .q 1 hG ?_
     refine .drop ?_
     refine .q 2 hG ?_
     refine .ad (by omega) (by omega) ?_
     refine .q 2 hG ?_
     refine⟨i+1,.c2 rfl rfl (.c2 rfl rfl (.c2 rfl rfl (.nil _))),rfl,?_,by omega⟩
     refine⟨by omega,fun j hj hji => ?_⟩;rcases Nat.lt_or_ge j i with h|h;exact h2 j hj h;(obtain rfl:j=i:=by omega);exact hc54
   ·refine .q 10 hG ⟨fun hc63 => ?_,fun hc63 => ?_⟩
    ·refine .q 2 hG ?_
     refine .p (.bS0 (α:=m5) a8 y7 a1r ?_)
     refine .q 5 hG ?_
     refine⟨_,.r3 a8 (.cell y7 a8 .z) (.tmp a8) (.tmp a8),?_⟩
     rw [b0R hc21 (by omega) (a2J fun j hj=>h2 j hj (by omega)) (by omega)]
    ·refine .q 11 hG ?_
     refine .cond (.t a8) (fun hc66 => ?_) (fun hc66 => ?_)
     ·refine .q 5 hG ?_
      refine .ad (by omega) (by omega) (.p (.o7 hG (a6Z _ _) (.cons (.u8 98 a8) (.cons (.t a8) .nil)) ?_))
      refine .q 1 hG fun b14 => ?_
      refine .q 2 hG ?_
      refine .A0 hC .z (.M1 14 a8 .z ?_)
      refine .q 1 hG ?_
      refine .p (.c0a (by decide) M0 (.t a8) ?_)
      refine .q 2 hG ?_
      refine .ad (by omega) (by omega) (.p (.b7Y underlying86 c2D a8 a8 a8 (fun _=>a8) underlying3 (.t a8) (.t a8) (by omega) (by simp<;>omega) (by simp<;>omega) ?_))
      refine .q 3 hG ?_
      refine .D7 [j1,j1,j1,j1] (by kernel_rfl) 14 [[],[],[(94,1)],[(93,0),(95,2)],[],[],[],[],[(99,6),(100,7)],[],[(97,4),(98,5),(101,8),(102,9)],[(103,10)],[(96,3),(104,11)],[]] [0,3,12] a8 (by kernel_rfl) a8 (by kernel_rfl) (by decide) (.inl ?_)
      refine⟨_,fun H=>j6.B1 m5.l4 a5D a8 (.t a8) a8,?_⟩
      refine⟨_,fun H=>j6.ldF (fun x=>x.y2) b3U (.t a8) (u7.app .z3) (fun _=>a8) a8,?_⟩
      refine .inl ?_
      refine⟨_,fun H=>j6.G2 y6 (.t a8) a8,?_⟩
      refine⟨_,fun H=>j6.move (.t a8) a8,?_⟩
      refine⟨_,fun H=>j6.F1 (α:=UInt8) ty5 underlying86 .nil a8 (by decide) a8,?_⟩
      refine⟨_,fun H=>j6.move (.t a8) a8,?_⟩
      refine⟨_,fun H=>j6.a0I P5 (.inl ⟨_,underlying86⟩) (.t a8) (.v (.t a8)) (by simp<;>omega) (by simp<;>omega) a8,?_⟩
      refine⟨_,fun H=>j6.move (.t a8) a8,?_⟩
      refine⟨_,fun H=>j6.bS4 o5.l0 o5.l1 o5.l2 o5.l3 a8 a5s c05 (fun c0 c1 c2 c3=>(⟨c0,c1,c2,c3⟩:o5)) (fun _ _ _ _=>a8) a8 a8 a8 a8 a8 (.t a8) (.t a8) (.t a8) (.t a8) a8,?_⟩
      refine⟨_,fun H=>j6.F1 (α:=o5) a5s underlying36 (.cons (.t a8) .nil) a8 (by decide) a8,?_⟩
      refine .inl ?_
      refine⟨_,fun H=>j6.B1 m5.l4 a5D a8 (.t a8) a8,?_⟩
      refine⟨⟨([],j2 [c8,c8,c8,c8]),a8⟩,?_⟩
      refine A6.buildSlice (α:=o5) a5s underlying36 .nil rfl (by decide) fun b93 => ?_
      refine⟨⟨([_],j2 [c8,c8,c8,c8]),a8⟩,?_⟩
      refine A6.append c0i (.inl ⟨_,underlying36⟩) rfl .z (.v (.t rfl)) (by simp<;>omega) (by simp<;>omega) (fun w96 => ?_) rfl
      refine⟨⟨([_],j2 [c8,c8,c8,c8]),a8⟩,?_⟩
      refine A6.append c0i (.inl ⟨_,underlying36⟩) rfl .z (.v (.c rfl)) (by simp<;>omega) (by simp<;>omega) (fun w105 => ?_) rfl
      refine⟨⟨([_],j2 [c8,c8,c8,c8]),a8⟩,?_⟩
      show D5 _ _ _ _ _ [_] ((106,_)::(105,_)::(104,_)::(103,_)::(102,_)::(101,_)::(100,_)::(99,_)::(98,_)::(97,_)::(96,_)::(95,_)::(94,_)::(93,_)::_) _
      refine .u0 hC .z (.as 105 a8 .z (.n (.stF (fun y x => { x with y2:=y }) b3U (.t a8) (.t a8) .z4 (fun _ _=>a8) ?_)))
      refine .q 2 hG ?_
      refine .draw (by kernel_rfl) 4 [[],[],[],[(108,1),(109,2)]] a8 (by kernel_rfl) a8 ?_
      refine⟨_,j6.Q1 y7 (.t a8) .z4 a8,?_⟩
      refine⟨_,j6.F1 (α:=UInt8) ty5 underlying86 .nil a8 (by decide) a8,?_⟩
      refine⟨_,j6.move (.t a8) a8,?_⟩
      refine⟨_,j6.a0I P5 (.inl ⟨_,underlying86⟩) (.t a8) (.v (.t a8)) (by simp<;>omega) (by simp<;>omega) a8,?_⟩
      show D5 _ _ _ _ _ [_,_,_] ((110,_)::(109,_)::(108,_)::(107,_)::_) _
      refine .q 5 hG ?_
      refine⟨_,.r3 a8 (.cell y7 a8 .z2) (.tmp a8) (.tmp a8),?_⟩
      rw [a2Y hc21 (by omega) (a2J fun j hj=>h2 j hj (by omega)) (by omega),b2f hc66];rfl
     ·refine .q 1 hG ?_
      have hb17:=E1 (UInt64.ofInt n) 8
      have hb18:=P3 k (UInt64.ofInt n) p p.length
      refine .a7n (by kernel_rfl) 10 [[],[(77,0)],[(78,1)],[],[],[(81,4)],[],[(80,3),(82,5),(83,6)],[(79,2),(84,7)],[(85,8)]] [2,8,9] a8 (by kernel_rfl) a8 (by kernel_rfl) (by decide) ?_
      refine⟨_,fun H=>j6.move (.t a8) a8,?_⟩
      refine⟨_,fun H=>j6.a1y underlying3 underlying77 (.t a8) a8,?_⟩
      refine .inl ?_
      refine⟨_,fun H=>j6.G2 y6 (.t a8) a8,?_⟩
      refine⟨_,fun H=>j6.move (.t a8) a8,?_⟩
      refine⟨_,fun H=>j6.a1y underlying3 underlying77 (.t a8) a8,?_⟩
      refine⟨_,fun H=>j6.move (.t a8) a8,?_⟩
      refine⟨_,fun H=>j6.o7 hG (a9K _ _ _ (by omega)) (.cons (.t a8) (.cons (.t a8) (.cons (.t a8) .nil))) a8,?_⟩
      refine .inl (.inl ?_)
      refine A6.a1c hG (a2I _) (.cons (.t rfl) .nil) fun r79 Hs79 hr79 => ?_
      obtain⟨u79,rfl,rfl⟩:=hr79
      refine A6.append P5 (.inl ⟨_,underlying86⟩) rfl .z (.v (.t rfl)) (by omega) (by omega) (fun w85 => ?_) rfl
      refine A6.ofP (j6.assign (.t rfl) ?_)
      show D5 _ _ _ _ _ [] ((13,_)::(85,_)::(84,_)::(83,_)::(82,_)::(81,_)::(80,_)::(79,_)::(78,_)::(77,_)::_) _
      refine .q 2 hG ?_
      refine .a0r [[j1,j1,j1,j1],[j0,j1,j1,j1],[j0,j1,j1,j1]] [[j0,j1,j1,j1],[j1,j1,j1,j1],[],[],[]] [] [(4,(⟨(I7 32 UInt8),inferInstance,default⟩:AT))] 2 (by kernel_rfl) 5 [[],[],[(87,1)],[(86,0),(88,2)],[]] [2,3] rfl (by kernel_rfl) rfl (by kernel_rfl) rfl (by decide) (by simp) (List.forall_mem_cons.2 ⟨fun o ho=>by obtain rfl:=Option.some.inj (show some _=some o from ho);exact⟨rfl,fun _ _=>A6.alloc y6 fun b=>⟨b,rfl,rfl⟩⟩,(fun p hp=>by cases hp)⟩) (by kernel_rfl) rfl ?_
      refine⟨_,fun H=>j6.P0 (by decide) M0 (.t a8) a8,?_⟩
      refine⟨_,fun H=>j6.move (.t a8) a8,?_⟩
      refine .inl (.inl (.inl ?_))
      refine⟨a8,?_⟩
      refine⟨⟨j2 [c8,c8,c8,c8],a8⟩,fun Ys18 => ?_⟩
      refine A6.c1d hG (a9L _ _ (by simp) (by simp<;>omega)) (.cons (.e (.s [98,111,120] (by decide) (by decide))) (.cons (.own rfl (u7.app (u7.app .z))) .nil)) (by rintro _ _ ⟨u,rfl,rfl⟩;exact .own) fun r88 Hs88 hr88 => ?_
      obtain⟨u88,rfl,rfl⟩:=hr88
      refine⟨[_],_,a8,?_⟩
      refine⟨⟨j2 [_,c8,c8,c8],a8⟩,fun Ys18 => ?_⟩
      refine A6.ofP (j6.b7K hG (a47 _ _ (by simp) (by simp<;>omega)) (.cons (.e (.t rfl)) (.cons (.own rfl .z) .nil)) (by first|exact .v|exact .t2 .v .v|exact .t3 .v .v .v) ?_)
      refine⟨[_],_,a8,?_⟩
      refine⟨⟨j2 [_,c8,c8,c8],a8⟩,fun ws18 => ?_⟩
      refine⟨⟨j2 [_,c8,c8,c8],a8⟩,fun _ => ?_⟩
      show D5 _ _ _ _ _ [_] ((15,_)::(89,_)::(88,_)::(87,_)::(86,_)::_) _
      refine .n (.O5 y6 (.t a8) (.t a8) .z1 ?_)
      refine .q 1 hG ?_
      refine .A0 hC .z1 (.M1 15 a8 .z1 ?_)
      refine .q 2 hG ?_
      refine .p (.P0 (by decide) M0 (.t a8) (.h (.append P5 (.inl ⟨_,underlying86⟩) a8 .z2 (.v (.t a8)) (by simp<;>omega) (by simp<;>omega) (fun w92 => .ag a8 ?_) a8)))
      refine .q 2 hG ?_
      refine .u0 hC .z2 (.as 13 a8 .z2 (.D7 [j1,j1,j1,j1,j1,j1] (by kernel_rfl) 14 [[],[],[(94,1)],[(93,0),(95,2)],[],[],[],[],[(99,6),(100,7)],[],[(97,4),(98,5),(101,8),(102,9)],[(103,10)],[(96,3),(104,11)],[]] [0,3,12] a8 (by kernel_rfl) a8 (by kernel_rfl) (by decide) (.inl ?_)))
      refine⟨_,fun H=>j6.B1 m5.l4 a5D a8 (.t a8) a8,?_⟩
      refine⟨_,fun H=>j6.ldF (fun x=>x.y2) b3U (.t a8) (u7.app .z5) (fun _=>a8) a8,?_⟩
      refine .inl ?_
      refine⟨_,fun H=>j6.G2 y6 (.t a8) a8,?_⟩
      refine⟨_,fun H=>j6.move (.t a8) a8,?_⟩
      refine⟨_,fun H=>j6.F1 (α:=UInt8) ty5 underlying86 .nil a8 (by decide) a8,?_⟩
      refine⟨_,fun H=>j6.move (.t a8) a8,?_⟩
      refine⟨_,fun H=>j6.a0I P5 (.inl ⟨_,underlying86⟩) (.t a8) (.v (.t a8)) (by simp<;>omega) (by simp<;>omega) a8,?_⟩
      refine⟨_,fun H=>j6.move (.t a8) a8,?_⟩
      refine⟨_,fun H=>j6.bS4 o5.l0 o5.l1 o5.l2 o5.l3 a8 a5s c05 (fun c0 c1 c2 c3=>(⟨c0,c1,c2,c3⟩:o5)) (fun _ _ _ _=>a8) a8 a8 a8 a8 a8 (.t a8) (.t a8) (.t a8) (.t a8) a8,?_⟩
      refine⟨_,fun H=>j6.F1 (α:=o5) a5s underlying36 (.cons (.t a8) .nil) a8 (by decide) a8,?_⟩
      refine .inl ?_
      refine⟨_,fun H=>j6.B1 m5.l4 a5D a8 (.t a8) a8,?_⟩
      refine⟨⟨([],j2 [c8,c8,c8,c8,c8,c8]),a8⟩,?_⟩
      refine A6.buildSlice (α:=o5) a5s underlying36 .nil rfl (by decide) fun b93 => ?_
      refine⟨⟨([_],j2 [c8,c8,c8,c8,c8,c8]),a8⟩,?_⟩
      refine A6.append c0i (.inl ⟨_,underlying36⟩) rfl .z (.v (.t rfl)) (by simp<;>omega) (by simp<;>omega) (fun w96 => ?_) rfl
      refine⟨⟨([_],j2 [c8,c8,c8,c8,c8,c8]),a8⟩,?_⟩
      refine A6.append c0i (.inl ⟨_,underlying36⟩) rfl .z (.v (.c rfl)) (by simp<;>omega) (by simp<;>omega) (fun w105 => ?_) rfl
      refine⟨⟨([_],j2 [c8,c8,c8,c8,c8,c8]),a8⟩,?_⟩
      show D5 _ _ _ _ _ [_] ((106,_)::(105,_)::(104,_)::(103,_)::(102,_)::(101,_)::(100,_)::(99,_)::(98,_)::(97,_)::(96,_)::(95,_)::(94,_)::(93,_)::_) _
      refine .u0 hC .z (.as 105 a8 .z (.n (.stF (fun y x => { x with y2:=y }) b3U (.t a8) (.t a8) .z6 (fun _ _=>a8) ?_)))
      refine .q 2 hG ?_
      refine .draw (by kernel_rfl) 4 [[],[],[],[(108,1),(109,2)]] a8 (by kernel_rfl) a8 ?_
      refine⟨_,j6.Q1 y7 (.t a8) .z6 a8,?_⟩
      refine⟨_,j6.F1 (α:=UInt8) ty5 underlying86 .nil a8 (by decide) a8,?_⟩
      refine⟨_,j6.move (.t a8) a8,?_⟩
      refine⟨_,j6.a0I P5 (.inl ⟨_,underlying86⟩) (.t a8) (.v (.t a8)) (by simp<;>omega) (by simp<;>omega) a8,?_⟩
      show D5 _ _ _ _ _ [_,_,_] ((110,_)::(109,_)::(108,_)::(107,_)::_) _
      refine .q 5 hG ?_
      refine⟨_,.r3 a8 (.cell y7 a8 .z4) (.tmp a8) (.tmp a8),?_⟩
      rw [a2Y hc21 (by omega) (a2J fun j hj=>h2 j hj (by omega)) (by omega),b2g hc66];rfl
structure b8k where
 K2:Bool
 a4g:(I7 32 UInt8)
 F9:Int
 G4:V5
 y2:V5
structure MkU where
 a:D0
 e:Int
 um:Value
 ub:Value
theorem b4a {α:Type} {l:List α} {p:α→Bool} (h:0≤idx l p):idx l p < l.length:=by
 unfold idx at *;split at h<;>split<;>omega
theorem b0S {α:Type} {l:List α} {p:α→Bool} (h:0≤idx l p) (h2:(idx l p).toNat < l.length):l.find? p=some l[(idx l p).toNat]:=by
 have h3:l.findIdx p < l.length:=by unfold idx at h;split at h<;>omega
 have h4:(idx l p).toNat=l.findIdx p:=by unfold idx;rw [if_pos h3];rfl
 simp only [h4]
 exact List.find?_eq_some_iff_getElem.2 ⟨List.findIdx_getElem (w:=h3),_,h3,rfl,fun j hj=>by simpa using List.not_of_lt_findIdx hj⟩
theorem b0T {α:Type} {l:List α} {p:α→Bool} (h:¬0≤idx l p):l.find? p=none:=by
 unfold idx at h
 split at h
 ·omega
 ·next h3=>exact List.find?_eq_none.2 fun x hx hp=>h3 (List.findIdx_lt_length_of_exists ⟨x,hx,hp⟩)
theorem a1C (a:D0) (k:Tag) (m:List UInt8):u1 gl prog 95 [.v a,.v k,.v m] (fun r=>r = .t2 (.v (l9 a k m).1) (.v (l9 a k m).2)):=by
 refine u1.jn func95 (by kernel_rfl) 32 rfl fun C hC hG => ?_
 refine .q 3 hG fun b3 => ?_
 refine .q 1 hG fun b4 => ?_
 refine .q 1 hG fun b6 => ?_
 refine .q 4 hG ?_
 refine .A0 hC .z1 (.M1 4 a8 .z1 (.A0 hC .z2 (.M1 3 a8 .z2 ?_)))
 refine .q 4 hG ?_
 refine .cond (.t a8) (fun hc10 => ?_) (fun hc10 => ?_)
 ·refine .q 6 hG ?_
  refine .p (.o7 hG (c12 _ _ _) (.cons (.t a8) (.cons (.t a8) (.cons (.t a8) .nil))) ?_)
  refine .q 9 hG ⟨fun hc17 => ?_,fun hc17 => ?_⟩
  ·refine .q 2 hG ?_
   refine .p (.O0 (default:(I7 32 UInt8)) y6 M0 .nil a8 ?_)
   refine .q 4 hG ?_
   refine⟨_,.r2 a8 (.cell y6 a8 .z) (.tmp a8),?_⟩
   have e:l9 a k m=(default,false):=by unfold l9 M9 S4;rw [if_pos hc10,b0T (by omega)]
   rw [e]
  ·refine .q 2 hG ?_
   have hi7:0≤idx a.G4 (a4c k m):=by simp at hc17;omega
   have hl7:=b4a hi7
   refine .q 4 hG ?_
   refine .ix (by omega) (by omega) ?_
   refine .q 6 hG ?_
   refine⟨_,.r2 a8 (.cell y6 a8 .z) (.tmp a8),?_⟩
   have e:l9 a k m=(a.G4[(idx a.G4 (a4c k m)).toNat].Tag,true):=by unfold l9 M9 S4;rw [if_pos hc10,b0S hi7 (by omega)]
   rw [e]
 ·refine .q 9 hG ⟨fun hc27 => ?_,fun hc27 => ?_⟩
  ·refine .q 2 hG ?_
   refine .p (.O0 (default:(I7 32 UInt8)) y6 M0 .nil a8 ?_)
   refine .q 4 hG ?_
   refine⟨_,.r2 a8 (.cell y6 a8 .z) (.tmp a8),?_⟩
   have e:l9 a k m=(default,false):=by unfold l9;rw [if_neg (by rw [show a.K2=false from hc10];decide),if_pos (by omega)]
   rw [e]
  ·refine .q 3 hG ?_
   refine .p (.P0 (by decide) M0 (.t a8) ?_)
   refine .q 1 hG ?_
   refine .p (.o7 hG (a8E _ _ (by simp) (by omega)) (.cons (.t a8) (.cons (.t a8) .nil)) ?_)
   refine .q 4 hG ?_
   refine⟨_,.r2 a8 (.cell y6 a8 .z) (.tmp a8),?_⟩
   have e:l9 a k m=(a0m k.l m,true):=by unfold l9;rw [if_neg (by rw [show a.K2=false from hc10];decide),if_neg (by omega)]
   rw [e]
structure H5 (a:D0) (n:Nat):Prop where
 a0s:a.G4.length≤n
 boxes:a.y2.length≤n
 a5P:0≤a.F9
 a60:a.F9≤n
 tag:∀ i (h:i < a.G4.length),a.G4[i].Message.length≤1000∧a.G4[i].Tag=(if a.K2 then V7 109 (i+1:Nat) else a0m a.G4[i].Key.l a.G4[i].Message)
 uniq:∀ i (h:i < a.G4.length),a.G4.find? (a4c a.G4[i].Key a.G4[i].Message)=some a.G4[i]
 box:∀ i (h:i < a.y2.length),a.y2[i].Plain.length≤256∧0≤a.y2[i].E4∧a.y2[i].E4≤281474976710656 ∧
  a.y2[i].U4=(if a.K2 then (V7 98 (i+1:Nat)).l++List.replicate (a.y2[i].Plain.length+8) 0 else Y8 a.y2[i].Key a.y2[i].E4 a.y2[i].Plain)
theorem H5.new (free:Bool) (seed:Tag) (n:Nat):H5 ⟨free,seed,0,[],[]⟩ n :=
 ⟨Nat.zero_le _,Nat.zero_le _,Int.le_refl _,Int.natCast_nonneg _,fun i h=>(by cases h),fun i h=>(by cases h),fun i h=>(by cases h)⟩
theorem H5.le {a:D0} {n m:Nat} (h:H5 a n) (hm:n≤m):H5 a m :=
 ⟨Nat.le_trans h.a0s hm,Nat.le_trans h.boxes hm,h.a5P,by have:=h.a60;omega,h.tag,h.uniq,h.box⟩
theorem H5.key {a:D0} {n:Nat} (h:H5 a n) (hn:n < 65536):H5 (Q7 a).1 (n+1):=by
 have:=h.a60
 have:=h.a5P
 unfold Q7
 rw [if_neg (by omega)]
 exact⟨Nat.le_succ_of_le h.a0s,Nat.le_succ_of_le h.boxes,by show 0≤a.F9+1;omega,by show a.F9+1≤((n+1:Nat):Int);omega,h.tag,h.uniq,h.box⟩
theorem a9M (k:Tag) (m:List UInt8) (x:y5):a4c k m x=true↔x.Key=k∧x.Message=m:=by simp [a4c]
theorem H5.mac {a:D0} {n:Nat} (h:H5 a n) (hn:n < 65536) {k:Tag} {m:List UInt8} (hm:m.length≤1000):H5 (G8 a k m).1 (n+1):=by
 have h1:=h.a0s
 cases hf:S4 a k m with
 | some x =>
  have e:G8 a k m=(a,x.Tag,0):=by unfold G8;rw [if_neg (by omega),hf]
  rw [e];exact h.le (Nat.le_succ _)
 | none =>
  rw [a3X (by omega) hf (by omega)]
  have hnone:∀ x∈a.G4,a4c k m x=false:=fun x hx=>by
   have:=List.find?_eq_none.1 hf x hx
   simpa using this
  refine⟨by simp;exact h1,Nat.le_succ_of_le h.boxes,h.a5P,by have:=h.a60;show a.F9≤_;omega,fun i hi => ?_,fun i hi => ?_,h.box⟩
  ·simp only [List.length_append,List.length_singleton] at hi
   by_cases e:i < a.G4.length
   ·simp only [List.getElem_append_left e];exact h.tag i e
   ·obtain rfl:i=a.G4.length:=by omega
    simp only [List.getElem_concat_length]
    refine⟨hm,?_⟩
    unfold a3j
    rw [show((a.G4.length+1:Nat):Int)=(a.G4.length:Int)+1 by omega]
  ·simp only [List.length_append,List.length_singleton] at hi
   by_cases e:i < a.G4.length
   ·simp only [List.getElem_append_left e]
    rw [List.find?_append,h.uniq i e];rfl
   ·obtain rfl:i=a.G4.length:=by omega
    simp only [List.getElem_concat_length]
    have:a.G4.find? (a4c k m)=none:=hf
    rw [List.find?_append,this]
    simp [a4c]
theorem H5.boxed {a:D0} {n:Nat} (h:H5 a n) (hn:n < 65536) {k:Tag} {c:Int} {p:List UInt8} (hc0:0≤c) (hc1:c≤281474976710656) (hp:p.length≤256):H5 (Q8 a k c p).1 (n+1):=by
 have h1:=h.boxes
 have hr:(decide (c < 0)||decide (281474976710656 < c))=false:=by simp;omega
 cases hf:a.y2.find? (a4G k c p) with
 | some x=>rw [a3m hr (by omega) hf];exact h.le (Nat.le_succ _)
 | none =>
  rw [a2Y hr (by omega) hf (by omega)]
  refine⟨Nat.le_succ_of_le h.a0s,by simp;exact h1,h.a5P,by have:=h.a60;show a.F9≤_;omega,h.tag,h.uniq,fun i hi => ?_⟩
  simp only [List.length_append,List.length_singleton] at hi
  by_cases e:i < a.y2.length
  ·simp only [List.getElem_append_left e];exact h.box i e
  ·obtain rfl:i=a.y2.length:=by omega
   simp only [List.getElem_concat_length]
   refine⟨hp,hc0,hc1,?_⟩
   unfold a3l
   rw [show((a.y2.length+1:Nat):Int)=(a.y2.length:Int)+1 by omega]
theorem H5.c1i {a:D0} {n:Nat} (h:H5 a n):∀ x∈a.y2,x.U4.length≤1000000:=fun x hx=>by
 obtain⟨i,hi,rfl⟩:=List.getElem_of_mem hx
 obtain⟨h1,_,_,h2⟩:=h.box i hi
 rw [h2]
 split
 ·simp;omega
 ·simp [Y8,V8,E1,P3];omega
theorem G0 (w : Value) (d : m6) (n : Int) (hd : G9 d) (h0 : 0 < n) (h1 : n ≤ 4611686018427387904) :
    F5 gl prog 19 [dk w,.v n] [.ob w d] (fun r Hs=>∃ v:Int,∃ d',0≤v∧v < n∧G9 d'∧r = .v v∧Hs = [.ob w d']) :=
  (a3i w d n hd h0 h1).mono fun r Hs ⟨h2,h3⟩=>⟨_,_,(W4 h0).1,(W4 h0).2,R7 hd,h2,h3⟩
end Go.Proofs.YtmmclghiidoldaaGreatDoor
namespace Go.Ab
open Go.Fl Go.RowKit
open o8 (rep)
variable {P:Program} {N:Nat} {C:Ctx} {σ:x9} {H:j7} {K:AV→Prop} {d:Option Nat} {ty:TypeId} {ps:String} {af:Array Edge} {g:Option (Nat×Bool)} {x y:Operand} {T T2:TypeId}
theorem a1M {m:Int} (h0:0≤m) (h1:m≤9223372036854775807):(BitVec.ofInt 64 m).toNat=m.toNat:=by
 rw [BitVec.toNat_ofInt,Int.emod_eq_of_lt h0 (by omega)]
theorem wrap64 {n:Nat} (h:n < 2^63):IntKind.wrap .i64 (n:Int)=(n:Int):=wrap_i64 (by omega) (by omega)
theorem b8l {m n:Int} (h0:0≤m) (h1:0≤n) (hm:m≤9223372036854775807) (hn:n≤9223372036854775807):binOp .and T (i64 m) (i64 n)=pure (i64 ((m.toNat &&& n.toNat:Nat):Int)):=by
 show Op.intBits .and .i64 m n=_
 unfold Op.intBits
 have e:((BitVec.ofInt 64 m) &&& (BitVec.ofInt 64 n)).toNat=m.toNat &&& n.toNat:=by rw [BitVec.toNat_and,a1M h0 hm,a1M h1 hn]
 have hb:m.toNat &&& n.toNat < 2^63:=Nat.lt_of_le_of_lt Nat.and_le_left (by omega)
 show(pure (Value.int .i64 (IntKind.wrap .i64 (((BitVec.ofInt 64 m) &&& (BitVec.ofInt 64 n)).toNat:Int))):Sem Value)=_
 rw [e,wrap64 hb]
theorem c0m {m n:Int} (h0:0≤m) (h1:0≤n) (hm:m≤9223372036854775807) (hn:n≤9223372036854775807):binOp .or T (i64 m) (i64 n)=pure (i64 ((m.toNat ||| n.toNat:Nat):Int)):=by
 show Op.intBits .or .i64 m n=_
 unfold Op.intBits
 have e:((BitVec.ofInt 64 m) ||| (BitVec.ofInt 64 n)).toNat=m.toNat ||| n.toNat:=by rw [BitVec.toNat_or,a1M h0 hm,a1M h1 hn]
 have hb:m.toNat ||| n.toNat < 2^63:=Nat.or_lt_two_pow (by omega) (by omega)
 show(pure (Value.int .i64 (IntKind.wrap .i64 (((BitVec.ofInt 64 m) ||| (BitVec.ofInt 64 n)).toNat:Int))):Sem Value)=_
 rw [e,wrap64 hb]
theorem j6.c4n {m n:Int} (hx:E8 C σ H x (.v m)) (hy:E8 C σ H y (.v n)) (h0:0≤m) (h1:0≤n) (k:K (.v (((m.toNat &&& n.toNat:Nat):Int)))):j6 P N C ⟨d,.binOp .and T x y T2,ty,ps,af,g⟩ σ H K :=
 .vk k (fun ρ I L hs=>by
  obtain⟨e1,_,b1⟩:=hx.int hs
  obtain⟨e2,_,b2⟩:=hy.int hs
  have hb:m.toNat &&& n.toNat≤m.toNat:=Nat.and_le_left
  exact .mk ⟨_,⟨rfl,by omega,by omega⟩,rfl⟩ fun a w ha hm=>by
   simp [execOp,ha.ev e1,ha.ev e2,eqGuard,b8l h0 h1 b1 b2,asV,o8.agg])
theorem j6.orI {m n:Int} (hx:E8 C σ H x (.v m)) (hy:E8 C σ H y (.v n)) (h0:0≤m) (h1:0≤n) (k:K (.v (((m.toNat ||| n.toNat:Nat):Int)))):j6 P N C ⟨d,.binOp .or T x y T2,ty,ps,af,g⟩ σ H K :=
 .vk k (fun ρ I L hs=>by
  obtain⟨e1,_,b1⟩:=hx.int hs
  obtain⟨e2,_,b2⟩:=hy.int hs
  have hb:m.toNat ||| n.toNat < 2^63:=Nat.or_lt_two_pow (by omega) (by omega)
  exact .mk ⟨_,⟨rfl,by omega,by omega⟩,rfl⟩ fun a w ha hm=>by
   simp [execOp,ha.ev e1,ha.ev e2,eqGuard,c0m h0 h1 b1 b2,asV,o8.agg])
theorem j6.c3j {m:Int} {n:UInt64} (hx:E8 C σ H x (.v m)) (hy:E8 C σ H y (.v n)) (h1:n.toNat < 64) (k:K (.v (m >>> n.toNat))):j6 P N C ⟨d,.binOp .shr T x y T2,ty,ps,af,g⟩ σ H K :=
 .vk k (fun ρ I L hs=>by
  have hm:=(hx.int hs).2
  refine .mk ⟨_,⟨rfl,?_,?_⟩,rfl⟩ fun a w ha hm=>by
   have e:=b1L T m .u64 n.toNat h1
   simp only [execOp,ha.ev (hx.int hs).1,ha.ev (hy.a1Y hs),eqGuard]
   simp [Fl.u64,e,asV,o8.agg]
  ·rw [Int.shiftRight_eq_div_pow]
   rcases Int.le_total 0 m with h|h
   ·have:=Int.ediv_nonneg h (Int.natCast_nonneg (2^n.toNat));omega
   ·have h2:(1:Int)≤((2^n.toNat:Nat):Int):=Int.natCast_pos.2 (Nat.two_pow_pos _)
    have:=Int.le_ediv_of_mul_le (a:=m) (b:=m) (c:=((2^n.toNat:Nat):Int)) (by omega) (by have:=Int.mul_le_mul_of_nonpos_left h h2;omega)
    omega
  ·rw [Int.shiftRight_eq_div_pow]
   rcases Int.le_total 0 m with h|h
   ·have:=Int.ediv_le_self ((2^n.toNat:Nat):Int) h;omega
   ·have h2:(0:Int) < ((2^n.toNat:Nat):Int):=Int.natCast_pos.2 (Nat.two_pow_pos _)
    have:=Int.ediv_lt_of_lt_mul (a:=m) (b:=1) h2 (by omega);omega)
theorem A6.b8m {C : Ctx} {σ : x9} {H : j7} {args : Array Operand} {tys : Array TypeId} {f : FuncId} {G : Gl} {ags : List AV} (hG : G.p C.I0) {α : Type} {r0 : o8 α} {wd : Value} {x : α} {post : AV → List E3 → Prop} {K : AV → j7 → Prop} {b : Bool} {F : Bool × E3 → j7}
    (h:F5 G P f ags [.ob wd x] post) (hH:u7 H (b,.ob wd x) F) (hv:a2R C σ H args.toList ags)
    (hshape:∀ r Hs,post r Hs→∃ Bn,∃ x':α,Hs = [Bn,.ob wd x']) (k:∀ r Bn B',post r [Bn,B']→K r ((true,Bn)::F (b,B'))):A6 P C N ⟨d,.call ⟨.value (.func f),args,tys⟩,ty,ps,af,g⟩ σ H K:=fun ρ I L hs=>by
  obtain⟨vs,h1,h2⟩:=hv.get hs
  obtain⟨i,X,h3,h4,h5⟩:=hH.get hs.heap
  have hM:=h I [X] vs (G.mono hs.V2 hG) h2 ⟨X,[],rfl,h4.1,rfl⟩
  have hM2:b0f P f vs.toArray I [X] (fun v J L'=>∃ cn c' r Bn,∃ x':α,L' = [cn++c']∧E6 J r v∧Bn.a4f J cn∧(E3.ob wd x').a4f J c'∧post r [Bn,.ob wd x']):=⟨hM.ok,fun w hm=>(hM.run w hm).mono (by
    rintro e w' ⟨v,J,L',rfl,q1,q2,q3,q4,q5,r,Hs,q6,q7,q8⟩
    obtain⟨Bn,x',rfl⟩:=hshape r Hs q8
    obtain⟨cn,R,rfl,q9,c',R2,rfl,q10,q11⟩:=q7
    have q11':R2 = []:=q11
    subst q11'
    have e:([cn++c']:Lh).flatten=([cn,c']:Lh).flatten:=by simp
    exact⟨v,J,[cn++c'],rfl,q1,q2,q3,⟨q4.im,by rw [e];exact q4.loc,by rw [e];exact q4.sep,by rw [e];exact q4.nodup⟩,by rw [e];exact q5,cn,c',r,Bn,x',rfl,q6,q9,q10,q8⟩)⟩
  intro a w0 ha hst
  refine(OpS.b7L (K:=fun v J L'=>∃ cn c' r Bn,∃ x':α,L'=L.set i (cn++c')∧Le I J∧E6 J r v∧Bn.a4f J cn∧(E3.ob wd x').a4f J c'∧post r [Bn,.ob wd x']∧(∀ p∈cn++c',C.w0.heap.size≤p.1∨p.1∈X.map Prod.fst)) i h3 a8 h1 hM2 ?_ ?_ a w0 ha hst).mono ?_
  · rintro v J c2 w hle ⟨cn,c',r,Bn,x',e,q6,q9,q10,q8⟩ hnew hsz
    obtain rfl:c2=cn++c':=by simpa using e
    exact⟨cn,c',r,Bn,x',a8,hle,q6,q9,q10,q8,fun p hp=>(hnew p hp).imp (fun h=>Nat.le_trans hsz h) id⟩
  · rintro v J L' ⟨cn,c',r,Bn,x',e,_⟩
    exact⟨_,e⟩
  · rintro v w' ⟨J,L',hst',cn,c',r,Bn,x',rfl,hle,q6,q9,q10,q8,hnew⟩
    have hi:i < L.length:=(List.getElem?_eq_some_iff.1 h3).1
    obtain⟨s1,s2⟩:=Z1 L i X h3 (cn++c')
    obtain⟨_,s3⟩:=Z1 L i X h3 c'
    have hperm:(cn::L.set i c').flatten.Perm (L.set i (cn++c')).flatten:=by
      rw [s2,List.flatten_cons,s3,List.append_assoc cn c']
      have e1:cn++((List.take i L).flatten++(c'++(List.drop (i+1) L).flatten))=(cn++(List.take i L).flatten)++(c'++(List.drop (i+1) L).flatten):=by simp
      have e2:(List.take i L).flatten++(cn++(c'++(List.drop (i+1) L).flatten))=((List.take i L).flatten++cn)++(c'++(List.drop (i+1) L).flatten):=by simp
      rw [e1,e2]
      exact List.Perm.append_right _ List.perm_append_comm
    have hst2:=b3M hst' hperm
    obtain⟨bw,T,cs,e1,e2,_⟩:=q10
    obtain⟨bw2,T2,cs2,e3,e4,_⟩:=h4.1
    have ebw:bw2=bw:=by rw [e1] at e3;simpa [ptr] using e3.symm
    have hfresh:∀ p∈cn,C.w0.heap.size≤p.1:=fun p hp=>by
      rcases hnew p (List.mem_append_left _ hp) with h|h
      · exact h
      · exfalso
        rw [e4] at h
        simp only [List.map_cons,List.map_nil,List.mem_singleton] at h
        have hnd:=hst2.mem.nodup
        rw [List.flatten_cons,s3,List.map_append,List.nodup_append] at hnd
        refine hnd.2.2 p.1 (List.mem_map_of_mem hp) p.1 ?_ rfl
        rw [h,ebw,e2];simp
    refine⟨J,cn::L.set i c',hst2,hle,r,(true,Bn)::F (b,.ob wd x'),q6,⟨cn,L.set i c',rfl,⟨q9,fun _ p hp=>hfresh p hp⟩,h5 J (b,.ob wd x') c' hle ⟨⟨bw,T,cs,e1,e2,by assumption⟩,fun hb p hp => ?_⟩⟩,k r Bn _ q8⟩
    rw [e2] at hp
    simp only [List.mem_singleton] at hp
    subst hp
    have:=h4.2 hb (bw2,row cs2 T2) (by rw [e4];simp)
    rw [←ebw];exact this
theorem F5.b8n {G:Gl} {P:Program} {f:FuncId} {ags:List AV} {E:TypeId} {α:Type} [r:o8 α] {l:List α} {b:AV} (h:F5 G P f ags [] (fun r Hs=>∃ u,r = .t2 (.raw u) b∧Hs = [.own E u l])):u1 G P f ags (fun r=>r = .t2 (.v l) b):=fun I vs hG hvs=>by
 have hM:=h I [] vs hG hvs rfl
 refine⟨hM.ok,fun w hm=>(hM.run w hm).mono ?_⟩
 rintro e w' ⟨v,J,L',rfl,q1,q2,q3,q4,q5,r,Hs',q6,q7,u,rfl,rfl⟩
 obtain⟨X,R,rfl,q8,q9⟩:=q7
 have q9':R = []:=q9
 subst q9'
 obtain⟨x,y,rfl,q6',q6b⟩:=q6
 have q6'':x=u:=q6'
 subst q6''
 have hle:Le J (J.with X):=Im.a1K fun p hp=>q4.sep p (by simpa using hp)
 refine⟨_,J.with X,rfl,by simpa using q1,q2.trans hle,fun b h0 h1 => ?_,(q4.freeze (i:=0) (c:=X) rfl).drop,.t2 (.v l) b,⟨x,y,rfl,W6 q8 hle (fun p hp=>Im.a1R (by simpa using q4.nodup) hp),q6b.mono hle⟩,rfl⟩
 cases hj:J.with X b with
 | none=>exact absurd hj h1
 | some o =>
  rcases Im.a0i hj with h2|h2
  ·rcases q5 (b,o) (by simpa using h2) with h3|h3
   ·exact h3
   ·cases h3
  ·exact q3 b h0 (by simp [h2])
def AV.b8o (P:Program) {α β γ δ:Type} [o8 α] [o8 β] [o8 γ] [o8 δ] (g:α→β→γ×δ):AV := .clo P (fun x:α×β => [.v x.1,.v x.2]) (fun x => .t2 (.v (g x.1 x.2).1) (.v (g x.1 x.2).2))
section clo
variable {C:Ctx} {σ:x9} {H:j7} {G:Gl} {f:FuncId} {args:Array Operand} {tys:Array TypeId}
theorem j6.b6t {α β γ δ : Type} [o8 α] [o8 β] [o8 γ] [o8 δ] {g2 : α → β → γ × δ} {x : α} {y : β} {t : Nat} {a b : Operand} (ht : F0 σ t = some (.b8o P g2)) (ha : E8 C σ H a (.v x)) (hb : E8 C σ H b (.v y)) (k : K (.t2 (.v (g2 x y).1) (.v (g2 x y).2))) :
    j6 P N C ⟨d,.call ⟨.value (.tmp t),#[a,b],tys⟩,ty,ps,af,g⟩ σ H K := .b5m (ags:=fun x:α×β => [.v x.1,.v x.2]) (r:=fun x => .t2 (.v (g2 x.1 x.2).1) (.v (g2 x.1 x.2).2)) (x,y) ht (.cons ha (.cons hb .nil)) k
theorem j6.c0n (hG : G.p C.I0) {α β γ δ : Type} [o8 α] [o8 β] [o8 γ] [o8 δ] {g2 : α → β → γ × δ} {caps : List AV} (h : ∀ x y, u1 G P f (.v x :: .v y :: caps) (fun r => r = .t2 (.v (g2 x y).1) (.v (g2 x y).2))) (hv : a2R C σ H args.toList caps) (k : K (.b8o P g2)) :
    j6 P N C ⟨d,.makeFunc (.func f) #[] args,ty,ps,af,g⟩ σ H K := .c1a hG (ags:=fun x:α×β => [.v x.1,.v x.2]) (r:=fun x => .t2 (.v (g2 x.1 x.2).1) (.v (g2 x.1 x.2).2)) (fun i=>h i.1 i.2) hv k
end clo
theorem j6.c0o {α : Type} {r : o8 α} {n : Nat} {l : List α} {A E : TypeId} (hA : P.underlying A = some (.array n E)) (hn : 0 < n) (hz : 0 < o8.size α) (hx : E8 C σ H x (.v l)) (h : l.length = n) (k : K (.p (⟨l, h⟩ : I7 n α))) :
    j6 P N C ⟨d,.sliceToArrayPointer A x,ty,ps,af,g⟩ σ H K :=
  .vk k (fun ρ I L hs=>by
    obtain⟨u,hu,xs,hsl,hl⟩:=hx.sl hs
    obtain⟨a,c,rfl,hlen,h3,h4,h5,h6⟩:=hsl
    have hne:xs ≠ []:=by
      intro e
      have:=hl.len
      rw [e,h] at this
      have h7:0 < n*o8.size α:=Nat.mul_pos hn hz
      simp at this;omega
    obtain⟨b,o,rfl,hc⟩:=h6 hne
    refine .mk ⟨b,o,xs,a8,hl,hc⟩ fun ac w ha hm => ?_
    have hle:¬l.length < n:=by omega
    simp [execOp,ha.ev hu,Instr.arrayAt,run_underlying hA,h])
theorem j6.b4b {m : UInt64} {n : Int} (hx : E8 C σ H x (.v m)) (hy : E8 C σ H y (.v n)) (h0 : 0 ≤ n) (h1 : n < 64) (k : K (.v (m >>> UInt64.ofNat n.toNat))) :
    j6 P N C ⟨d,.binOp .shr T x y T2,ty,ps,af,g⟩ σ H K :=
  .vk k (fun ρ I L hs=>H9.a9w n.toNat (hx.a1Y hs) (hy.int hs).1 (by omega) (by omega) ⟨_,rfl,rfl⟩)
end Go.Ab
namespace Go.Ab
open Go.Fl Go.RowKit Go.Shelf Go.Proofs
open o8 (rep)
end Go.Ab
namespace Go.Proofs.YtmmclghiidoldaaGreatDoor
open Go.Proofs.Tryz
open Go.Fl Go.Ab Go.Mac Go.Sha
theorem y1 (l:List Int):G9 (⟨l,0⟩:m6):=Int.le_refl 0
theorem a6r (w : Value) (d : m6) (lo hi : Int) (hd : G9 d) (h : lo ≤ hi) (h0 : -1000000000000000000 ≤ lo) (h1 : hi ≤ 1000000000000000000) :
    F5 gl prog 32 [dk w,.v lo,.v hi] [.ob w d] (fun r Hs=>∃ v:Int,∃ d',lo≤v∧v≤hi∧G9 d'∧r = .v v∧Hs = [.ob w d']):=by
  refine F5.Q6 func32 rfl (by kernel_rfl) 15 rfl rfl _ rfl _ rfl fun C hC hG => ?_
  refine .q 10 hG ?_
  refine .sb (by omega) (by omega) ?_
  refine .ad (by omega) (by omega) (.h (.C8 hG (G0 _ _ _ (by assumption) (by omega) (by omega)) .z (.cons (.t a8) (.cons (.t a8) .nil)) (by rintro _ _ ⟨_,_,_,_,_,_,rfl⟩;exact⟨_,rfl⟩) fun r13 B13 hr13 => ?_))
  obtain⟨v13,d13,h013,h113,hd13,rfl,hB⟩:=hr13
  cases hB
  refine .ad (by omega) (by omega) ?_
  refine .q 3 hG ?_
  refine .e1 a8 a8 ?_
  refine⟨_,.cons .z (.nil),?_⟩
  exact⟨_,_,by omega,by omega,by assumption,rfl,rfl⟩
theorem a9N (w:Value) (d:m6) (n:Int) (hd:G9 d) (h0:0≤n) (h1:n≤1000000):F5 gl prog 84 [dk w,.v n] [.ob w d] (fun r Hs=>∃ u,∃ l:List UInt8,(l.length:Int)≤n∧∃ d',G9 d'∧r = .raw u∧Hs = [.own 5 u l,.ob w d']):=by
 have hn0:=W4 (d:=d) (n:=n+1) (by omega)
 refine F5.Q6 func84 rfl (by kernel_rfl) 22 rfl rfl _ rfl _ rfl fun C hC hG => ?_
 refine .q 6 hG ?_
 refine .p (.assign .raw ?_)
 refine .q 3 hG ?_
 refine .a1e 5 UInt8 ?_
 refine .q 3 hG ?_
 refine .ad (by omega) (by omega) (.h (.C8 hG (a3i _ _ _ (by assumption) (by omega) (by omega)) .z1 (.cons (.t a8) (.cons (.t a8) .nil)) (by rintro _ _ ⟨_,rfl⟩;exact⟨_,rfl⟩) fun r10 B10 hr10 => ?_))
 obtain⟨rfl,hB⟩:=hr10
 cases hB
 refine .q 3 hG ?_
 refine .D9 (α:=Nat×Value×List UInt8×m6) [(0,_)] (fun x R=>(5,.raw x.2.1)::(6,.v (x.1:Int))::R) (fun x => [(true,.own 5 x.2.1 x.2.2.1),(false,.ob w x.2.2.2)]) (fun x=>(x.1:Int)+x.2.2.1.length≤n∧G9 x.2.2.2) (fun x=>x.1) (((P1 d (n+1)).1.toNat,.slice none 0 0,[],(P1 d (n+1)).2)) (.cons a8 (.nil _)) ?_ (.cons a8 (.cons (congrArg (fun q=>some (AV.v q)) (by dsimp only;omega)) (.cons a8 (.nil _)))) (a8) fun x hF => ?_
 ·exact⟨by dsimp only;simp;omega,R7 hd⟩
 obtain⟨k,v,b,e⟩:=x
 obtain⟨h2,h3⟩:=hF
 dsimp only at h2 h3 ⊢
 refine .q 7 hG ⟨fun hc12 => ?_,fun hc12 => ?_⟩
 ·refine .q 6 hG ?_
  refine .h (.C8 hG (a3i _ _ _ (by assumption) (by omega) (by omega)) .z1 (.cons (.t a8) (.cons (.i a8) .nil)) (by rintro _ _ ⟨_,rfl⟩;exact⟨_,rfl⟩) fun r17 B17 hr17 => ?_)
  obtain⟨rfl,hB⟩:=hr17
  cases hB
  refine .q 1 hG ?_
  refine .bs a8 (by decide) fun b19 => ?_
  refine .ap (by simp<;>omega) (by simp<;>omega) fun w20 => ?_
  refine .q 1 hG ?_
  refine .drop ?_
  refine .q 3 hG ?_
  refine .sb (by omega) (by omega) ?_
  refine .q 2 hG ?_
  refine⟨(k - 1,w20,_,_),.cons rfl (.cons (congrArg (fun q=>some (AV.v q)) (by dsimp only;omega)) (.cons rfl (.nil _))),rfl,?_,by dsimp only;omega⟩
  exact⟨by dsimp only;simp;omega,R7 h3⟩
 ·refine .q 7 hG ?_
  refine .e1 a8 a8 ?_
  refine⟨_,.cons .z (.cons .z1 (.nil)),?_⟩
  exact⟨_,_,by omega,_,h3,rfl,rfl⟩
theorem c15 (w:Value) (d:m6) (m:Int) (hd:G9 d) (h0:0≤m) (h1:m≤281474976710657):F5 gl prog 86 [dk w,.v m] [.ob w d] (fun r Hs=>∃ x:Int,0≤x∧x≤m∧∃ d',G9 d'∧r = .v x∧Hs = [.ob w d']):=by
 have hok1:=R7 (n:=4) hd
 have hn1:=W4 (d:=(P1 d 4).2) (n:=4) (by decide)
 have hn2:=W4 (d:=(P1 d 4).2) (n:=300) (by decide)
 have hn3:=W4 (d:=(P1 d 4).2) (n:=min 3 (m+1)) (by omega)
 have hn4:=W4 (d:=(P1 d 4).2) (n:=m+1) (by omega)
 refine F5.jn func86 (by kernel_rfl) 32 rfl fun C hC hG => ?_
 refine .q 8 hG ?_
 refine .h (.C8 hG (a3i _ _ _ (by assumption) (by omega) (by omega)) .z (.cons (.t a8) (.cons (.i a8) .nil)) (by rintro _ _ ⟨_,rfl⟩;exact⟨_,rfl⟩) fun r6 B6 hr6 => ?_)
 obtain⟨rfl,hB⟩:=hr6
 cases hB
 refine .q 8 hG ⟨fun hc7 => ?_,fun hc7 => ?_⟩
 ·refine .q 3 hG ?_
  refine .h (.C8 hG (a3i _ _ _ (by assumption) (by omega) (by omega)) .z (.cons (.t a8) (.cons (.i a8) .nil)) (by rintro _ _ ⟨_,rfl⟩;exact⟨_,rfl⟩) fun r10 B10 hr10 => ?_)
  obtain⟨rfl,hB⟩:=hr10
  cases hB
  refine .q 1 hG ?_
  refine .p (.b0h (.t a8) (.t a8) ?_)
  refine .q 3 hG ?_
  refine .e1 a8 a8 ?_
  refine⟨_,?_,?_,_,R7 hok1,a8,a8⟩<;>omega
 ·refine .q 6 hG ⟨fun hc13 => ?_,fun hc13 => ?_⟩
  ·refine .q 3 hG ?_
   refine .h (.C8 hG (a3i _ _ _ (by assumption) (by omega) (by omega)) .z (.cons (.t a8) (.cons (.i a8) .nil)) (by rintro _ _ ⟨_,rfl⟩;exact⟨_,rfl⟩) fun r16 B16 hr16 => ?_)
   obtain⟨rfl,hB⟩:=hr16
   cases hB
   refine .q 1 hG ?_
   refine .p (.b0h (.t a8) (.t a8) ?_)
   refine .q 3 hG ?_
   refine .e1 a8 a8 ?_
   refine⟨_,?_,?_,_,R7 hok1,a8,a8⟩<;>omega
  ·refine .q 6 hG ⟨fun hc19 => ?_,fun hc19 => ?_⟩
   ·refine .q 5 hG ?_
    refine .ad (by omega) (by omega) (.p (.b0h (.i a8) (.t a8) (.h (.C8 hG (a3i _ _ _ (by assumption) (by omega) (by omega)) .z (.cons (.t a8) (.cons (.t a8) .nil)) (by rintro _ _ ⟨_,rfl⟩;exact⟨_,rfl⟩) fun r26 B26 hr26 => ?_))))
    obtain⟨rfl,hB⟩:=hr26
    cases hB
    refine .sb (by omega) (by omega) ?_
    refine .q 3 hG ?_
    refine .e1 a8 a8 ?_
    refine⟨_,?_,?_,_,R7 hok1,a8,a8⟩<;>omega
   ·refine .q 5 hG ?_
    refine .ad (by omega) (by omega) (.h (.C8 hG (a3i _ _ _ (by assumption) (by omega) (by omega)) .z (.cons (.t a8) (.cons (.t a8) .nil)) (by rintro _ _ ⟨_,rfl⟩;exact⟨_,rfl⟩) fun r31 B31 hr31 => ?_))
    obtain⟨rfl,hB⟩:=hr31
    cases hB
    refine .q 3 hG ?_
    refine .e1 a8 a8 ?_
    refine⟨_,?_,?_,_,R7 hok1,a8,a8⟩<;>omega
theorem b2h (n:Int) (hn0:0≤n) (hn1:n≤281474976710656):F5 gl prog 214 [.v n] [] (fun r Hs=>∃ u,r = .raw u∧Hs = [.own 5 u (S1 (UInt64.ofInt n) 8)]):=by
 refine F5.a5H func214 rfl (by kernel_rfl) 17 rfl rfl _ rfl _ rfl fun C hC hG => ?_
 refine .q 2 hG ?_
 refine .p (.assign .raw ?_)
 refine .q 3 hG ?_
 refine .p (.assign .raw ?_)
 refine .q 3 hG ?_
 refine .a1e 5 UInt8 ?_
 refine .q 4 hG ?_
 refine .D9 (α:=Nat×Value) [(0,_)] (fun x R=>(3,.raw x.2)::(4,.v (56 - 8*(x.1:Int)))::R) (fun x => [(true,.own 5 x.2 (S1 (UInt64.ofInt n) x.1))]) (fun x=>x.1≤8) (fun x=>8 - x.1) ((0,.slice none 0 0)) (.cons a8 (.nil _)) ?_ (.c2 a8 a8 (.cons a8 (.nil _))) (a8) fun x hF => ?_
 ·simp
 obtain⟨j,w⟩:=x
 dsimp only at hF ⊢
 refine .q 7 hG ⟨fun hc6 => ?_,fun hc6 => ?_⟩
 ·refine .q 3 hG ?_
  have hbe:=E1 (UInt64.ofInt n) j
  refine .q 4 hG ?_
  refine .p (.c3Z (.t a8) (.t a8) (by omega) (by omega) ?_)
  refine .q 1 hG ?_
  refine .bs a8 (by decide) fun b14 => ?_
  refine .ap (by simp<;>omega) (by simp<;>omega) fun w15 => ?_
  refine .q 1 hG ?_
  refine .drop ?_
  refine .q 3 hG ?_
  refine .sb (by omega) (by omega) ?_
  refine .q 2 hG ?_
  refine⟨(j+1,w15),.cons rfl (.cons (congrArg (fun q=>some (AV.v q)) (by dsimp only;omega)) (.cons rfl (.nil _))),congrArg (fun q => [(true,E3.own _ _ q)]) (by dsimp only;rw [a1z,←b6p n hn0 (by omega) _ (by omega),show(56 - 8*(j:Int)).toNat=56 - 8*j by omega]),?_,by dsimp only;omega⟩
  dsimp only;omega
 ·refine .q 7 hG ?_
  refine .e1 a8 a8 ?_
  obtain rfl:j=8:=by omega
  exact⟨0,_,a8,a8⟩
theorem b4c (key:Tag) (b:List UInt8) (hb:b.length≤900000):u1 gl prog 163 [.v key,.v b] (fun r=>r = .v (a0m key.l (a3k.l++b))):=by
 refine u1.jn func163 (by kernel_rfl) 11 rfl fun C hC hG => ?_
 refine .q 3 hG fun b2 => ?_
 refine .q 1 hG fun b4 => ?_
 refine .q 2 hG ?_
 refine .A0 hC .z1 (.M1 2 a8 .z1 (.a7n (by kernel_rfl) 6 [[],[],[(6,1)],[],[(7,2),(8,3)],[(5,0),(9,4)]] [1,2,4,5] a8 (by kernel_rfl) a8 (by kernel_rfl) (by decide) ?_))
 refine⟨_,fun H=>j6.P0 (by decide) M0 (.t a8) a8,?_⟩
 refine .inl (.inl ?_)
 refine⟨_,fun H=>j6.move (.t a8) a8,?_⟩
 refine .inl (.inl ?_)
 refine A6.buildSlice (α:=UInt8) ty5 underlying86 (.cons (.u8 98 rfl) (.cons (.u8 111 rfl) (.cons (.u8 120 rfl) .nil))) rfl (by decide) fun b6 => ?_
 refine A6.same underlying86 underlying5 rfl .z (by simp) ?_
 refine A6.append P5 (.inl ⟨_,underlying86⟩) rfl .z (.v (.t rfl)) (by simp<;>omega) (by simp<;>omega) (fun w9 => ?_) rfl
 refine A6.u0 hC .z (A6.as 9 rfl .z (A6.ofP (j6.o7 hG (a8E _ _ (by simp) (by simp<;>omega)) (.cons (.t rfl) (.cons (.t rfl) .nil)) ?_)))
 show D5 _ _ _ _ _ [_] ((10,_)::(9,_)::(8,_)::(7,_)::(6,_)::(5,_)::_) _
 refine .q 3 hG ?_
 refine⟨_,.r1 a8 (.cell y6 a8 .z1),?_⟩
 rfl
theorem b4d (b:List UInt8) (hb:b.length≤1000000):F5 gl prog 162 [.v b] [] (fun r Hs=>∃ u,r = .raw u∧Hs = [.own 5 u b]):=by
 refine F5.Q6 func162 rfl (by kernel_rfl) 8 rfl rfl _ rfl _ rfl fun C hC hG => ?_
 refine .q 2 hG ?_
 refine .p (.assign .raw ?_)
 refine .q 5 hG ?_
 refine .p (.b3K underlying86 (.t a8) fun c4 hn4 => ?_)
 refine .q 1 hG ?_
 refine .cond (.t a8) (fun hc4 => ?_) (fun hc4 => ?_)
 ·refine .q 2 hG ?_
  refine .p (.assign .raw ?_)
  refine .q 1 hG ?_
  refine .a1e 5 UInt8 ?_
  refine .q 1 hG ?_
  refine .e1 a8 a8 ?_
  refine⟨_,.cons .z (.nil),?_⟩
  rw [hn4 hc4];exact⟨_,rfl,rfl⟩
 ·refine .q 3 hG ?_
  refine .h (.buildSlice (α:=UInt8) ty5 underlying86 .nil a8 (by decide) fun b5 => ?_)
  refine .q 1 hG ?_
  refine .ap (by simp<;>omega) (by simp<;>omega) fun w7 => ?_
  refine .q 3 hG ?_
  refine .e1 a8 a8 ?_
  refine⟨_,.cons .z (.nil),?_⟩
  rw [List.nil_append];exact⟨w7,rfl,rfl⟩
def a2i (f:Nat→UInt8) (b:List UInt8) (k:Nat):List UInt8:=(b.take k).mapIdx (fun i c=>c ^^^ f i)++b.drop k
theorem a4H (f:Nat→UInt8) (b:List UInt8) (k:Nat):(a2i f b k).length=b.length:=by simp [a2i];omega
theorem b0U (f:Nat→UInt8) (b:List UInt8) {k:Nat} (h:b.length≤k):a2i f b k=a2i f b b.length:=by simp [a2i,List.take_of_length_le h,List.drop_of_length_le h]
theorem b8p (f:Nat→UInt8) (b:List UInt8) (k:Nat) (hk:k < b.length) (h:k < (a2i f b k).length):(a2i f b k)[k]=b[k]:=by
 simp only [a2i]
 rw [List.getElem_append_right (by simp<;>omega)]
 simp
 congr 1;omega
theorem b6u (f:Nat→UInt8) (b:List UInt8) (k:Nat) (hk:k < b.length):(a2i f b k).set k (b[k] ^^^ f k)=a2i f b (k+1):=by
 apply List.ext_getElem (by simp [a4H])
 intro j h1 h2
 rw [List.getElem_set]
 simp only [a2i]
 by_cases e:k=j
 ·subst e
  rw [if_pos rfl,List.getElem_append_left (by simp<;>omega)]
  simp
 ·rw [if_neg e]
  rcases Nat.lt_or_ge j k with h|h
  ·rw [List.getElem_append_left (by simp<;>omega),List.getElem_append_left (by simp<;>omega)]
   simp
  ·rw [List.getElem_append_right (by simp<;>omega),List.getElem_append_right (by simp<;>omega)]
   simp
   congr 1;omega
theorem b6v (f:Nat→UInt8) (b:List UInt8) (k x:Nat) (h:x=32∨(b.length≤32*k+x∧x≤32)):a2i f b (32*k+x)=a2i f b (32*(k+1)):=by
 rcases h with rfl|⟨h,h2⟩
 ·rfl
 ·rw [b0U _ _ h,b0U _ _ (show b.length≤32*(k+1) by omega)]
def a2j (key:Tag) (nb:List UInt8) (k:Nat):Tag:=a0m key.l (a48.l++nb++S1 (UInt64.ofInt (k:Int)) 8)
def a3E (key:Tag) (nb:List UInt8) (i:Nat):UInt8:=(a2j key nb (i/32)).l.getD (i % 32) 0
theorem b8q (key : Tag) (nb b : List UInt8) (k x : Nat) (hx : x < 32) (hk : 32 * k + x < b.length) (h1 : ((k : Int) * 32 + (x : Int)).toNat < (a2i (a3E key nb) b (32 * k + x)).length) (h2 : ((k : Int) * 32 + (x : Int) - (k : Int) * 32).toNat < 32) :
    (a2i (a3E key nb) b (32*k+x)).set ((k:Int)*32+(x:Int)).toNat ((a2i (a3E key nb) b (32*k+x))[((k:Int)*32+(x:Int)).toNat] ^^^ (m0.idx ((k:Int)*32+(x:Int) - (k:Int)*32).toNat h2).get (a2j key nb k))=a2i (a3E key nb) b (32*k+(x+1)):=by
  have e0:((k:Int)*32+(x:Int)).toNat=32*k+x:=by omega
  have e4:((k:Int)*32+(x:Int) - (k:Int)*32).toNat=x:=by omega
  rw [show 32*k+(x+1)=32*k+x+1 by omega,←b6u _ b _ hk]
  have e3:(m0.idx ((k:Int)*32+(x:Int) - (k:Int)*32).toNat h2).get (a2j key nb k)=a3E key nb (32*k+x):=by
    show(a2j key nb k).l[((k:Int)*32+(x:Int) - (k:Int)*32).toNat]'_=_
    unfold a3E
    have h5:(32*k+x)/32=k:=by omega
    have h6:(32*k+x) % 32=x:=by omega
    have h4:x < (a2j key nb k).l.length:=by rw [I7.len];omega
    simp only [e4,h5,h6]
    rw [List.getD_eq_getElem?_getD,List.getElem?_eq_getElem h4];rfl
  simp only [e3,e0]
  rw [b8p (a3E key nb) b _ hk]
theorem b2i (key:Tag) (nb:List UInt8):u1 gl prog 202 [.v key,.v nb] (fun r=>r = .cap 213 [.p nb,.p key]):=by
 refine u1.jn func202 (by kernel_rfl) 6 rfl fun C hC hG => ?_
 refine .q 3 hG fun b2 => ?_
 refine .q 1 hG fun b3 => ?_
 refine .p (.assign .raw ?_)
 refine .q 2 hG ?_
 refine .A0 hC .z (.M1 3 a8 .z (.A0 hC .z1 (.M1 2 a8 .z1 ?_)))
 refine .q 1 hG ?_
 refine .p (.c26 (.cons (.t a8) (.cons (.t a8) .nil)) ?_)
 refine .q 3 hG ?_
 refine .e1 a8 a8 ?_
 rfl
theorem b4e (key:Tag) (nb:List UInt8) (hn:nb.length≤900000) (bound:Nat) (hb:bound≤1000000):c1f gl prog 213 [.p nb,.p key] (fun k => [.v ((k:Int)*32),.v (a2j key nb k)]) bound:=by
 refine⟨⟨_,func213,by kernel_rfl,rfl⟩,fun I0 l it hy => ?_⟩
 refine F5.Q6 func213 rfl (by kernel_rfl) 23 rfl rfl _ rfl _ rfl fun C hC hG' => ?_
 obtain⟨hG,hI⟩:=hG'
 refine .q 5 hG ?_
 refine .D9 (α:=Nat) [(0,_),(1,_),(2,_)] (fun k R=>(4,.v (k:Int))::R) (fun k => [(false,itB it (some k))]) (fun k=>k≤bound) (fun k=>bound - k) (0) (.c2 a8 a8 (.cons a8 (.nil _))) ?_ (.c2 a8 a8 (.c2 a8 a8 (.nil _))) (a8) fun k hF => ?_
 ·simp
 refine .q 3 hG ?_
 have hb2:=E1 (UInt64.ofInt (k:Int)) 8
 refine .q 1 hG ?_
 refine .bs a8 (by decide) fun b8 => .h (.same underlying86 underlying5 a8 .z (by simp) ?_)
 refine .q 1 hG ?_
 refine .ap (by simp<;>omega) (by simp<;>omega) fun w11 => ?_
 refine .q 1 hG ?_
 refine .h (.a1c hG (b2h _ (by omega) (by omega)) (.cons (.t a8) .nil) fun r13 Hs13 hr13 => ?_)
 obtain⟨u13,rfl,rfl⟩:=hr13
 show D5 _ _ _ _ _ _ _ ((true,_)::_)
 refine .h (.append P5 (.inl ⟨_,underlying86⟩) a8 .z1 (.own a8 .z) (by simp<;>omega) (by simp<;>omega) (fun w14 => .ag a8 ?_) a8)
 refine .q 2 hG ?_
 refine .u0 hC .z1 (.as 5 a8 .z1 ?_)
 refine .q 3 hG ?_
 refine .p (.mul (.t a8) (.i a8) (by omega) (by omega) (.p (.P0 (by decide) M0 (.t a8) ?_)))
 refine .q 1 hG ?_
 refine .p (.o7 hG (a8E _ _ (by simp) (by simp<;>omega)) (.cons (.t a8) (.cons (.t a8) .nil)) (.h (.b3P hI (hy k hF) a8 .z2 (.cons (.t a8) (.cons (.t a8) .nil)) fun r21 B21 hr21 => ?_)))
 obtain⟨c21,rfl,rfl,hk21⟩:=hr21
 refine .q 1 hG ?_
 refine .drop (.drop ?_)
 refine .q 1 hG ?_
 refine .cond (.t a8) (fun hc22 => ?_) (fun hc22 => ?_)
 ·refine .q 1 hG ?_
  refine⟨_,.r0 a8,?_⟩
  refine⟨_,.cons .z (.nil),?_⟩
  have e:c21=false:=by simpa using hc22
  subst e
  rfl
 ·refine .q 3 hG ?_
  refine .ad (by omega) (by omega) ?_
  refine .q 2 hG ?_
  refine⟨k+1,.c2 rfl rfl (.c2 rfl rfl (.nil _)),congrArg (fun q => [(false,itB it q)]) (by rw [show c21=true by simpa using hc22];rfl),?_,by have:=hk21 (by simpa using hc22);omega⟩
  exact hk21 (by simpa using hc22)
theorem a9O:G7 prog 86 V5 := .ok (by kernel_rfl)
theorem c0p (key:Tag) (nb b:List UInt8) (hn:nb.length≤900000) (hb:b.length≤1000000):F5 gl prog 165 [.v key,.v nb,.v b] [] (fun r Hs=>∃ u,r = .raw u∧Hs = [.own 5 u (a2i (a3E key nb) b b.length)]):=by
 refine F5.c0c func165 rfl (by kernel_rfl) 47 rfl rfl _ rfl _ rfl fun C hC hrd hG=>(.c1V (.region rfl (.h (.box (.t rfl) fun b3 => .p (.assign (.b3E (α:=UInt8)) (.nil (.c1V (.A0 hC .z (.M1 3 rfl .z (.region rfl (.p (.move (.t rfl) (.h (.a1c hG (b4d _ (by omega)) (.cons (.t rfl) .nil) fun r12 Hs12 hr12 => ?_))))))))))))))
 obtain⟨u12,rfl,rfl⟩:=hr12
 show D5 _ _ _ _ _ _ _ ((true,_)::_)
 refine .h (.alloc a9O fun b7 => .n (.O5 a9O (.t a8) (.b3S a8 (.s .z)) .z (.nil (.c4c (.c1V (.region a8 (.p (.G2 y6 (.t a8) (.p (.move (.t a8) (.p (.o7 hG (b2i _ _) (.cons (.t a8) (.cons (.t a8) .nil)) (.nil (.block (.range (vs:=fun k => [.v ((k:Int)*32),.v (a2j key nb k)]) (bound:=(b.length+31)/32) (fun k => [.ob (ptr b7 0) (V5.mk u12),.own 5 u12 (a2i (a3E key nb) b (32*k))]) [.ob (ptr b7 0) (V5.mk u12),.own 5 u12 (a2i (a3E key nb) b b.length)] 0 hrd hG a8 (b4e key nb hn _ (by omega)) (by decide) (fun _=>a8) (.cons .z (.cons (.s .z) .nil)) a8 (fun k hk C hC hG => ?_) ?_)))))))))))))))
 ·show I9 _ _ _ _ _ ((17,_)::(16,_)::_) [(false,_),(false,_),(false,.none_)]
  have hl5:=a4H (a3E key nb) b (32*k)
  refine .seq (.region a8 (.p (.assign (.t a8) (.nil (.region a8 (.h (.alloc y6 fun b9 => .n (.O5 y6 (.t a8) (.t a8) .z (.nil ?_)))))))))
  refine⟨a8,fun C hC hG => ?_⟩
  show I9 _ _ _ _ _ _ [(false,_),(false,_),(false,_),(false,.none_)]
  refine .block (.seq (.seq (.region a8 (.p (.move (.t a8) (.p (.ldR (fun x=>x) a9O (.t a8) (.s .z) (fun _=>a8) (.p (.a3S underlying86 a8 (.s (.s .z)) (.p (.geq (.t a8) (.t a8) (.nil (.M3 (.t a8) (fun hc21 => ?_) (fun hc21 => ?_))))))))))))))
  ·refine .exit ?_
   have e:=b0U (a3E key nb) b (k:=32*k) (by omega)
   rw [e]
   refine .inr ⟨a8,?_⟩
   exact(.cons (.s .z) (.cons (.s (.s .z)) .nil))
  ·refine .skip (.seq (.region a8 (.p (.move (.t a8) (.p (.assign (.t a8) (.nil (.block (.D9 (α:=Nat) [(7,_),(8,_),(9,_)] (fun x R=>(10,.v ((k:Int)*32+(x:Int)))::R) (fun x => [(false,.ob (ptr b9 0) (a2j key nb k)),(false,.ob (ptr b7 0) (V5.mk u12)),(false,.own 5 u12 (a2i (a3E key nb) b (32*k+x))),(false,.none_)]) (fun x=>x≤32∧32*k+x≤b.length) (fun x=>b.length - (32*k+x)) (0) (.cons a8 (.cons a8 (.cons a8 (.nil _)))) ?_ (.cons a8 (.cons a8 (.cons a8 (.cons a8 (.nil _))))) (a8) fun x hF => ?_)))))))))
   ·exact⟨by omega,by omega⟩
   obtain⟨hx1,hx2⟩:=hF
   have hl7:=a4H (a3E key nb) b (32*k+x)
   refine .seq (.seq (.region a8 (.p (.move (.t a8) (.p (.ldR (fun x=>x) a9O (.t a8) (.s .z) (fun _=>a8) (.p (.a3S underlying86 a8 (.s (.s .z)) (.p (.lss (.t a8) (.t a8) (.p (.move (.t a8) (.go 27 a8 (.t a8) (fun hg28 => .move (.t a8) a8) (.go 27 a8 (.t a8) (fun hg29 => .move (.t a8) a8) (.go 27 a8 (.t a8) (fun hg30 => .add (.o a8 (beq_iff_eq.2 hg30)) (.i a8) (by first|omega|(simp;omega)|(have:=hg30;simp at this;omega)) (by first|omega|(simp;omega)|(have:=hg30;simp at this;omega)) a8) (.go 27 a8 (.t a8) (fun hg31 => .lss (.o a8 (beq_iff_eq.2 hg31)) (.o a8 (beq_iff_eq.2 hg31)) a8) (.p (.S3 (.t a8) (fun hp=>(.o a8 (beq_iff_eq.2 hp))) (.nil (.cond (.t a8) (fun hc32 => ?_) (fun hc32 => ?_)))))))))))))))))))))
   ·refine .skip (.seq (.block (.draw (by kernel_rfl) 11 [[],[],[(35,0),(36,1)],[(37,2)],[],[],[(39,4),(40,5)],[(41,6)],[(42,7)],[(38,3),(43,8)],[(35,0),(36,1)]] a8 (by kernel_rfl) a8 ?_)))
    refine⟨_,j6.ldR (fun x=>x) a9O (.t a8) (.s .z) (fun _=>a8) a8,?_⟩
    refine⟨_,j6.move (.t a8) a8,?_⟩
    refine⟨_,j6.W7 ty5 underlying86 a8 (.s (.s .z)) (.t a8) (by omega) (by simp at * <;> omega) a8,?_⟩
    refine⟨_,j6.b3H ty5 (.t a8) (.s (.s .z)) (by simp at * <;> omega) a8,?_⟩
    refine⟨_,j6.move (.t a8) a8,?_⟩
    refine⟨_,j6.move (.t a8) a8,?_⟩
    refine⟨_,j6.sub (.t a8) (.t a8) (by omega) (by omega) a8,?_⟩
    refine⟨_,j6.c1P M0 (.t a8) (.t a8) (by omega) (by simp at * <;> omega) a8,?_⟩
    refine⟨_,j6.ldL ty5 (.t a8) .z a8,?_⟩
    refine⟨_,j6.b3f (.t a8) (.t a8) a8,?_⟩
    refine⟨_,j6.W7 ty5 underlying86 a8 (.s (.s .z)) (.t a8) (by omega) (by simp at * <;> omega) a8,?_⟩
    show D5 _ _ _ _ _ _ ((45,_)::(44,_)::(43,_)::(42,_)::(41,_)::(40,_)::(39,_)::(38,_)::(37,_)::(36,_)::(35,_)::_) _
    refine .n (.b0E ty5 (.t a8) (.t a8) (.s (.s .z)) (by simp at * <;> omega) ?_)
    refine .nil (.region a8 (.p (.move (.t a8) (.p (.add (.t a8) (.i a8) (by omega) (by omega) (.p (.assign (.t a8) (.nil ?_))))))))
    refine⟨x+1,.cons rfl (.cons rfl (.cons rfl (.cons rfl (.nil _)))),congrArg (fun q => [_,_,(false,E3.own _ _ q),_]) (b8q key nb b k x (by simp at hc32;omega) (by simp at hc32;omega) _ _),?_,by simp at hc32;omega⟩
    simp at hc32;exact⟨by omega,by omega⟩
   ·refine .exit ?_
    have e:=b6v (a3E key nb) b k x (by simp at hc32;omega)
    rw [e]
    refine .inl ⟨rfl,by omega,?_⟩
    exact(.cons (.s .z) (.cons (.s (.s .z)) .nil))
 ·show wpF _ _ _ _ _ _ [(true,_),(true,_),(false,.none_)]
  refine .seq (.region a8 (.p (.ldR (fun x=>x) a9O (.t a8) .z (fun _=>a8) (.p (.assign (.t a8) (.nil (.ret ?_)))))))
  refine⟨_,.r1 a8 (.tmp a8),?_⟩
  refine⟨_,.cons (.s .z) (.nil),?_⟩
  exact⟨u12,a8,a8⟩
theorem b4f (k:Tag) (G1:UInt64) (i:Nat):a3E k (S1 G1 8) i=a0b k G1 i:=by
 unfold a3E a0b a2j a6q
 have e:UInt64.ofInt ((i/32:Nat):Int)=UInt64.ofNat (i/32):=by
  apply UInt64.toNat_inj.1
  simp [UInt64.ofInt];omega
 rw [List.append_assoc,e]
theorem a7r (k:Tag) (G1:UInt64) (p:List UInt8) (m:Nat):a2i (a3E k (S1 G1 8)) p m=K7 k G1 p m:=by
 unfold a2i K7
 rw [show a3E k (S1 G1 8)=a0b k G1 from funext fun i=>b4f k G1 i]
theorem a2K (k:Tag) (n:Int) (p:List UInt8):(Y8 k n p).length=p.length+40:=by
 simp [Y8,V8,E1,P3,(a0m k.l _).len];omega
def J0 (n:Nat):List UInt8:=if n < 128 then [UInt8.ofNat n] else UInt8.ofNat (n % 128+128)::J0 (n/128)
termination_by n
theorem a2k {n:Nat} (h:n < 128):J0 n = [UInt8.ofNat n]:=by rw [J0,if_pos h]
theorem a3Y {n:Nat} (h:¬n < 128):J0 n=UInt8.ofNat (n % 128+128)::J0 (n/128):=by rw [J0,if_neg h]
theorem a4I (k n:Nat) (h:n < 128^(k+1)):(J0 n).length≤k+1:=by
 induction k generalizing n with
 | zero=>rw [a2k (by simpa using h)];simp
 | succ k ih =>
  by_cases h1:n < 128
  ·rw [a2k h1];simp
  ·rw [a3Y h1,List.length_cons]
   have:=ih (n/128) (by rw [Nat.pow_succ] at h;omega)
   omega
theorem B3 {n:Nat} (h:n≤281474976710656):(J0 n).length≤7:=a4I 6 n (by omega)
theorem b8r (n:Nat):0 < (J0 n).length:=by
 rw [J0];split<;>simp
theorem b8s (n:Nat):n &&& 127=n % 128:=Nat.and_two_pow_sub_one_eq_mod n 7
theorem c3k {n:Nat} (h:n < 128):n ||| 128=n+128:=by
 have:=Nat.two_pow_add_eq_or_of_lt (i:=7) (b:=n) (by simpa using h) 1
 rw [Nat.or_comm];simpa [Nat.add_comm] using this.symm
theorem a3Z (n:Nat):UInt8.ofInt (n:Int)=UInt8.ofNat n:=by apply UInt8.toNat_inj.1;simp [UInt8.ofInt];omega
def b4g (n:Int):Bool:=decide (n < 0)||decide (281474976710656 < n)
theorem b0V {n:Int} (h0:0≤n) (h1:n≤281474976710656):b4g n=false:=by unfold b4g;simp;omega
theorem a2Z (n:Int) (h0:0≤n) (h1:n≤281474976710656):F5 gl prog 131 [.v n] [] (fun r Hs=>∃ u,r = .raw u∧Hs = [.own 5 u (J0 n.toNat)]):=by
 have hlen:=B3 (n:=n.toNat) (by omega)
 refine F5.a5H func131 rfl (by kernel_rfl) 20 rfl rfl _ rfl _ rfl fun C hC hG => ?_
 refine .q 2 hG ?_
 refine .p (.assign .raw ?_)
 refine .q 3 hG ?_
 refine .p (.assign .raw (.a1e 5 UInt8 ?_))
 refine .q 3 hG ?_
 refine .D9 (α:=Nat×Value×List UInt8) [] (fun x R=>(0,.v (x.1:Int))::(3,.raw x.2.1)::R) (fun x => [(true,.own 5 x.2.1 x.2.2)]) (fun x=>x.2.2++J0 x.1=J0 n.toNat) (fun x=>x.1) ((n.toNat,.slice none 0 0,[])) (.nil _) ?_ (.cons (congrArg (fun q=>some (AV.v q)) (by dsimp only;omega)) (.cons a8 (.nil _))) (a8) fun x hF => ?_
 ·rfl
 obtain⟨k,w,l⟩:=x
 dsimp only at hF ⊢
 have hl9:=congrArg List.length hF
 rw [List.length_append] at hl9
 refine .q 7 hG ⟨fun hc5 => ?_,fun hc5 => ?_⟩
 ·refine .q 6 hG ?_
  refine .p (.rem (.t a8) (.i a8) (by omega) (by omega) ?_)
  refine .ad (by omega) (by omega) ?_
  refine .q 1 hG ?_
  refine .bs a8 (by decide) fun b11 => ?_
  refine .ap (by simp<;>omega) (by simp<;>omega) fun w12 => ?_
  refine .q 1 hG ?_
  refine .drop ?_
  refine .q 3 hG ?_
  refine .p (.quo (.t a8) (.i a8) (by omega) (by omega) ?_)
  refine .q 2 hG ?_
  refine⟨(k/128,w12,_),.cons (congrArg (fun q=>some (AV.v q)) (by dsimp only;omega)) (.cons rfl (.nil _)),rfl,?_,by dsimp only;omega⟩
  dsimp only;rw [←hF,a3Y (n:=k) (by omega),List.append_assoc,show((k:Int) % 128+128)=((k % 128+128:Nat):Int) by omega,a3Z];rfl
 ·refine .q 6 hG ?_
  refine .bs a8 (by decide) fun b18 => ?_
  refine .ap (by simp<;>omega) (by simp<;>omega) fun w19 => ?_
  refine .q 3 hG ?_
  refine .e1 a8 a8 ?_
  exact⟨1,_,rfl,by rw [←hF,a2k (n:=k) (by omega),←a3Z];rfl⟩
theorem F4 (n:Int) (h0:0≤n) (h1:n≤281474976710656):u1 gl prog 131 [.v n] (fun r=>r = .v (J0 n.toNat)):=(a2Z n h0 h1).b0I
theorem a8H (b:List UInt8) (hb:b.length≤1000000):F5 gl prog 193 [.v b] [] (fun r Hs=>∃ u,r = .raw u∧Hs = [.own 5 u b]):=by
 refine F5.Q6 func193 rfl (by kernel_rfl) 8 rfl rfl _ rfl _ rfl fun C hC hG => ?_
 refine .q 2 hG ?_
 refine .p (.assign .raw ?_)
 refine .q 5 hG ?_
 refine .p (.b3K underlying86 (.t a8) fun c4 hn4 => ?_)
 refine .q 1 hG ?_
 refine .cond (.t a8) (fun hc4 => ?_) (fun hc4 => ?_)
 ·refine .q 2 hG ?_
  refine .p (.assign .raw ?_)
  refine .q 1 hG ?_
  refine .a1e 5 UInt8 ?_
  refine .q 1 hG ?_
  refine .e1 a8 a8 ?_
  refine⟨_,.cons .z (.nil),?_⟩
  rw [hn4 hc4];exact⟨_,rfl,rfl⟩
 ·refine .q 3 hG ?_
  refine .h (.buildSlice (α:=UInt8) ty5 underlying86 .nil a8 (by decide) fun b5 => ?_)
  refine .q 1 hG ?_
  refine .ap (by simp<;>omega) (by simp<;>omega) fun w7 => ?_
  refine .q 3 hG ?_
  refine .e1 a8 a8 ?_
  refine⟨_,.cons .z (.nil),?_⟩
  rw [List.nil_append];exact⟨w7,rfl,rfl⟩
theorem c4o (k:Nat):((k:Int) >>> (7:Nat))=((k/128:Nat):Int):=by rw [Int.shiftRight_eq_div_pow];rfl
theorem a1D (b:List UInt8) (n:Int) (hb:b.length≤900000) (h0:0≤n) (h1:n≤281474976710656):F5 gl prog 158 [.v b,.v n] [] (fun r Hs=>∃ u,r = .t2 (.raw u) (.v (0:Int))∧Hs = [.own 5 u (b++J0 n.toNat)]):=by
 have hlen:=B3 (n:=n.toNat) (by omega)
 refine F5.a5H func158 rfl (by kernel_rfl) 31 rfl rfl _ rfl _ rfl fun C hC hG => ?_
 refine .q 2 hG ?_
 refine .p (.assign .raw ?_)
 refine .q 12 hG ?_
 refine .cond (.t a8) (fun hc12=>(by exfalso;have hbad:=b0V h0 h1;unfold b4g at hbad;rw [hbad] at hc12;cases hc12)) (fun hc12 => ?_)
 refine .q 4 hG ?_
 refine .h (.a1c hG (a8H _ (by omega)) (.cons (.t a8) .nil) fun r14 Hs14 hr14 => ?_)
 obtain⟨u14,rfl,rfl⟩:=hr14
 show D5 _ _ _ _ _ _ _ ((true,_)::_)
 refine .q 4 hG ?_
 refine .D9 (α:=Nat×Value×List UInt8) [] (fun x R=>(1,.v (x.1:Int))::(6,.raw x.2.1)::R) (fun x => [(true,.own 5 x.2.1 x.2.2)]) (fun x=>x.2.2++J0 x.1=b++J0 n.toNat) (fun x=>x.1) ((n.toNat,u14,b)) (.nil _) ?_ (.cons (congrArg (fun q=>some (AV.v q)) (by dsimp only;omega)) (.cons a8 (.nil _))) (a8) fun x hF => ?_
 ·rfl
 obtain⟨k,w,l⟩:=x
 dsimp only at hF ⊢
 have hl9:=congrArg List.length hF
 rw [List.length_append,List.length_append] at hl9
 have hk9:=b8r k
 refine .q 7 hG ⟨fun hc16 => ?_,fun hc16 => ?_⟩
 ·refine .q 3 hG ?_
  have hb6:=b8s k;have hc6:k % 128 < 128:=Nat.mod_lt _ (by decide)
  refine .q 3 hG ?_
  refine .p (.c4n (.t a8) (.i a8) (by omega) (by omega) (.p (.orI (.t a8) (.i a8) (by omega) (by omega) ?_)))
  refine .q 1 hG ?_
  refine .bs a8 (by decide) fun b24 => ?_
  refine .ap (by simp<;>omega) (by simp<;>omega) fun w25 => ?_
  refine .q 1 hG ?_
  refine .drop ?_
  refine .q 3 hG ?_
  refine .p (.c3j (.t a8) (.u64 7 a8) (by decide) ?_)
  refine .q 2 hG ?_
  refine⟨(k/128,w25,_),.cons (congrArg (fun q=>some (AV.v q)) (c4o k)) (.cons rfl (.nil _)),rfl,?_,by dsimp only;omega⟩
  dsimp only;rw [←hF,a3Y (n:=k) (by omega),List.append_assoc];show l++([UInt8.ofInt (((k &&& 127) ||| 128:Nat):Int)]++J0 (k/128))=_;rw [b8s,c3k (Nat.mod_lt _ (by decide)),a3Z];rfl
 ·refine .q 6 hG ?_
  refine .bs a8 (by decide) fun b29 => ?_
  refine .ap (by simp<;>omega) (by simp<;>omega) fun w30 => ?_
  refine .q 4 hG ?_
  refine .e2 a8 a8 a8 ?_
  exact⟨1,_,rfl,by rw [←hF,a2k (n:=k) (by omega),←a3Z];rfl⟩
theorem a9P (b x:List UInt8) (hb:b.length≤800000) (hx:x.length≤1024):F5 gl prog 156 [.v b,.v x] [] (fun r Hs=>∃ u,r = .t2 (.raw u) (.v (0:Int))∧Hs = [.own 5 u (b++J0 x.length++x)]):=by
 have hlen:=B3 (n:=x.length) (by omega)
 refine F5.Q6 func156 rfl (by kernel_rfl) 22 rfl rfl _ rfl _ rfl fun C hC hG => ?_
 refine .q 12 hG ?_
 refine .M3 (.t a8) (fun hc10=>(by exfalso;omega)) (fun hc10 => ?_)
 refine .q 6 hG ?_
 refine .h (.a1c hG (a1D _ _ (by omega) (by omega) (by omega)) (.cons (.t a8) (.cons (.t a8) .nil)) fun r15 Hs15 hr15 => ?_)
 obtain⟨u15,rfl,rfl⟩:=hr15
 show D5 _ _ _ _ _ _ _ ((true,_)::_)
 refine .q 10 hG ?_
 refine .ap (by simp<;>omega) (by simp<;>omega) fun w20 => ?_
 refine .q 5 hG ?_
 refine .e2 a8 a8 a8 ?_
 refine⟨_,.cons .z (.nil),?_⟩
 exact⟨_,a8,a8⟩
theorem b0W (b x:List UInt8) (hb:b.length≤800000) (hx:x.length≤1024):u1 gl prog 156 [.v b,.v x] (fun r=>r = .t2 (.v (b++J0 x.length++x)) (.v (0:Int))):=(a9P b x hb hx).b8n
theorem b4h (x:List UInt8) (hx:x.length≤1000000):F5 gl prog 168 [.v x] [] (fun r Hs=>∃ u,r = .raw u∧Hs = [.own 5 u (J0 x.length++x)]):=by
 have hlen:=B3 (n:=x.length) (by omega)
 refine F5.Q6 func168 rfl (by kernel_rfl) 8 rfl rfl _ rfl _ rfl fun C hC hG => ?_
 refine .q 8 hG ?_
 refine .h (.a1c hG (a2Z _ (by omega) (by omega)) (.cons (.t a8) .nil) fun r5 Hs5 hr5 => ?_)
 obtain⟨u5,rfl,rfl⟩:=hr5
 show D5 _ _ _ _ _ _ _ ((true,_)::_)
 refine .q 1 hG ?_
 refine .ap (by simp<;>omega) (by simp<;>omega) fun w7 => ?_
 refine .q 3 hG ?_
 refine .e1 a8 a8 ?_
 refine⟨_,.cons .z (.nil),?_⟩
 exact⟨_,a8,a8⟩
theorem a1i (x:List UInt8) (hx:x.length≤1000000):u1 gl prog 168 [.v x] (fun r=>r = .v (J0 x.length++x)):=(b4h x hx).b0I
end Go.Proofs.YtmmclghiidoldaaGreatDoor
namespace Go.Ab
open Go.Fl Go.RowKit
open o8 (rep)
def EqT (P:Program) (T:TypeId) (k:Nat) (α:Type) [o8 α] [DecidableEq α]:Prop :=
 ∀ (d:Nat) (I:Im) (x y:α) (cs ds:List Value) (w:World),rep I x cs→rep I y ds→(Op.equalIn (d+k) T (asV (o8.agg α) cs) (asV (o8.agg α) ds)).run P w = .ok (decide (x=y)) w
variable {P:Program} {T E:TypeId}
theorem EqT.i64 (hT:P.underlying T=some (.int .i64)):EqT P T 1 Int:=fun d I x y cs ds w hx hy=>by
 obtain⟨rfl,_⟩:=hx
 obtain⟨rfl,_⟩:=hy
 exact a4p w d hT
theorem EqT.u64 (hT:P.underlying T=some (.int .u64)):EqT P T 1 UInt64:=fun d I x y cs ds w hx hy=>by
 obtain rfl:=hx
 obtain rfl:=hy
 refine(a4p w d hT).trans ?_
 congr 1
 rw [decide_eq_decide]
 exact⟨fun h=>UInt64.toNat_inj.1 (Int.ofNat_inj.1 h),fun h=>by rw [h]⟩
theorem EqT.str (hT:P.underlying T=some .string):EqT P T 1 Str:=fun d I x y cs ds w hx hy=>by
 obtain⟨⟨a,rfl,ha⟩,_⟩:=hx
 obtain⟨⟨b,rfl,hb⟩,_⟩:=hy
 refine(run_equalIn_string w d T a b hT).trans ?_
 rw [b7Q ha hb]
inductive EqF (P:Program) (k:Nat):List Field→Nat→(β:Type)→(s:o8 β)→DecidableEq β→Prop
  | nil {off:Nat}:EqF P k [] off Unit inferInstance inferInstance
  | cons {f : Field} {fs : List Field} {off : Nat} {α β : Type} {r : o8 α} {s : o8 β} {d1 : DecidableEq α} {d2 : DecidableEq β} {dd : TypeDesc} (h1 : f.offset = off) (hn : (f.name ≠ "_") = true) (hT : P.underlying f.type = some dd) (ha : a08 dd = o8.agg α) (hz : D6 P f.type (o8.size α))
      (h2:EqT P f.type k α) (t:EqF P k fs (off+o8.size α) β s d2):EqF P k (f::fs) off (α×β) inferInstance inferInstance
theorem EqF.run {k : Nat} {fs : List Field} {off : Nat} {β : Type} {s : o8 β} {dec : DecidableEq β} (h : EqF P k fs off β s dec) : ∀ (d : Nat) (I : Im) (x y : β) (cs ds : List Value) (w : World), rep I x (cs.drop off) → rep I y (ds.drop off) →
    (Op.eqFields (d+k) cs.toArray ds.toArray fs).run P w = .ok (decide (x=y)) w:=by
  induction h with
  | nil=>intro d I x y cs ds w _ _;rfl
  | @cons f fs off α β r s d1 d2 dd h1 hn hT ha hz h2 t ih =>
    intro d I x y cs ds w hx hy
    obtain⟨c1,r1,e1,q1,q2⟩:=hx
    obtain⟨c2,r2,e2,q3,q4⟩:=hy
    have hp:∀ (zs c rr:List Value) (a:α),zs.drop off=c++rr→rep I a c→(part f.type zs.toArray f.offset).run P w = .ok (asV (o8.agg α) c) w:=fun zs c rr a e hc=>by
      have hl:=o8.len hc
      have hseg:H6 zs off (o8.size α)=c:=by rw [H6,e,←hl];simp
      obtain⟨g1,g2⟩:=a8c (P:=P) (cs:=zs) (off:=f.offset) hT hz w
      rw [h1] at g1 g2 ⊢
      cases hag:o8.agg α with
      | true =>
        rw [g1 (by rw [ha,hag]),hseg];rfl
      | false =>
        have hone:c.length=1:=by rw [hl];exact o8.one hag
        cases c with
        | nil=>simp at hone
        | cons v c =>
          have:c = []:=by simpa using hone
          subst this
          refine g2 v (by rw [ha,hag]) ?_
          have:(zs.drop off)[0]?=some v:=by rw [e];rfl
          simpa using this
    have hdrop:∀ (zs c rr:List Value) (a:α),zs.drop off=c++rr→rep I a c→zs.drop (off+o8.size α)=rr:=fun zs c rr a e hc=>by
      rw [←List.drop_drop,e,←o8.len hc];simp
    have hn':f.name ≠ "_" := by simpa using hn
    simp only [Op.eqFields,if_pos hn',Sem.run_bind,hp cs c1 r1 x.1 e1 q1,hp ds c2 r2 y.1 e2 q3,Result.andThen_ok,h2 d I x.1 y.1 c1 c2 w q1 q3]
    by_cases e:x.1=y.1
    · simp only [e,decide_true,Bool.not_true,Bool.false_eq_true,if_false]
      rw [ih d I x.2 y.2 cs ds w (by rw [hdrop cs c1 r1 x.1 e1 q1];exact q2) (by rw [hdrop ds c2 r2 y.1 e2 q3];exact q4)]
      congr 1
      rw [decide_eq_decide]
      exact⟨fun h=>Prod.ext e h,fun h=>by rw [h]⟩
    · simp only [e,decide_false,Bool.not_false,if_true,Sem.run_pure]
      congr 1
      symm
      rw [decide_eq_false_iff_not]
      exact fun h=>e (by rw [h])
theorem EqT.struct {S β:Type} [s:o8 β] [dS:DecidableEq S] {dec:DecidableEq β} {k:Nat} {fs:Array Field} (f:S→β) (hf:∀ a b,f a=f b→a=b) (hT0:P.underlying T=some (.struct fs)) (hp:P.stoodInHeld T=false) (h:EqF P k fs.toList 0 β s dec) : @EqT P T (k+1) S (o8.via f) dS:=by
 letI:o8 S:=o8.via f
 intro d I x y cs ds w hx hy
 have hfs:P.fieldsOf T=fs:=by unfold Program.fieldsOf;rw [hT0]
 have hT:P.underlying T=some (.struct (P.fieldsOf T)):=by rw [hfs];exact hT0
 have hx':rep I (f x) cs:=hx
 have hy':rep I (f y) ds:=hy
 refine(run_equalIn_struct w (d+k) T cs.toArray ds.toArray hT hp).trans ?_
 rw [hfs,h.run d I (f x) (f y) cs ds w (by simpa using hx') (by simpa using hy')]
 congr 1
 rw [decide_eq_decide]
 exact⟨hf _ _,fun h=>by rw [h]⟩
variable {N:Nat} {C:Ctx} {σ:x9} {H:j7} {K:AV→Prop} {d:Option Nat} {ty:TypeId} {ps:String} {af:Array Edge} {g:Option (Nat×Bool)} {x y:Operand} {T2:TypeId}
theorem j6.a2c {α : Type} {r : o8 α} {dd : DecidableEq α} {k0 : Nat} {a b : α} (he : EqT P T k0 α) (hk : Nat.ble k0 10000 = true) (hag : o8.agg α = true) (hg : P.eqGuardType P.depth T = false) (hx : E8 C σ H x (.v a)) (hy : E8 C σ H y (.v b)) (k : K (.v (decide (a = b)))) :
    j6 P N C ⟨d,.binOp .eql T x y T2,ty,ps,af,g⟩ σ H K :=
  .vk k (fun ρ I L hst => .mk ⟨[.bool (decide (a=b))],rfl,rfl⟩ fun ac w ha hm=>by
    obtain⟨u,h1,cs,h2,rfl⟩:=hx ρ I L hst
    obtain⟨v,h3,ds,h4,rfl⟩:=hy ρ I L hst
    have hke:10000 - k0+k0=10000:=by have:=Nat.le_of_ble_eq_true hk;omega
    have he':=he (10000 - k0) I a b cs ds w h2 h4
    rw [hke] at he'
    rw [hag] at he' h1 h3
    have h5:=run_eql_struct (P:=P) w T cs.toArray ds.toArray
    rw [show(Op.equalIn 10000 T (.agg cs.toArray) (.agg ds.toArray)).run P w=_ from he'] at h5
    have h1':ev ρ x=some (.agg cs.toArray):=h1
    have h3':ev ρ y=some (.agg ds.toArray):=h3
    simp only [execOp,ha.ev h1',ha.ev h3',Sem.run_bind,a6L w hg,h5,Result.andThen_ok,Sem.run_pure]
    rfl)
end Go.Ab
namespace Go.Proofs.YtmmclghiidoldaaGreatDoor
open Go.Proofs.Tryz
open Go.Ab Go.Mac
theorem X9:EqT prog 97 2 j3 := .struct j3.f (fun a b h=>by cases a;cases b;simpa [j3.f] using h) underlying97 (by kernel_rfl) (.cons rfl (by simp) underlying3 rfl (.of (by kernel_rfl)) (.i64 underlying3) (.cons rfl (by simp) underlying77 rfl (.of (by kernel_rfl)) (.u64 underlying77) (.cons rfl (by simp) underlying3 rfl (.of (by kernel_rfl)) (.i64 underlying3) (.cons rfl (by simp) underlying3 rfl (.of (by kernel_rfl)) (.i64 underlying3) (.cons rfl (by simp) underlying9 rfl (.of (by kernel_rfl)) (.str underlying9) (.cons rfl (by simp) underlying3 rfl (.of (by kernel_rfl)) (.i64 underlying3) .nil))))))
end Go.Proofs.YtmmclghiidoldaaGreatDoor
namespace Go.Ab
open Go.Fl Go.RowKit
open o8 (rep)
structure OF (α:Type) where
 E:TypeId
 l:List α
 own:Bool
instance {α:Type} [o8 α]:UB (OF α) where
 ub I w x X:=(x.own=false∧X = []∧E6 I (.v x.l) w)∨(x.own=true∧(E3.own x.E w x.l).a4f I X)
 mono hle h:=h.elim (fun h => .inl ⟨h.1,h.2.1,h.2.2.mono hle⟩) (fun h => .inr ⟨h.1,E3.mono hle h.2⟩)
theorem c16 {α:Type} [o8 α] {I J:Im} {w:Value} {x:OF α} {X:List (Nat×Obj)} (h:(E3.usr w x).a4f I X) (hle:Le I J) (hp:∀ p∈X,J p.1=some p.2):E6 J (.v x.l) w:=by
 rcases h with ⟨_,_,h⟩|⟨_,h⟩
 ·exact h.mono hle
 ·exact W6 h hle hp
section rules
variable {P:Program} {C:Ctx} {N:Nat} {σ:x9} {H:j7} {Q:Exit→x9→j7→Prop}
theorem I9.C6 {α:Type} {r:o8 α} (E:TypeId) {w:Value} {l:List α} {b:Bool} {c:Code} {F:Bool×E3→j7} (hH:u7 H (b,.fz w (.v l)) F) (k:I9 P C N c Q σ (F (b,.usr w (OF.mk E l false)))):I9 P C N c Q σ H:=fun ρ I L hs=>by
 obtain⟨i,X,h2,h3,h4⟩:=hH.get hs.heap
 have hset:L.set i X=L:=by
  obtain⟨hi,e⟩:=List.getElem?_eq_some_iff.1 h2
  rw [←e,List.set_getElem_self]
 have:=h4 I (b,.usr w (OF.mk E l false)) X (Le.refl I) ⟨.inl ⟨rfl,h3.1.1,h3.1.2⟩,h3.2⟩
 rw [hset] at this
 exact k ρ I L ⟨hs.env,this,hs.V2⟩
theorem I9.c1j {α:Type} {r:o8 α} {E:TypeId} {w:Value} {l:List α} {b:Bool} {c:Code} {F:Bool×E3→j7} (hH:u7 H (b,.own E w l) F) (k:I9 P C N c Q σ (F (b,.usr w (OF.mk E l true)))):I9 P C N c Q σ H:=fun ρ I L hs=>by
 obtain⟨i,X,h2,h3,h4⟩:=hH.get hs.heap
 have hset:L.set i X=L:=by
  obtain⟨hi,e⟩:=List.getElem?_eq_some_iff.1 h2
  rw [←e,List.set_getElem_self]
 have:=h4 I (b,.usr w (OF.mk E l true)) X (Le.refl I) ⟨.inr ⟨rfl,h3.1⟩,h3.2⟩
 rw [hset] at this
 exact k ρ I L ⟨hs.env,this,hs.V2⟩
theorem I9.c1k {α:Type} {r:o8 α} {w:Value} {s:OF α} (ho:s.own=true) {b:Bool} {c:Code} {F:Bool×E3→j7} (hH:u7 H (b,.usr w s) F) (k:I9 P C N c Q σ (F (b,.own s.E w s.l))):I9 P C N c Q σ H:=fun ρ I L hs=>by
 obtain⟨i,X,h2,h3,h4⟩:=hH.get hs.heap
 have hset:L.set i X=L:=by
  obtain⟨hi,e⟩:=List.getElem?_eq_some_iff.1 h2
  rw [←e,List.set_getElem_self]
 have h5:(E3.own s.E w s.l).a4f I X:=by
  rcases h3.1 with h|h
  ·rw [ho] at h;cases h.1
  ·exact h.2
 have:=h4 I (b,.own s.E w s.l) X (Le.refl I) ⟨h5,h3.2⟩
 rw [hset] at this
 exact k ρ I L ⟨hs.env,this,hs.V2⟩
theorem I9.c1l (hC:Ctx.Ok C) {α:Type} {r:o8 α} {w:Value} {s:OF α} {c:Code} {F:Bool×E3→j7} (hH:u7 H (true,.usr w s) F) (k:I9 P C N c Q σ (F (true,.fz w (.v s.l)))):I9 P C N c Q σ H:=fun ρ I L hs=>by
 obtain⟨i,X,h1,h2,h3⟩:=hH.get hs.heap
 refine .freeze i h1 (a5G hC h2) fun J hle hp=>k ρ J _ ⟨(hs.mono hle).env,h3 J _ [] hle ⟨⟨rfl,c16 h2.1 hle hp⟩,by simp⟩,hs.V2.trans hle⟩
end rules
theorem j6.c1m {P : Program} {C : Ctx} {N : Nat} {σ : x9} {H : j7} {K : AV → Prop} {d : Option Nat} {ty : TypeId} {ps : String} {af : Array Edge} {g : Option (Nat × Bool)} {x y : Operand} {T T2 : TypeId} {m n : UInt64}
    (hx:E8 C σ H x (.v m)) (hy:E8 C σ H y (.v n)) (k:K (.v (decide (m < n)))):j6 P N C ⟨d,.binOp .lss T x y T2,ty,ps,af,g⟩ σ H K :=
  .vk k (fun ρ I L hs => .lss (hx.a1Y hs) (hy.a1Y hs) ⟨_,rfl,by rw [b7M];rfl⟩)
theorem E8.a9Q {P:Program} {C:Ctx} {σ:x9} {H:j7} {G:Gl} {f:FuncId} (hG:G.p C.I0) {α β:Type} [o8 α] [o8 β] {g1:α→β} (h:∀ x:α,u1 G P f [.v x] (fun r=>r = .v (g1 x))):E8 C σ H (.func f) (.a8w P g1) :=
 show E8 C σ H (.func f) (.clo P (fun x:α => [.v x]) (fun x => .v (g1 x))) from E8.c36 hG h
theorem A6.b5x {P : Program} {C : Ctx} {N : Nat} {σ : x9} {H : j7} {KH : AV → j7 → Prop} {d : Option Nat} {ty : TypeId} {ps : String} {af : Array Edge} {g : Option (Nat × Bool)} {y : Operand} {T E U : TypeId} {α : Type} {r : o8 α} {i0 : Inhabited α} {by_ t : Nat} {w : Value} {l m : List α} {bb : Bool} {F : Bool × E3 → j7} (st : SlT P T E α by_) (hU : (∃ E2, P.underlying U = some (.slice E2)) ∨ P.underlying U = some .string) (hx : F0 σ t = some (.raw w))
    (hH:u7 H (bb,.own E w l) F) (hy:a9f P C σ H y m) (hb:(l.length+m.length)*by_≤140737488355328) (hn:l.length+m.length≤9223372036854775807) (k:∀ w',KH (.raw w') (F (bb,.own E w' (l++m)))) :
    A6 P C N ⟨d,.call ⟨.builtin .append,#[.tmp t,y],#[T,U]⟩,ty,ps,af,g⟩ σ H KH:=fun ρ I L hs=>by
  obtain⟨u,h1,rfl⟩:=hs.env t _ hx
  obtain⟨v,news,h2,h3,h4⟩:=hy ρ I L hs
  obtain⟨j,X,h5,h6,h7⟩:=hH.get hs.heap
  obtain⟨xs,h8,h9⟩:=h6.1
  intro a w0 ha hst
  refine Yld.mono (OpS.b5e (K:=fun v' J L'=>∃ X',L'=L.set j X'∧J=I∧a1X E (o8.size α) v' (l.length+m.length) (xs++news) X'∧(∀ p∈X',p.1∈X.map Prod.fst∨C.w0.heap.size≤p.1)) j st.elt st.pos hU (x := .tmp t) h1 h2 h5 h8 h3 h4.flat (by unfold maxLen;omega) hb (fun v' X' ho hn=>⟨X',rfl,rfl,ho,hn⟩) a w0 ha hst) ?_
  rintro v' w' ⟨J,L',hst',X',rfl,rfl,ho,hnew⟩
  refine⟨J,_,hst',Le.refl J,.raw v',_,rfl,h7 J (bb,.own E v' (l++m)) X' (Le.refl J) ⟨⟨xs++news,by rw [List.length_append];exact ho,h9.append h4⟩,fun hbb p hp => ?_⟩,k v'⟩
  rcases hnew p hp with h|h
  · obtain⟨q,hq,hqe⟩:=List.mem_map.1 h
    rw [←hqe];exact h6.2 hbb q hq
  · exact h
inductive Del:j7→j7→Prop
 | z {B:Bool×E3} {H:j7}:Del (B::H) H
 | s {A:Bool×E3} {H H':j7} (h:Del H H'):Del (A::H) (A::H')
theorem Del.get {n0:Nat} {I:Im} {H H':j7} (h:Del H H'):∀ {L:Lh},U2 n0 I H L→∃ X L',([X]++L':Lh).flatten.Perm L.flatten∧U2 n0 I H' L':=by
 induction h with
 | z =>
  rintro _ ⟨X,R,rfl,h1,h2⟩
  exact⟨X,R,.refl _,h2⟩
 | s h ih =>
  rintro _ ⟨X,R,rfl,h1,h2⟩
  obtain⟨Y,L',h3,h4⟩:=ih h2
  refine⟨Y,X::L',?_,X,L',a8,h1,h4⟩
  simp only [List.singleton_append,List.flatten_cons] at h3 ⊢
  refine(List.Perm.trans ?_ (List.Perm.append_left X h3))
  simp only [←List.append_assoc]
  exact List.Perm.append_right _ List.perm_append_comm
section del
variable {P:Program} {C:Ctx} {N:Nat} {σ:x9} {H H':j7} {Q:Exit→x9→j7→Prop}
theorem I9.del {c:Code} (hd:Del H H') (k:I9 P C N c Q σ H'):I9 P C N c Q σ H:=fun ρ I L hs a w ha hst=>by
 obtain⟨X,L',hp,hr⟩:=hd.get hs.heap
 exact(wpS.forget (X := [X]) (k ρ I L' ⟨hs.env,hr,hs.V2⟩)) a w ha (b3M hst hp)
end del
end Go.Ab
namespace Go.Fl
section scope
variable {P:Program} {b:Frame} {a:Act} {k:List Item} {cs:List Frame} {w:World}
theorem a0Y {c:Code}:step P (lone (b.atR a (.code (.scope c)::k)) cs w) = .next (lone (b.atR a (.code c :: .inScope c::k)) cs w) :=
 step_lone_go (by simp [stepG,stepG.exec,Frame.atR])
theorem a9p {c:Code}:step P (lone (b.atR a (.inScope c::k)) cs w) = .next (lone (b.atR a k) cs w) :=
 step_lone_go (by simp [stepG,stepG.exec,Frame.atR])
theorem b2j {F:Fence} {n:Nat} {Q Q':Exit→Act→World→Prop} {c:Code} (h:c.wpIn F n P Q' a w) (hq:∀ e a w,Q' e a w→Q e a w∧∀ l,e ≠ .goto l):(Code.scope c).wpIn F n P Q a w:=by
 intro b k cs hro hb hr
 have h0:(lone (b.atR a (.code (.scope c)::k)) cs w).fenced P F:=fenced_calm hb hr rfl
 obtain⟨e,a₁,w₁,hq1,harr⟩:=h b (.inScope c::k) cs hro hb hr
 obtain⟨hq2,hq3⟩:=hq e a₁ w₁ hq1
 cases e with
 | normal=>exact⟨.normal,a₁,w₁,hq2,.head h0 a0Y (StepsIn.trans harr (.one (fenced_calm hb hr rfl) a9p))⟩
 | exit id =>
  have hx:exitTo id (.inScope c::k)=exitTo id k:=by simp [exitTo]
  exact⟨.exit id,a₁,w₁,hq2,fun k' hk => .head h0 a0Y (harr.1 k' (by rw [hx];exact hk)),
   fun hr' hk=>let ⟨k₁,h1,h2⟩:=harr.2 hr' (by rw [hx];exact hk);⟨k₁,h1,.head h0 a0Y h2⟩⟩
 | goto l=>exact absurd rfl (hq3 l)
 | ret=>exact⟨_,a₁,w₁,hq2,.of_steps (.one h0 a0Y) harr⟩
 | panic ch=>exact⟨_,a₁,w₁,hq2,.of_steps (.one h0 a0Y) harr⟩
 | outgrown=>exact⟨_,a₁,w₁,hq2,.of_steps (.one h0 a0Y) harr⟩
end scope
end Go.Fl
namespace Go.Ab
open Go.Fl Go.RowKit
@[reducible] def c4p (Q:Exit→x9→j7→Prop):Exit→x9→j7→Prop
 | .goto _,_,_=>False
 | e,σ,H=>Q e σ H
theorem I9.scope {P:Program} {C:Ctx} {N:Nat} {σ:x9} {H:j7} {Q:Exit→x9→j7→Prop} {c:Code} (k:I9 P C N c (c4p Q) σ H):I9 P C N (.scope c) Q σ H:=fun ρ I L hs a w ha hst=>by
 refine b2j (k ρ I L hs a w ha hst) ?_
 rintro e a w ⟨ρ,I,L,h1,h2,σ,H,h3,h4⟩
 cases e with
 | goto l=>exact h4.elim
 | _=>exact⟨⟨ρ,I,L,h1,h2,σ,H,h3,h4⟩,fun l h=>by cases h⟩
theorem I9.label {P:Program} {C:Ctx} {N:Nat} {σ:x9} {H:j7} {Q:Exit→x9→j7→Prop} {l:Nat} (h:Q .normal σ H):I9 P C N (.label l) Q σ H:=fun ρ I L hs a w ha hst =>
 wpIn_label ⟨ρ,I,L,ha,hst,σ,H,hs,h⟩
def b8u (P:Program) (N:Nat) (C:Ctx) (σ0:x9) (H:j7) (acc:List (Nat×AV)) (o:Oper) (s:List (Nat×Nat)) (r:AV):Prop :=
  match o.guard with
  | none=>j6 P N C o (E0 σ0 acc s (C7 o)) H (fun r'=>r'=r)
  | some (g, want) => (∃ b c, o9 acc g = some (.v b) ∧ r = .a7N (b == want) c ∧ (b = want → j6 P N C o (E0 σ0 acc s (C7 o)) H (fun r' => r' = c))) ∨
      (∃ b c0 c,o9 acc g=some (.a7N c0 (.v b))∧r = .a7N (c0&&(b == want)) c∧(c0=true→b=want→j6 P N C o (E0 σ0 acc s (C7 o)) H (fun r'=>r'=c)))
def b4i (P:Program) (N:Nat) (C:Ctx) (σ0:x9) (H:j7) (F:List (Nat×AV)→Prop):List Oper→List (List (Nat×Nat))→Nat→List (Nat×AV)→Prop
 | [],_,_,acc=>F acc
 | o::os,s::ss,k,acc=>∃ r,b8u P N C σ0 H acc o s r∧b4i P N C σ0 H F os ss (k+1) ((k,r)::acc)
 | _,[],_,_=>False
theorem b8v {P : Program} {N : Nat} {C : Ctx} {ops : Array Oper} {σ0 : x9} {H : j7} {acc : List (Nat × AV)} {ρ0 : Env} {I : Im} {L : Lh} {o : Oper} {s : List (Nat × Nat)} {r : AV} (hs : Y6 C I L σ0 H ρ0)
    (h:b8u P N C σ0 H acc o s r):a5x P N ops (R1 (a4t acc)) ρ0 I L o s (a2A r):=by
  intro J hle ρ
  refine a7U hs hle _ _ fun henv => ?_
  have hR:Y6 C J L (E0 σ0 acc s (C7 o)) H ρ:=⟨henv,hs.heap.mono hle,hs.V2.trans hle⟩
  unfold b8u at h
  cases hg:o.guard with
  | none =>
    simp only [hg] at h
    exact OpX.a19 (h ρ J L hR) fun v J' X _ ⟨h1,r',h2,h3⟩=>⟨h1,h3▸h2⟩
  | some p =>
    obtain⟨g,want⟩:=p
    simp only [hg] at h
    intro v hv
    rcases h with ⟨b,c,h1,rfl,h2⟩|⟨b,c0,c,h1,rfl,h2⟩
    · rw [a0X,h1] at hv
      simp only [Option.map_some,a2A,Fl.Spec.holds] at hv
      obtain⟨cs,rfl,rfl⟩:=hv
      refine⟨fun e => ?_,fun hne=>⟨?_,fun o e=>by cases e⟩⟩
      · have e':b=want:=by simpa [asV,o8.agg] using e
        exact OpX.a19 (h2 e' ρ J L hR) fun v J' X _ ⟨h3,r',h4,h5⟩=>⟨h3,⟨fun _=>h5▸h4,fun hc=>absurd e' (by simpa using hc)⟩⟩
      · have hb:b≠want:=hne b rfl
        exact⟨fun hc=>absurd (by simpa using hc) hb,fun _=>a8⟩
    · rw [a0X,h1] at hv
      simp only [Option.map_some,a2A,Fl.Spec.holds] at hv
      obtain⟨hv1,hv2⟩:=hv
      cases c0 with
      | false =>
        obtain rfl:=hv2 rfl
        exact⟨fun e=>(by cases e),fun _=>⟨⟨fun hc=>(by simp at hc),fun _=>a8⟩,fun o e=>(by cases e)⟩⟩
      | true =>
        obtain⟨cs,rfl,rfl⟩:=hv1 rfl
        refine⟨fun e => ?_,fun hne=>⟨?_,fun o e=>by cases e⟩⟩
        · have e':b=want:=by simpa [asV,o8.agg] using e
          exact OpX.a19 (h2 rfl e' ρ J L hR) fun v J' X _ ⟨h3,r',h4,h5⟩=>⟨h3,⟨fun _=>h5▸h4,fun hc=>absurd e' (by simpa using hc)⟩⟩
        · have hb:b≠want:=hne b rfl
          exact⟨fun hc=>absurd (by simpa using hc) hb,fun _=>a8⟩
theorem a9R {P : Program} {N : Nat} {C : Ctx} {ops : Array Oper} {σ0 : x9} {H : j7} {ρ0 : Env} {I : Im} {L : Lh} {F : List (Nat × AV) → Prop} {F' : List (Nat × Fl.Spec) → Prop} (hs : Y6 C I L σ0 H ρ0) :
    ∀ (os:List Oper) (ss:List (List (Nat×Nat))) (k:Nat) (acc:List (Nat×AV)),(∀ i,i < k→(o9 acc i).isSome)→b4i P N C σ0 H F os ss k acc →
      (∀ acc',(∀ i,i < k+os.length→(o9 acc' i).isSome)→F acc'→F' (a4t acc'))→chain P N ops ρ0 I L F' os ss k (a4t acc)
  | [],ss,k,acc,hk,h,hF=>by
    have hc:F acc:=by cases ss<;>exact h
    cases ss<;>exact hF acc (by simpa using hk) hc
  | o::os,[],k,acc,_,h,_=>h.elim
  | o::os,s::ss,k,acc,hk,h,hF=>by
    obtain⟨r,h1,h2⟩:=h
    refine⟨a2A r,b8v hs h1,a9R hs os ss (k+1) ((k,r)::acc) (fun i hi => ?_) h2 (fun acc' h3=>hF acc' (fun i hi=>h3 i (by simp only [List.length_cons] at hi;omega)))⟩
    simp only [o9]
    by_cases e:k=i
    · subst e;simp
    · rw [a4i e];exact hk i (by omega)
section b8w
variable {P:Program} {C:Ctx} {N:Nat} {Q:Exit→x9→j7→Prop} {σ:x9} {H:j7}
theorem I9.b8w {id : Nat} {l : List Oper} (hm : P.follows .mixedOrders = true) (n : Nat) (ss : List (List (Nat × Nat)))
    (hN:J7 N l=true) (hB:a9u l.toArray n ss=true) (hss:Nat.ble n ss.length=true)
    (hch:b4i P N C σ H (fun acc=>D5 P C N l.toArray Q (l.drop n) (a2a acc (l.take n) 0 σ) H) (l.take n) ss 0 []) :
    I9 P C N (.region id l.toArray true) Q σ H:=fun ρ I L hs=>by
  refine .draw hm n ss hN hB hss ?_
  refine a9R (acc := []) (F:=_) hs _ _ 0 (fun i hi=>by omega) hch fun acc hacc hF J hle => ?_
  refine b0A (l.take n) 0 σ ρ L (hs.mono hle) (fun i o ho => ?_) (fun ρ' h'=>hF ρ' J L h')
  have hi:i < n:=by
    have:=(List.getElem?_eq_some_iff.1 ho).1
    simp at this;omega
  obtain⟨o',d,h1,h2⟩:=a9G hB hi
  have:o'=o:=by
    rw [List.getElem?_take,if_pos hi] at ho
    have h1':l[i]?=some o':=by simpa using h1
    rw [h1'] at ho;exact Option.some.inj ho
  subst this
  have hlen:i < (l.take n).length:=(List.getElem?_eq_some_iff.1 ho).1
  obtain⟨r,hr⟩:=Option.isSome_iff_exists.1 (hacc i (by omega))
  exact⟨d,r,h2,by simpa using hr⟩
end b8w
theorem j6.c3l {P : Program} {C : Ctx} {N : Nat} {σ : x9} {H : j7} {K : AV → Prop} {d : Option Nat} {ty : TypeId} {ps : String} {af : Array Edge} {g : Option (Nat × Bool)} {x y : Operand} {T E : TypeId} {α : Type} {r : o8 α} {i : Inhabited α} {l : List α} {n : Int}
    (tE:G7 P E α) (hT:P.underlying T=some (.slice E)) (hx:E8 C σ H x (.v l)) (hy:E8 C σ H y (.v n)) (h0:0≤n) (h1:n < l.length) (k:K (.p (l.getD n.toNat default))):j6 P N C ⟨d,.indexAddr T x y,ty,ps,af,g⟩ σ H K :=
  .idx tE hT hx hy h0 h1 (by
    have e:l.getD n.toNat default=l[n.toNat]'(by omega):=by rw [List.getD_eq_getElem?_getD,List.getElem?_eq_getElem (by omega)];rfl
    rw [←e];exact k)
theorem j6.a2u {P:Program} {N:Nat} {C:Ctx} {σ:x9} {H:j7} {K:AV→Prop} {d:Option Nat} {ty:TypeId} {ps:String} {af:Array Edge} {g:Option (Nat×Bool)} {x y:Operand} {T T2:TypeId} {m c:UInt64} (hx:E8 C σ H x (.v m)) (hy:E8 C σ H y (.v c)) (h0:0≤c.toNat) (h1:c.toNat < 64) (k:K (.v (m <<< c))):j6 P N C ⟨d,.binOp .shl T x y T2,ty,ps,af,g⟩ σ H K :=
 .vk k (fun ρ I L hs=>H9.a2u c.toNat (hx.a1Y hs) (hy.a1Y hs) rfl h1 ⟨[Fl.u64 (m <<< c)],rfl,by rw [UInt64.ofNat_toNat];rfl⟩)
theorem j6.b7l {P:Program} {N:Nat} {C:Ctx} {σ:x9} {H:j7} {K:AV→Prop} {d:Option Nat} {ty:TypeId} {ps:String} {af:Array Edge} {g:Option (Nat×Bool)} {x:Operand} {T:TypeId} {m:UInt64} (hx:E8 C σ H x (.v m)) (k:K (.v (~~~m))):j6 P N C ⟨d,.unOp .xor T x,ty,ps,af,g⟩ σ H K :=
 .vk k (fun ρ I L hs=>H9.b7l (hx.a1Y hs) ⟨[Fl.u64 (~~~m)],rfl,rfl⟩)
end Go.Ab
