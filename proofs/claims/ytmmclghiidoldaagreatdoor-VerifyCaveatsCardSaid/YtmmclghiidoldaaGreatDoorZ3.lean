/- Plain Lean over any program, and walks of this seat's functions: contracts, each proved once (part 3). -/
import Derived.Test.YtmmclghiidoldaaGreatDoorZ2
import Derived.Shelf.Bytes.SlJoin
import Derived.Laws.StructEq
set_option maxRecDepth 1000000
set_option synthInstance.maxSize 1000000
set_option synthInstance.maxHeartbeats 10000000
set_option linter.unusedVariables false
set_option linter.unusedSimpArgs false
namespace Go.Proofs.YtmmclghiidoldaaGreatDoor
open Go.Proofs.Tryz
open Go.Ab Go.Mac
theorem _root_.Go.Ab.G2.ok {P:Program} {T:TypeId} {α:Type} [o7 α] [Inhabited α] [H4 α] (h:((P.info? T).map (·.size),(P.underlying T).map Fl.a0Y,Fl.U7 P T,Nat.beq (o7.size α) 0)=(some (o7.size α),some (o7.agg α),some (H4.zs α),false)):G2 P T α:=by
 simp only [Prod.mk.injEq] at h
 obtain⟨h1,h2,h3,h4⟩:=h
 exact .of h1 h2 h3 (fun e=>by rw [e] at h4;cases h4)
theorem P5:G2 prog 3 Int := .ok (by kernel_rfl)
theorem ty4:G2 prog 4 Bool := .ok (by kernel_rfl)
theorem ty5:G2 prog 5 UInt8 := .ok (by kernel_rfl)
theorem ty9:G2 prog 9 Y4 := .ok (by kernel_rfl)
theorem a8v:G2 prog 23 u3 := .ok (by kernel_rfl)
theorem a86:G2 prog 24 (List o5) := .ok (by kernel_rfl)
theorem A5:G2 prog 26 (I8 32 UInt8) := .ok (by kernel_rfl)
theorem c0i:G2 prog 27 (List p9) := .ok (by kernel_rfl)
theorem U3:G2 prog 29 u1 := .ok (by kernel_rfl)
theorem c2g:G2 prog 30 (List u7) := .ok (by kernel_rfl)
theorem c0j:G2 prog 32 C8 := .ok (by kernel_rfl)
theorem c3w:G2 prog 33 (List Int) := .ok (by kernel_rfl)
theorem b8a:G2 prog 35 (List y3) := .ok (by kernel_rfl)
theorem b3E:G2 prog 36 (List m9) := .ok (by kernel_rfl)
theorem y9:G2 prog 38 m0 := .ok (by kernel_rfl)
theorem c4K:G2 prog 39 (List y8) := .ok (by kernel_rfl)
theorem b8b:G2 prog 41 u9 := .ok (by kernel_rfl)
theorem U4:G2 prog 43 x6 := .ok (by kernel_rfl)
theorem c4L:G2 prog 44 (List p6) := .ok (by kernel_rfl)
theorem b8c:G2 prog 46 p5 := .ok (by kernel_rfl)
theorem c4M:G2 prog 54 (List (I8 32 UInt8)) := .ok (by kernel_rfl)
theorem a4i:G2 prog 56 y4 := .ok (by kernel_rfl)
theorem b6g:G2 prog 57 Int := .ok (by kernel_rfl)
theorem b1J:G2 prog 66 u7 := .ok (by kernel_rfl)
theorem a8w:G2 prog 69 y1 := .ok (by kernel_rfl)
theorem a5D:G2 prog 77 UInt64 := .ok (by kernel_rfl)
theorem a7I:G2 prog 83 (List j3) := .ok (by kernel_rfl)
theorem a3y:G2 prog 86 (List UInt8) := .ok (by kernel_rfl)
theorem a05:G2 prog 88 p9 := .ok (by kernel_rfl)
theorem Q2:G2 prog 97 j3 := .ok (by kernel_rfl)
theorem a1v:G2 prog 99 o5 := .ok (by kernel_rfl)
theorem c3x:G2 prog 103 m5 := .ok (by kernel_rfl)
theorem S7:G2 prog 139 p6 := .ok (by kernel_rfl)
theorem a5j:G2 prog 147 y8 := .ok (by kernel_rfl)
theorem a3z:G2 prog 151 C3 := .ok (by kernel_rfl)
theorem b1K:G2 prog 155 B0 := .ok (by kernel_rfl)
theorem a5k:G2 prog 199 y3 := .ok (by kernel_rfl)
theorem c3y:G2 prog 224 (I8 2 (List UInt8)) := .ok (by kernel_rfl)
theorem a5l:G2 prog 227 m9 := .ok (by kernel_rfl)
theorem c3z:G2 prog 231 A8 := .ok (by kernel_rfl)
theorem c3A:G2 prog 241 m7 := .ok (by kernel_rfl)
theorem c0k:SlT prog 24 99 o5 120:=⟨.of (by kernel_rfl),a1v⟩
theorem c2h:SlT prog 27 88 p9 80:=⟨.of (by kernel_rfl),a05⟩
theorem c4N:SlT prog 33 3 Int 8:=⟨.of (by kernel_rfl),P5⟩
theorem c0l:SlT prog 35 199 y3 88:=⟨.of (by kernel_rfl),a5k⟩
theorem c0m:SlT prog 36 227 m9 88:=⟨.of (by kernel_rfl),a5l⟩
theorem c4O:SlT prog 44 139 p6 80:=⟨.of (by kernel_rfl),S7⟩
theorem c4P:SlT prog 54 26 (I8 32 UInt8) 32:=⟨.of (by kernel_rfl),A5⟩
theorem b8d:SlT prog 83 97 j3 56:=⟨.of (by kernel_rfl),Q2⟩
theorem P3:SlT prog 86 5 UInt8 1:=⟨.of (by kernel_rfl),ty5⟩
theorem c3B:SlT prog 164 86 (List UInt8) 24:=⟨.of (by kernel_rfl),a3y⟩
instance:TyJ prog 3 Int:=⟨P5⟩
instance:UnI prog 3 (.int .i64):=⟨underlying3⟩
instance:TyJ prog 4 Bool:=⟨ty4⟩
instance:TyJ prog 5 UInt8:=⟨ty5⟩
instance:UnI prog 5 (.int .u8):=⟨underlying5⟩
instance:TyJ prog 9 Y4:=⟨ty9⟩
instance:UnI prog 9 (.string):=⟨underlying9⟩
instance:TyJ prog 23 u3:=⟨a8v⟩
theorem _root_.Go.Ab.FdI.ok {P:Program} {T:TypeId} {i:Nat} {β:Type} {s:o7 β} {γ:Type} {q:o7 γ} {m:j9 β γ} {f:β→γ} {off sz:Nat} {ag:Bool} (hf:Fl.p8 P T i=some (off,sz+1,ag)) (h:(off,sz+1,ag,true)=(m.off,o7.size γ,o7.agg γ,o7.agg β)) (e:∀ x,m.get x=f x):FdI P T i β s γ q m f:=by
 simp only [Prod.mk.injEq] at h
 exact .mk' hf h.1 h.2.1 h.2.2.1 e h.2.2.2.symm
instance:FdJ prog 23 0 u3.l0 (fun x=>x.Gate) := .ok b3a rfl fun _=>rfl
instance:LnI u3.l0 (fun x=>x.Gate) (fun y x => { x with Gate:=y }):=⟨fun _=>rfl,fun _ _=>rfl⟩
instance:FdJ prog 23 1 u3.l1 (fun x=>x.E0) := .ok a9Y rfl fun _=>rfl
instance:LnI u3.l1 (fun x=>x.E0) (fun y x => { x with E0:=y }):=⟨fun _=>rfl,fun _ _=>rfl⟩
instance:TyJ prog 24 (List o5):=⟨a86⟩
instance:UnI prog 24 (.slice 99):=⟨underlying24⟩
instance:TyJ prog 26 (I8 32 UInt8):=⟨A5⟩
instance:TyJ prog 27 (List p9):=⟨c0i⟩
instance:UnI prog 27 (.slice 88):=⟨underlying27⟩
instance:SlJ prog 27 88 p9 80:=⟨c2h⟩
instance:TyJ prog 29 u1:=⟨U3⟩
instance:FdJ prog 29 0 u1.l0 (fun x=>x.Request) := .ok b3c rfl fun _=>rfl
instance:LnI u1.l0 (fun x=>x.Request) (fun y x => { x with Request:=y }):=⟨fun _=>rfl,fun _ _=>rfl⟩
instance:FdJ prog 29 1 u1.l1 (fun x=>x.D3) := .ok b7o rfl fun _=>rfl
instance:FdJ prog 29 2 u1.l2 (fun x=>x.A6) := .ok b3d rfl fun _=>rfl
instance:FdJ prog 29 3 u1.l3 (fun x=>x.j8) := .ok W0 rfl fun _=>rfl
instance:FdJ prog 29 4 u1.l4 (fun x=>x.Proof) := .ok a8c rfl fun _=>rfl
instance:FdJ prog 29 5 u1.l5 (fun x=>x.j4) := .ok Z0 rfl fun _=>rfl
instance:TyJ prog 30 (List u7):=⟨c2g⟩
instance:UnI prog 30 (.slice 66):=⟨underlying30⟩
instance:TyJ prog 32 C8:=⟨c0j⟩
instance:FdJ prog 32 0 C8.l0 (fun x=>x.Live) := .ok b3e rfl fun _=>rfl
instance:UnI prog 33 (.slice 3):=⟨underlying33⟩
instance:SlJ prog 33 3 Int 8:=⟨c4N⟩
instance:TyJ prog 35 (List y3):=⟨b8a⟩
instance:UnI prog 35 (.slice 199):=⟨underlying35⟩
instance:TyJ prog 36 (List m9):=⟨b3E⟩
instance:UnI prog 36 (.slice 227):=⟨underlying36⟩
instance:TyJ prog 38 m0:=⟨y9⟩
instance:FdJ prog 38 0 m0.l0 (fun x=>x.K1) := .ok c1L rfl fun _=>rfl
instance:LnI m0.l0 (fun x=>x.K1) (fun y x => { x with K1:=y }):=⟨fun _=>rfl,fun _ _=>rfl⟩
instance:FdJ prog 38 1 m0.l1 (fun x=>x.a4f) := .ok c1M rfl fun _=>rfl
instance:LnI m0.l1 (fun x=>x.a4f) (fun y x => { x with a4f:=y }):=⟨fun _=>rfl,fun _ _=>rfl⟩
instance:FdJ prog 38 2 m0.l2 (fun x=>x.F7) := .ok b3f rfl fun _=>rfl
instance:LnI m0.l2 (fun x=>x.F7) (fun y x => { x with F7:=y }):=⟨fun _=>rfl,fun _ _=>rfl⟩
instance:FdJ prog 38 3 m0.l3 (fun x=>x.G4) := .ok a5w rfl fun _=>rfl
instance:LnI m0.l3 (fun x=>x.G4) (fun y x => { x with G4:=y }):=⟨fun _=>rfl,fun _ _=>rfl⟩
instance:FdJ prog 38 4 m0.l4 (fun x=>x.x9) := .ok a5x rfl fun _=>rfl
instance:LnI m0.l4 (fun x=>x.x9) (fun y x => { x with x9:=y }):=⟨fun _=>rfl,fun _ _=>rfl⟩
instance:TyJ prog 39 (List y8):=⟨c4K⟩
instance:UnI prog 39 (.slice 147):=⟨underlying39⟩
instance:TyJ prog 41 u9:=⟨b8b⟩
instance:FdJ prog 41 0 u9.l0 (fun x=>x.G7) := .ok b7p rfl fun _=>rfl
instance:FdJ prog 41 1 u9.l1 (fun x=>x.Key) := .ok b7q rfl fun _=>rfl
instance:FdJ prog 41 2 u9.l2 (fun x=>x.a1I) := .ok c1N rfl fun _=>rfl
instance:TyJ prog 43 x6:=⟨U4⟩
instance:FdJ prog 43 0 x6.l0 (fun x=>x.D3) := .ok c1O rfl fun _=>rfl
instance:LnI x6.l0 (fun x=>x.D3) (fun y x => { x with D3:=y }):=⟨fun _=>rfl,fun _ _=>rfl⟩
instance:FdJ prog 43 1 x6.l1 (fun x=>x.A6) := .ok c1P rfl fun _=>rfl
instance:LnI x6.l1 (fun x=>x.A6) (fun y x => { x with A6:=y }):=⟨fun _=>rfl,fun _ _=>rfl⟩
instance:FdJ prog 43 2 x6.l2 (fun x=>x.j8) := .ok a9Z rfl fun _=>rfl
instance:LnI x6.l2 (fun x=>x.j8) (fun y x => { x with j8:=y }):=⟨fun _=>rfl,fun _ _=>rfl⟩
instance:FdJ prog 43 3 x6.l3 (fun x=>x.Tag) := .ok a6F rfl fun _=>rfl
instance:LnI x6.l3 (fun x=>x.Tag) (fun y x => { x with Tag:=y }):=⟨fun _=>rfl,fun _ _=>rfl⟩
instance:UnI prog 44 (.slice 139):=⟨underlying44⟩
instance:TyJ prog 46 p5:=⟨b8c⟩
instance:UnI prog 52 (.slice 29):=⟨underlying52⟩
instance:TyJ prog 54 (List (I8 32 UInt8)):=⟨c4M⟩
instance:UnI prog 54 (.slice 26):=⟨underlying54⟩
instance:SlJ prog 54 26 (I8 32 UInt8) 32:=⟨c4P⟩
instance:TyJ prog 56 y4:=⟨a4i⟩
instance:FdJ prog 56 0 y4.l0 (fun x=>x.a8q) := .ok c1Q rfl fun _=>rfl
instance:LnI y4.l0 (fun x=>x.a8q) (fun y x => { x with a8q:=y }):=⟨fun _=>rfl,fun _ _=>rfl⟩
instance:FdJ prog 56 1 y4.l1 (fun x=>x.b3t) := .ok c1R rfl fun _=>rfl
instance:LnI y4.l1 (fun x=>x.b3t) (fun y x => { x with b3t:=y }):=⟨fun _=>rfl,fun _ _=>rfl⟩
instance:TyJ prog 57 Int:=⟨b6g⟩
instance:TyJ prog 66 u7:=⟨b1J⟩
instance:FdJ prog 66 0 u7.l0 (fun x=>x.Number) := .ok b7u rfl fun _=>rfl
instance:LnI u7.l0 (fun x=>x.Number) (fun y x => { x with Number:=y }):=⟨fun _=>rfl,fun _ _=>rfl⟩
instance:FdJ prog 66 1 u7.l1 (fun x=>x.Key) := .ok b7v rfl fun _=>rfl
instance:TyJ prog 69 y1:=⟨a8w⟩
instance:FdJ prog 69 0 y1.l0 (fun x=>x.a3S) := .ok c1T rfl fun _=>rfl
instance:FdJ prog 69 1 y1.l1 (fun x=>x.a3t) := .ok c1U rfl fun _=>rfl
instance:FdJ prog 69 2 y1.l2 (fun x=>x.Minute) := .ok c1V rfl fun _=>rfl
instance:FdJ prog 69 3 y1.l3 (fun x=>x.G0) := .ok b7w rfl fun _=>rfl
instance:LnI y1.l3 (fun x=>x.G0) (fun y x => { x with G0:=y }):=⟨fun _=>rfl,fun _ _=>rfl⟩
instance:UnI prog 71 (.slice 9):=⟨underlying71⟩
instance:TyJ prog 77 UInt64:=⟨a5D⟩
instance:UnI prog 77 (.int .u64):=⟨underlying77⟩
instance:TyJ prog 83 (List j3):=⟨a7I⟩
instance:UnI prog 83 (.slice 97):=⟨underlying83⟩
instance:SlJ prog 83 97 j3 56:=⟨b8d⟩
instance:TyJ prog 86 (List UInt8):=⟨a3y⟩
instance:UnI prog 86 (.slice 5):=⟨underlying86⟩
instance:SlJ prog 86 5 UInt8 1:=⟨P3⟩
instance:TyJ prog 88 p9:=⟨a05⟩
instance:FdJ prog 88 0 p9.l0 (fun x=>x.l9) := .ok a8d rfl fun _=>rfl
instance:LnI p9.l0 (fun x=>x.l9) (fun y x => { x with l9:=y }):=⟨fun _=>rfl,fun _ _=>rfl⟩
instance:FdJ prog 88 1 p9.l1 (fun x=>x.l8) := .ok a4s rfl fun _=>rfl
instance:LnI p9.l1 (fun x=>x.l8) (fun y x => { x with l8:=y }):=⟨fun _=>rfl,fun _ _=>rfl⟩
instance:FdJ prog 88 2 p9.l2 (fun x=>x.Proof) := .ok b7x rfl fun _=>rfl
instance:TyJ prog 97 j3:=⟨Q2⟩
instance:FdJ prog 97 0 j3.l0 (fun x=>x.Kind) := .ok a8e rfl fun _=>rfl
instance:LnI j3.l0 (fun x=>x.Kind) (fun y x => { x with Kind:=y }):=⟨fun _=>rfl,fun _ _=>rfl⟩
instance:FdJ prog 97 1 j3.l1 (fun x=>x.Mask) := .ok a0G rfl fun _=>rfl
instance:LnI j3.l1 (fun x=>x.Mask) (fun y x => { x with Mask:=y }):=⟨fun _=>rfl,fun _ _=>rfl⟩
instance:FdJ prog 97 2 j3.l2 (fun x=>x.P1) := .ok M4 rfl fun _=>rfl
instance:LnI j3.l2 (fun x=>x.P1) (fun y x => { x with P1:=y }):=⟨fun _=>rfl,fun _ _=>rfl⟩
instance:FdJ prog 97 3 j3.l3 (fun x=>x.To) := .ok M5 rfl fun _=>rfl
instance:LnI j3.l3 (fun x=>x.To) (fun y x => { x with To:=y }):=⟨fun _=>rfl,fun _ _=>rfl⟩
instance:FdJ prog 97 4 j3.l4 (fun x=>x.Name) := .ok a94 rfl fun _=>rfl
instance:LnI j3.l4 (fun x=>x.Name) (fun y x => { x with Name:=y }):=⟨fun _=>rfl,fun _ _=>rfl⟩
instance:FdJ prog 97 5 j3.l5 (fun x=>x.Number) := .ok a8f rfl fun _=>rfl
instance:LnI j3.l5 (fun x=>x.Number) (fun y x => { x with Number:=y }):=⟨fun _=>rfl,fun _ _=>rfl⟩
instance:TyJ prog 99 o5:=⟨a1v⟩
instance:FdJ prog 99 0 o5.l0 (fun x=>x.Q9) := .ok c1W rfl fun _=>rfl
instance:FdJ prog 99 1 o5.l1 (fun x=>x.a2P) := .ok c1X rfl fun _=>rfl
instance:FdJ prog 99 2 o5.l2 (fun x=>x.G7) := .ok b7y rfl fun _=>rfl
instance:FdJ prog 99 3 o5.l3 (fun x=>x.l9) := .ok b3j rfl fun _=>rfl
instance:FdJ prog 99 4 o5.l4 (fun x=>x.Y5) := .ok b7z rfl fun _=>rfl
instance:TyJ prog 139 p6:=⟨S7⟩
instance:FdJ prog 139 1 p6.l1 (fun x=>x.l8) := .ok a55 rfl fun _=>rfl
instance:LnI p6.l1 (fun x=>x.l8) (fun y x => { x with l8:=y }):=⟨fun _=>rfl,fun _ _=>rfl⟩
instance:TyJ prog 147 y8:=⟨a5j⟩
instance:FdJ prog 147 0 y8.l0 (fun x=>x.Name) := .ok b9K rfl fun _=>rfl
instance:FdJ prog 147 1 y8.l1 (fun x=>x.b3s) := .ok a7O rfl fun _=>rfl
instance:TyJ prog 151 C3:=⟨a3z⟩
instance:TyJ prog 155 B0:=⟨b1K⟩
instance:FdJ prog 155 0 B0.l0 (fun x=>x.a3u) := .ok b4H rfl fun _=>rfl
instance:LnI B0.l0 (fun x=>x.a3u) (fun y x => { x with a3u:=y }):=⟨fun _=>rfl,fun _ _=>rfl⟩
instance:FdJ prog 155 1 B0.l1 (fun x=>x.a6M) := .ok b4I rfl fun _=>rfl
instance:LnI B0.l1 (fun x=>x.a6M) (fun y x => { x with a6M:=y }):=⟨fun _=>rfl,fun _ _=>rfl⟩
instance:UnI prog 164 (.slice 86):=⟨underlying164⟩
instance:SlJ prog 164 86 (List UInt8) 24:=⟨c3B⟩
instance:TyJ prog 199 y3:=⟨a5k⟩
instance:FdJ prog 199 0 y3.l0 (fun x=>x.Key) := .ok b4J rfl fun _=>rfl
instance:LnI y3.l0 (fun x=>x.Key) (fun y x => { x with Key:=y }):=⟨fun _=>rfl,fun _ _=>rfl⟩
instance:FdJ prog 199 1 y3.l1 (fun x=>x.Message) := .ok b4K rfl fun _=>rfl
instance:LnI y3.l1 (fun x=>x.Message) (fun y x => { x with Message:=y }):=⟨fun _=>rfl,fun _ _=>rfl⟩
instance:FdJ prog 199 2 y3.l2 (fun x=>x.Tag) := .ok b9N rfl fun _=>rfl
instance:UnI prog 213 (.int .u64):=⟨underlying213⟩
instance:TyJ prog 227 m9:=⟨a5l⟩
instance:FdJ prog 227 0 m9.l0 (fun x=>x.Key) := .ok b4L rfl fun _=>rfl
instance:LnI m9.l0 (fun x=>x.Key) (fun y x => { x with Key:=y }):=⟨fun _=>rfl,fun _ _=>rfl⟩
instance:FdJ prog 227 1 m9.l1 (fun x=>x.E0) := .ok b9O rfl fun _=>rfl
instance:LnI m9.l1 (fun x=>x.E0) (fun y x => { x with E0:=y }):=⟨fun _=>rfl,fun _ _=>rfl⟩
instance:FdJ prog 227 2 m9.l2 (fun x=>x.Plain) := .ok b9P rfl fun _=>rfl
instance:LnI m9.l2 (fun x=>x.Plain) (fun y x => { x with Plain:=y }):=⟨fun _=>rfl,fun _ _=>rfl⟩
instance:FdJ prog 227 3 m9.l3 (fun x=>x.Y5) := .ok a97 rfl fun _=>rfl
instance:LnI m9.l3 (fun x=>x.Y5) (fun y x => { x with Y5:=y }):=⟨fun _=>rfl,fun _ _=>rfl⟩
instance:TyJ prog 231 A8:=⟨c3z⟩
instance:FdJ prog 231 0 A8.l0 (fun x=>x.a3S) := .ok b9Q rfl fun _=>rfl
instance:LnI A8.l0 (fun x=>x.a3S) (fun y x => { x with a3S:=y }):=⟨fun _=>rfl,fun _ _=>rfl⟩
instance:FdJ prog 231 1 A8.l1 (fun x=>x.a3t) := .ok b9R rfl fun _=>rfl
instance:LnI A8.l1 (fun x=>x.a3t) (fun y x => { x with a3t:=y }):=⟨fun _=>rfl,fun _ _=>rfl⟩
instance:FdJ prog 231 2 A8.l2 (fun x=>x.Minute) := .ok b9S rfl fun _=>rfl
instance:LnI A8.l2 (fun x=>x.Minute) (fun y x => { x with Minute:=y }):=⟨fun _=>rfl,fun _ _=>rfl⟩
instance:FdJ prog 231 3 A8.l3 (fun x=>x.G0) := .ok b9T rfl fun _=>rfl
instance:LnI A8.l3 (fun x=>x.G0) (fun y x => { x with G0:=y }):=⟨fun _=>rfl,fun _ _=>rfl⟩
instance:FdJ prog 241 1 m7.l1 (fun x=>x.Used) := .ok a3M rfl fun _=>rfl
instance:LnI m7.l1 (fun x=>x.Used) (fun y x => { x with Used:=y }):=⟨fun _=>rfl,fun _ _=>rfl⟩
instance:FdJ prog 241 2 m7.l2 (fun x=>x.E) := .ok a4U rfl fun _=>rfl
instance:LnI m7.l2 (fun x=>x.E) (fun y x => { x with E:=y }):=⟨fun _=>rfl,fun _ _=>rfl⟩
end Go.Proofs.YtmmclghiidoldaaGreatDoor
namespace Go.Mac
open Go.Fl Go.Ab Go.Sha
abbrev Tag:=I8 32 UInt8
def h8 (a:I8 8 UInt32):H8:=⟨a.l.getD 0 0,a.l.getD 1 0,a.l.getD 2 0,a.l.getD 3 0,a.l.getD 4 0,a.l.getD 5 0,a.l.getD 6 0,a.l.getD 7 0⟩
def b1z (x:H8):I8 8 UInt32:=⟨x.l,rfl⟩
theorem b5l (x:H8):h8 (b1z x)=x:=rfl
theorem c4Q (a:I8 8 UInt32):(h8 a).l=a.l:=by
 obtain⟨l,h⟩:=a
 match l,h with
 | [a,b,c,d,e,f,g,i],_=>rfl
def sha (l:List UInt8):Tag:=⟨a3b l,a8Z l⟩
theorem a88 (x:H8) (r:List UInt8) (n:Nat):(a2t x r n).length=32:=by rw [a2t,a0N,H8.length]
def c2i:O0:=⟨b1z iv,[],0⟩
def a6P (h:O0) (b:List UInt8):O0:=⟨b1z (a01 (h8 h.H) (h.Rest++b)),rest (h.Rest++b),h.Len+b.length⟩
def c0n (h:O0):Tag:=⟨a2t (h8 h.H) h.Rest h.Len.toNat,a88 _ _ _⟩
def hOf (l:List UInt8):O0:=⟨b1z (a01 iv l),rest l,l.length⟩
@[simp] theorem a7T:c2i=hOf []:=rfl
@[simp] theorem a3T (l m:List UInt8):a6P (hOf l) m=hOf (l++m):=by
 simp only [a6P,hOf,b5l,a5e,b1r,List.length_append]
 congr 1
@[simp] theorem a6g (l:List UInt8):c0n (hOf l)=sha l:=by
 apply I8.ext
 show a2t (h8 (b1z (a01 iv l))) (rest l) (Int.toNat (l.length:Int))=a3b l
 rw [b5l,Int.toNat_natCast];rfl
@[simp] theorem c3C (l:List UInt8):(hOf l).Rest.length=l.length % 64:=a2L l
@[simp] theorem c4e (l:List UInt8):(hOf l).Len=l.length:=rfl
end Go.Mac
namespace Go.Proofs.YtmmclghiidoldaaGreatDoor
open Go.Proofs.Tryz
open Go.Fl Go.Ab Go.Sha Go.Mac
def a6h:I8 8 Int:=⟨[0,64,32,7,0,0,0,0],rfl⟩
def glX:Gl:=⟨fun I=>Cells I 0 0 (a6h.l.map i64),fun hle h=>h.mono hle⟩
def gl:Gl:=⟨fun I=>Cells I 1 0 (kk.map Fl.u32)∧glX.p I,fun hle h=>⟨h.1.mono hle,glX.mono hle h.2⟩⟩
theorem a06 (I:Im) (h:gl.p I):E1 I (.p a6h) (ptr 0 0):=⟨0,0,_,rfl,(by repeat' (first|exact rfl|(refine⟨[_],_,rfl,⟨rfl,by decide,by decide⟩,?_⟩))),h.2⟩
theorem b1L (a:I8 8 UInt32):a.l.map Fl.u32=(h8 a).cells:=by
 rw [←c4Q a];rfl
theorem b0t {I:Im} {v:Value} {l:List UInt8}:SlA I v l↔Sl I 1 v l.length (x5 l):=by
 constructor
 ·rintro⟨xs,h1,h2⟩
  rw [a2N.1 h2] at h1;exact h1
 ·intro h;exact⟨_,h,a2N.2 rfl⟩
theorem a9s {I:Im} {h:O0} {u:Value} (hu:E1 I (.v h) u):∃ sv,u = .agg ((h8 h.H).cells ++ [sv,i64 h.Len]).toArray∧Sl I 1 sv h.Rest.length (x5 h.Rest):=by
 obtain⟨cs,⟨c1,r1,rfl,h1,c2,r2,rfl,⟨sv,rfl,h2⟩,c3,r3,rfl,⟨rfl,_⟩,h4⟩,rfl⟩:=hu
 cases h4
 have:=a6b.1 h1
 subst this
 exact⟨sv,by rw [←b1L];rfl,b0t.1 h2⟩
theorem a8x {I:Im} {h:O0} {sv:Value} (hs:Sl I 1 sv h.Rest.length (x5 h.Rest)) (h1 : -9223372036854775808≤h.Len) (h2:h.Len≤9223372036854775807):E1 I (.v h) (.agg ((h8 h.H).cells ++ [sv,i64 h.Len]).toArray):=by
 refine⟨h.H.l.map Fl.u32++([sv]++([i64 h.Len] ++ [])),⟨_,_,a8,a6b.2 a8,_,_,a8,⟨sv,a8,b0t.2 hs⟩,_,_,a8,⟨a8,h1,h2⟩,a8⟩,?_⟩
 rw [b1L];rfl
theorem a5E {I:Im} {l:List UInt8} {u:Value} (hu:E1 I (.v l) u):Sl I 1 u l.length (x5 l):=by
 obtain⟨cs,⟨v,rfl,h⟩,rfl⟩:=hu
 exact b0t.1 h
theorem b1M {I:Im} {l:List UInt8} {u:Value} (h:Sl I 1 u l.length (x5 l)):E1 I (.v l) u:=⟨[u],⟨u,rfl,b0t.2 h⟩,rfl⟩
theorem a6Q {I:Im} {t:Tag}:E1 I (.v t) (.agg (x5 t.l).toArray):=⟨x5 t.l,a2N.2 rfl,rfl⟩
theorem b5m:p4 gl prog 200 [] (fun r=>r = .v c2i):=fun I vs hG hvs=>by
 cases hvs
 refine(b4T I).mono fun v J hle hv=>⟨_,?_,a8⟩
 subst hv
 exact a8x (h:=c2i) (Sl.nil J 1) (by decide) (by decide)
theorem a2S (h : O0) (b : List UInt8) (h0 : 0 ≤ h.Len) (h1 : h.Rest.length + b.length ≤ 35184372088832) (h2 : h.Len + b.length ≤ 4611686018427387904) :
    p4 gl prog 199 [.v h,.v b] (fun r=>r = .v (a6P h b)):=fun I vs hG hvs=>by
  obtain⟨u,r,rfl,hu,u2,r2,rfl,hu2,rfl⟩:=hvs
  obtain⟨sv,rfl,hs⟩:=a9s hu
  obtain⟨n,hn⟩:=Int.eq_ofNat_of_zero_le h0
  have hw:=a6J I (h8 h.H) sv h.Rest n u2 b hs (a5E hu2) h1 (by omega) hG.1
  rw [hn]
  refine hw.mono fun v J hle ⟨sv',hv,hs'⟩=>⟨_,?_,rfl⟩
  subst hv
  have e:(a6P h b).Len=((n+b.length:Nat):Int):=by simp [a6P,hn]
  have:=a8x (I:=J) (h:=a6P h b) (sv:=sv') hs' (by rw [e];omega) (by rw [e];omega)
  rw [e] at this
  exact this
theorem b5n (h:O0) (h0:0≤h.Len) (h1:h.Rest.length≤17592186044416) (h2:h.Len≤2305843009213693952):p4 gl prog 198 [.v h] (fun r=>r = .v (c0n h)):=fun I vs hG hvs=>by
 obtain⟨u,r,rfl,hu,rfl⟩:=hvs
 obtain⟨sv,rfl,hs⟩:=a9s hu
 obtain⟨n,hn⟩:=Int.eq_ofNat_of_zero_le h0
 have hw:=b4U I (h8 h.H) sv h.Rest n hs h1 (by omega) hG.1
 rw [hn]
 refine hw.mono fun v J hle hv=>⟨_,?_,rfl⟩
 subst hv
 have e:(c0n h).l=a2t (h8 h.H) h.Rest n:=by simp [c0n,hn]
 rw [←e]
 exact a6Q
theorem c4R (b:List UInt8) (h1:b.length≤17592186044416):p4 gl prog 197 [.v b] (fun r=>r = .v (sha b)):=fun I vs hG hvs=>by
 obtain⟨u,r,rfl,hu,rfl⟩:=hvs
 refine(c1Y I u b (a5E hu) h1 hG.1).mono fun v J hle hv=>⟨_,?_,a8⟩
 subst hv
 exact a6Q (t:=sha b)
theorem a8y (b:List UInt8) (h1:b.length≤17592186044416):p4 gl prog 181 [.v b] (fun r=>r = .v (sha b)):=fun I vs hG hvs=>by
 obtain⟨u,r,rfl,hu,rfl⟩:=hvs
 refine(b9W I u b (a5E hu) h1).mono fun v J hle hv=>⟨_,?_,a8⟩
 subst hv
 rw [b5Z]
 exact a6Q (t:=sha b)
theorem b0u (n:UInt64):p4 gl prog 183 [.v n] (fun r=>r = .v (R9 n 8)):=fun I vs hG hvs=>by
 obtain⟨u,r,rfl,hu,rfl⟩:=hvs
 obtain⟨cs,rfl,rfl⟩:=hu
 exact(a9n I n).mono fun v J hle hv=>⟨_,b1M (by rw [D9];exact hv),a8⟩
open Go.Fl Go.Ab Go.Mac
theorem b3F (a b:UInt8):(a ||| b=0)↔(a=0∧b=0):=by
 rw [←UInt8.toBitVec_inj,←UInt8.toBitVec_inj,←UInt8.toBitVec_inj]
 simp only [UInt8.toBitVec_or,UInt8.toBitVec_ofNat]
 exact BitVec.or_eq_zero_iff
theorem b1N (a b:UInt8):(a ^^^ b=0)↔a=b:=by
 rw [←UInt8.toBitVec_inj,←UInt8.toBitVec_inj]
 simp only [UInt8.toBitVec_xor,UInt8.toBitVec_ofNat]
 exact BitVec.xor_eq_zero_iff
theorem a6i {α:Type} (a b:List α) (k:Nat) (h1:k < a.length) (h2:k < b.length):(a.take (k+1)=b.take (k+1))↔(a.take k=b.take k∧a[k]=b[k]):=by
 rw [List.take_succ_eq_append_getElem h1,List.take_succ_eq_append_getElem h2]
 constructor
 ·intro h
  have h3:=List.append_inj h (by simp;omega)
  exact⟨h3.1,by simpa using h3.2⟩
 ·rintro⟨h3,h4⟩
  rw [h3,h4]
theorem _root_.Go.Ab.J0.sr {P:Program} {C:Ctx} {N:Nat} {σ:x7} {H:j7} {Q:Exit→x7→j7→Prop} {id:Nat} {l:List Oper} {y:Code} (hd:K2 N l=true) (h:D0 P C N l.toArray (a58 (J0 P C N y Q) Q) l σ H):J0 P C N (.seq (.region id l.toArray false) y) Q σ H := .seq (.region hd h)
theorem _root_.Go.Ab.D0.mv {P:Program} {C:Ctx} {N:Nat} {ops:Array Oper} {σ:x7} {H:j7} {Q:Exit→x7→j7→Prop} {d t:Nat} {ty:TypeId} {ps:String} {af:Array Edge} {a:AV} {rest:List Oper} (hx:E9 σ t=some a) (k:D0 P C N ops Q rest ((d,a)::σ) H):D0 P C N ops Q (⟨some d,.move (.tmp t),ty,ps,af,none⟩::rest) σ H := .p (.move (.t hx) k)
theorem _root_.Go.Ab.D0.ag {P:Program} {C:Ctx} {N:Nat} {ops:Array Oper} {σ:x7} {H:j7} {Q:Exit→x7→j7→Prop} {d t:Nat} {ty:TypeId} {ps:String} {af:Array Edge} {a:AV} {rest:List Oper} (hx:E9 σ t=some a) (k:D0 P C N ops Q rest ((d,a)::σ) H):D0 P C N ops Q (⟨some d,.assign (.tmp t),ty,ps,af,none⟩::rest) σ H := .p (.assign (.t hx) k)
theorem _root_.Go.Ab.E6.q {C:Ctx} {σ:x7} {H:j7} {t:Nat} {a:AV} {b w:Bool} (h:E9 σ t=some (.opt (b == w) a)) (hc:b=w):E6 C σ H (.tmp t) a := .o h (beq_iff_eq.2 hc)
theorem _root_.Go.Ab.a8l.c2 {σ' σ:x7} {t u:Nat} {a b:AV} (h:E9 σ t=some a) (g:E9 σ u=some b) (k:a8l σ' σ):a8l ((t,a)::(u,b)::σ') σ := .cons h (.cons g k)
theorem _root_.Go.Ab.u4.z1 {A0 B:Bool×D6} {H:j7}:u4 (A0::B::H) B (fun X=>A0::X::H) := .s .z
theorem _root_.Go.Ab.u4.z2 {A0 A1 B:Bool×D6} {H:j7}:u4 (A0::A1::B::H) B (fun X=>A0::A1::X::H) := .s (.s .z)
theorem _root_.Go.Ab.u4.z3 {A0 A1 A2 B:Bool×D6} {H:j7}:u4 (A0::A1::A2::B::H) B (fun X=>A0::A1::A2::X::H) := .s (.s (.s .z))
theorem _root_.Go.Ab.u4.z4 {A0 A1 A2 A3 B:Bool×D6} {H:j7}:u4 (A0::A1::A2::A3::B::H) B (fun X=>A0::A1::A2::A3::X::H) := .s (.s (.s (.s .z)))
theorem _root_.Go.Ab.u4.z5 {A0 A1 A2 A3 A4 B:Bool×D6} {H:j7}:u4 (A0::A1::A2::A3::A4::B::H) B (fun X=>A0::A1::A2::A3::A4::X::H) := .s (.s (.s (.s (.s .z))))
theorem _root_.Go.Ab.u4.z6 {A0 A1 A2 A3 A4 A5 B:Bool×D6} {H:j7}:u4 (A0::A1::A2::A3::A4::A5::B::H) B (fun X=>A0::A1::A2::A3::A4::A5::X::H) := .s (.s (.s (.s (.s (.s .z)))))
theorem _root_.Go.Ab.u4.z7 {A0 A1 A2 A3 A4 A5 A6 B:Bool×D6} {H:j7}:u4 (A0::A1::A2::A3::A4::A5::A6::B::H) B (fun X=>A0::A1::A2::A3::A4::A5::A6::X::H) := .s (.s (.s (.s (.s (.s (.s .z))))))
theorem _root_.Go.Ab.u4.z8 {A0 A1 A2 A3 A4 A5 A6 A7 B:Bool×D6} {H:j7}:u4 (A0::A1::A2::A3::A4::A5::A6::A7::B::H) B (fun X=>A0::A1::A2::A3::A4::A5::A6::A7::X::H) := .s (.s (.s (.s (.s (.s (.s (.s .z)))))))
theorem _root_.Go.Ab.u4.z9 {A0 A1 A2 A3 A4 A5 A6 A7 A8 B:Bool×D6} {H:j7}:u4 (A0::A1::A2::A3::A4::A5::A6::A7::A8::B::H) B (fun X=>A0::A1::A2::A3::A4::A5::A6::A7::A8::X::H) := .s (.s (.s (.s (.s (.s (.s (.s (.s .z))))))))
theorem _root_.Go.Ab.u4.z10 {A0 A1 A2 A3 A4 A5 A6 A7 A8 A9 B:Bool×D6} {H:j7}:u4 (A0::A1::A2::A3::A4::A5::A6::A7::A8::A9::B::H) B (fun X=>A0::A1::A2::A3::A4::A5::A6::A7::A8::A9::X::H) := .s (.s (.s (.s (.s (.s (.s (.s (.s (.s .z)))))))))
theorem _root_.Go.Ab.u4.z11 {A0 A1 A2 A3 A4 A5 A6 A7 A8 A9 A10 B:Bool×D6} {H:j7}:u4 (A0::A1::A2::A3::A4::A5::A6::A7::A8::A9::A10::B::H) B (fun X=>A0::A1::A2::A3::A4::A5::A6::A7::A8::A9::A10::X::H) := .s (.s (.s (.s (.s (.s (.s (.s (.s (.s (.s .z))))))))))
theorem _root_.Go.Ab.u4.z12 {A0 A1 A2 A3 A4 A5 A6 A7 A8 A9 A10 A11 B:Bool×D6} {H:j7}:u4 (A0::A1::A2::A3::A4::A5::A6::A7::A8::A9::A10::A11::B::H) B (fun X=>A0::A1::A2::A3::A4::A5::A6::A7::A8::A9::A10::A11::X::H) := .s (.s (.s (.s (.s (.s (.s (.s (.s (.s (.s (.s .z)))))))))))
theorem _root_.Go.Ab.a7H.e1 {P:Program} {fn:Func} {C:Ctx} {post:AV→j7→Prop} {σ:x7} {H:j7} {t:Nat} {a:AV} (h:fn.results = #[.tmp t]) (ha:E9 σ t=some a) (k:post a H):a7H P fn C post .ret σ H:=⟨a,.r1 h (.tmp ha),k⟩
theorem _root_.Go.Ab.a7H.e2 {P:Program} {fn:Func} {C:Ctx} {post:AV→j7→Prop} {σ:x7} {H:j7} {t t2:Nat} {a b:AV} (h:fn.results = #[.tmp t,.tmp t2]) (ha:E9 σ t=some a) (hb:E9 σ t2=some b) (k:post (.t2 a b) H):a7H P fn C post .ret σ H:=⟨_,.r2 h (.tmp ha) (.tmp hb),k⟩
theorem _root_.Go.Ab.p4.jn {G : Gl} {P : Program} {f : FuncId} {fn : Func} {c : Code} {vs : List AV} {post : AV → Prop} {σ : x7} (hf : P.funcs[f]? = some fn) (hn : (fn.name == "runtime.NumGoroutine") = false) (N : Nat) (hb : (fn.body, fn.ntmps, Nat.ble vs.length N, b0e vs 0) = (some c, N, true, σ))
    (h:∀ C:Ctx,Ctx.Ok C→G.p C.I0→J0 P C N c (a7H P fn C (fun r _=>post r)) σ []):p4 G P f vs post:=by
  simp only [Prod.mk.injEq] at hb
  exact .intro hf hb.1 hn N hb.2.1 hb.2.2.1 σ hb.2.2.2 h
theorem _root_.Go.Ab.E4.jn {G : Gl} {P : Program} {f : FuncId} {fn : Func} {c : Code} {vs : List AV} {Hs : List D6} {post : AV → List D6 → Prop} {σ : x7} {H0 : j7} (hf : P.funcs[f]? = some fn) (hn : (fn.name == "runtime.NumGoroutine") = false) (N : Nat) (hb : (fn.body, fn.ntmps, Nat.ble vs.length N, b0e vs 0, a8m Hs) = (some c, N, true, σ, H0))
    (h:∀ C:Ctx,Ctx.Ok C→G.p C.I0→J0 P C N c (a7H P fn C (fun r H=>post r (H.map Prod.snd))) σ H0):E4 G P f vs Hs post:=by
  simp only [Prod.mk.injEq] at hb
  exact .intro hf hb.1 hn N hb.2.1 hb.2.2.1 σ hb.2.2.2.1 H0 hb.2.2.2.2 h
theorem c0o (a b:List UInt8):p4 gl prog 164 [.v a,.v b] (fun r=>r = .v (decide (a=b))):=by
 refine p4.jn func164 (by kernel_rfl) 31 rfl fun C hC hG => ?_
 refine .q 6 hG ?_
 refine .T3 0 a8 fun hl0 => ?_
 refine .q 8 hG ⟨fun hc11 => ?_,fun hc11 => ?_⟩
 ·refine .q 5 hG ?_
  refine .e1 a8 a8 ?_
  exact congrArg AV.v (by rw [eq_comm,decide_eq_false_iff_not];rintro rfl;exact hc11 rfl)
 ·refine .q 13 hG ?_
  refine .D8 (α:=Nat×UInt8) [(0,_),(1,_),(13,_)] (fun x R=>(5,.v x.2)::(14,.v (x.1:Int))::R) (fun x => []) (fun x=>x.1≤a.length∧(x.2=0↔a.take x.1=b.take x.1)) (fun x=>a.length - x.1) ((0,0)) (.c2 a8 a8 (.cons a8 (.nil _))) ?_ (.c2 a8 a8 (.c2 a8 a8 (.cons a8 (.nil _)))) (a8) fun x hF => ?_
  ·simp
  obtain⟨k,e⟩:=x
  obtain⟨h1,h2⟩:=hF
  dsimp only at h1 h2 ⊢
  refine .q 6 hG ⟨fun hc15 => ?_,fun hc15 => ?_⟩
  ·refine .q 8 hG ?_
   refine .draw (by kernel_rfl) 12 [[],[],[],[(18,1),(19,2)],[(20,3)],[],[],[(22,5),(23,6)],[(24,7)],[(21,4),(25,8)],[(17,0),(26,9)],[(27,10)]] a8 (by kernel_rfl) a8 ?_
   refine⟨_,j6.move (.t a8) a8,?_⟩
   refine⟨_,j6.move (.t a8) a8,?_⟩
   refine⟨_,j6.move (.t a8) a8,?_⟩
   refine⟨_,j6.idx ty5 underlying86 (.t a8) (.t a8) (by omega) (by omega) a8,?_⟩
   refine⟨_,j6.G6 ty5 (.t a8) a8,?_⟩
   refine⟨_,j6.move (.t a8) a8,?_⟩
   refine⟨_,j6.move (.t a8) a8,?_⟩
   refine⟨_,j6.idx ty5 underlying86 (.t a8) (.t a8) (by omega) (by omega) a8,?_⟩
   refine⟨_,j6.G6 ty5 (.t a8) a8,?_⟩
   refine⟨_,j6.b5L (.t a8) (.t a8) a8,?_⟩
   refine⟨_,j6.or8 (.t a8) (.t a8) a8,?_⟩
   refine⟨_,j6.assign (.t a8) a8,?_⟩
   show D0 _ _ _ _ _ [] ((5,_)::(27,_)::(26,_)::(25,_)::(24,_)::(23,_)::(22,_)::(21,_)::(20,_)::(19,_)::(18,_)::(17,_)::_) _
   refine .q 2 hG ?_
   refine .ad (by omega) (by omega) ?_
   refine .q 2 hG ?_
   refine⟨(k+1,_),.c2 rfl rfl (.c2 rfl rfl (.cons rfl (.nil _))),rfl,?_,by dsimp only;omega⟩
   refine⟨by dsimp only;omega,?_⟩;dsimp only;rw [a6i a b k (by omega) (by omega),b3F,b1N,h2];rfl
  ·refine .q 8 hG ?_
   refine .e1 a8 a8 ?_
   exact congrArg AV.v (by rw [decide_eq_decide,h2,List.take_of_length_le (by omega),List.take_of_length_le (by omega)])
theorem a6R (a b:List UInt8):p4 gl prog 50 [.v a,.v b] (fun r=>r = .v (decide (a=b))):=by
 refine p4.jn func50 (by kernel_rfl) 26 rfl fun C hC hG => ?_
 refine .q 6 hG ?_
 refine .T3 0 a8 fun hl0 => ?_
 refine .q 8 hG ⟨fun hc10 => ?_,fun hc10 => ?_⟩
 ·refine .q 5 hG ?_
  refine .e1 a8 a8 ?_
  exact congrArg AV.v (by rw [eq_comm,decide_eq_false_iff_not];rintro rfl;exact hc10 rfl)
 ·refine .q 7 hG ?_
  refine .D8 (α:=Nat) [(0,_),(1,_)] (fun k R=>(5,.v (k:Int))::R) (fun k => []) (fun k=>k≤a.length∧a.take k=b.take k) (fun k=>a.length - k) (0) (.c2 a8 a8 (.nil _)) ?_ (.c2 a8 a8 (.cons a8 (.nil _))) (a8) fun k hF => ?_
  ·simp
  obtain⟨h1,h2⟩:=hF
  refine .q 9 hG ⟨fun hc14 => ?_,fun hc14 => ?_⟩
  ·refine .q 4 hG ?_
   refine .draw (by kernel_rfl) 9 [[],[],[(17,0),(18,1)],[(19,2)],[],[],[(21,4),(22,5)],[(23,6)],[(20,3),(24,7)]] a8 (by kernel_rfl) a8 ?_
   refine⟨_,j6.move (.t a8) a8,?_⟩
   refine⟨_,j6.move (.t a8) a8,?_⟩
   refine⟨_,j6.idx ty5 underlying86 (.t a8) (.t a8) (by omega) (by omega) a8,?_⟩
   refine⟨_,j6.G6 ty5 (.t a8) a8,?_⟩
   refine⟨_,j6.move (.t a8) a8,?_⟩
   refine⟨_,j6.move (.t a8) a8,?_⟩
   refine⟨_,j6.idx ty5 underlying86 (.t a8) (.t a8) (by omega) (by omega) a8,?_⟩
   refine⟨_,j6.G6 ty5 (.t a8) a8,?_⟩
   refine⟨_,j6.c4t (.t a8) (.t a8) a8,?_⟩
   show D0 _ _ _ _ _ [] ((25,_)::(24,_)::(23,_)::(22,_)::(21,_)::(20,_)::(19,_)::(18,_)::(17,_)::_) _
   refine .q 2 hG ⟨fun hc25 => ?_,fun hc25 => ?_⟩
   ·refine .q 5 hG ?_
    refine .e1 a8 a8 ?_
    exact congrArg AV.v (by rw [eq_comm,decide_eq_false_iff_not];rintro rfl;exact hc25 rfl)
   ·refine .q 3 hG ?_
    refine .ad (by omega) (by omega) ?_
    refine .q 2 hG ?_
    refine⟨k+1,.c2 rfl rfl (.cons rfl (.nil _)),rfl,?_,by omega⟩
    exact⟨by omega,(a6i a b k (by omega) (by omega)).2 ⟨h2,by simpa using hc25⟩⟩
  ·refine .q 6 hG ?_
   refine .e1 a8 a8 ?_
   refine congrArg AV.v (by rw [eq_comm,decide_eq_true_eq];rwa [List.take_of_length_le (by omega),List.take_of_length_le (by omega)] at h2)
theorem b8e (x n:Int) (h0:0 < n) (h1:n≤4611686018427387904):p4 gl prog 56 [.v x,.v n] (fun r=>r = .v (x % n)):=by
 have h2:=Int.tmod_lt_of_pos x h0
 have h3 : -n < x.tmod n:=Int.lt_tmod_of_pos x h0
 have h4:(x.tmod n+n) % n=x % n:=by
  rw [Int.add_emod_right,Int.tmod_def,Int.sub_mul_emod_self_left]
 refine p4.jn func56 (by kernel_rfl) 12 rfl fun C hC hG => ?_
 refine .q 8 hG ?_
 refine .p (.tmod (.t a8) (.t a8) (by omega) ?_)
 refine .q 1 hG ?_
 refine .ad (by omega) (by omega) ?_
 refine .q 1 hG ?_
 refine .p (.rem (.t a8) (.t a8) (by omega) (by omega) ?_)
 refine .q 3 hG ?_
 refine .e1 a8 a8 ?_
 rw [h4]
def a3U (c:UInt8):Bool:=decide (97≤c)&&decide (c≤122)
def Q3 (s:Y4):Bool:=decide (1≤s.l.length)&&decide (s.l.length≤16)&&s.l.all a3U
theorem all_succ {α:Type} (p:α→Bool) (l:List α) (k:Nat) (h:k < l.length):(l.take (k+1)).all p=((l.take k).all p&&p l[k]):=by
 rw [List.take_succ_eq_append_getElem h,List.all_append];simp
theorem b0v {α:Type} (p:α→Bool) (l:List α) (k:Nat) (h:k < l.length) (hf:p l[k]=false):l.all p=false:=by
 rw [List.all_eq_false];exact⟨l[k],List.getElem_mem h,by simp [hf]⟩
theorem b0w (s:Y4):p4 gl prog 119 [.v s] (fun r=>r = .v (Q3 s)):=by
 refine p4.jn func119 (by kernel_rfl) 28 rfl fun C hC hG => ?_
 refine .q 6 hG ?_
 refine .a9p 0 a8 fun hs => ?_
 refine .q 10 hG ?_
 refine .cond (.t a8) (fun hc11 => ?_) (fun hc11 => ?_)
 ·refine .q 5 hG ?_
  refine .e1 a8 a8 ?_
  refine congrArg AV.v ?_;simp only [Bool.or_eq_true,decide_eq_true_eq] at hc11;unfold Q3;rcases hc11 with h|h
  ·rw [decide_eq_false (show ¬1≤s.l.length by omega)];rfl
  ·rw [decide_eq_false (show ¬s.l.length≤16 by omega)];simp
 ·refine .q 7 hG ?_
  refine .D8 (α:=Nat) [(0,_)] (fun k R=>(3,.v (k:Int))::R) (fun k => []) (fun k=>k≤s.l.length∧(s.l.take k).all a3U=true) (fun k=>s.l.length - k) (0) (.cons a8 (.nil _)) ?_ (.c2 a8 a8 (.nil _)) (a8) fun k hF => ?_
  ·simp
  obtain⟨h1,h2⟩:=hF
  refine .q 9 hG ⟨fun hc15 => ?_,fun hc15 => ?_⟩
  ·refine .q 7 hG ?_
   refine .p (.b5a underlying9 (.t a8) (.t a8) (by omega) (by omega) ?_)
   refine .q 4 hG ?_
   refine .go 22 a8 (.t a8) (fun hg25 => .b5a underlying9 (.q a8 hg25) (.q a8 hg25) (by first|omega|(simp;omega)|(have:=hg25;simp at this;omega)) (by first|omega|(simp;omega)|(have:=hg25;simp at this;omega)) a8) ?_
   refine .q 3 hG ?_
   refine .cond (.t a8) (fun hc27 => ?_) (fun hc27 => ?_)
   ·refine .q 5 hG ?_
    refine .e1 a8 a8 ?_
    refine congrArg AV.v (Eq.symm ?_);unfold Q3;rw [b0v a3U s.l k (by omega),Bool.and_false];unfold a3U;simp only [Bool.or_eq_true,decide_eq_true_eq,Int.toNat_natCast] at hc27;rcases hc27 with h|h
    ·rw [decide_eq_false (UInt8.not_le.2 h)];rfl
    ·rw [decide_eq_false (UInt8.not_le.2 h),Bool.and_false]
   ·refine .q 3 hG ?_
    refine .ad (by omega) (by omega) ?_
    refine .q 2 hG ?_
    refine⟨k+1,.c2 rfl rfl (.nil _),rfl,?_,by omega⟩
    refine⟨by omega,?_⟩;rw [all_succ _ _ _ (by omega),h2];simp only [Bool.or_eq_false_iff,decide_eq_false_iff_not,UInt8.not_lt,Int.toNat_natCast] at hc27;simpa [a3U] using hc27
  ·refine .q 6 hG ?_
   refine .e1 a8 a8 ?_
   refine congrArg AV.v (Eq.symm ?_);simp only [Bool.or_eq_false_iff,decide_eq_false_iff_not] at hc11;unfold Q3;rw [List.take_of_length_le (by omega)] at h2;rw [h2];simp;omega
def a89 (key:List UInt8):List UInt8:=key++List.replicate (64 - key.length) 0
def a13 (key:List UInt8) (x:UInt8):List UInt8:=(a89 key).map (· ^^^ x)
theorem a4C (key:List UInt8) (h:key.length≤64):(a89 key).length=64:=by simp [a89];omega
@[simp] theorem c2k (key:List UInt8) (x:UInt8):(a13 key x).length=max 64 key.length:=by simp [a13,a89];omega
theorem a5m (key:List UInt8) (x:UInt8) (h:key.length≤64):(a13 key x).length=64:=by simp [a13,a4C key h]
theorem b6h {α:Type} (f:α→α) (l:List α) (k:Nat) (h:k < l.length):((l.take k).map f++l.drop k).set k (f l[k])=(l.take (k+1)).map f++l.drop (k+1):=by
 rw [List.set_append_right _ _ (by simp;omega)]
 have e:k - ((l.take k).map f).length=0:=by simp;omega
 rw [e,List.drop_eq_getElem_cons h,List.set_cons_zero,List.take_succ_eq_append_getElem h]
 simp only [List.map_append,List.map_cons,List.map_nil,List.append_assoc,List.cons_append,List.nil_append]
theorem a9a {α:Type} (f:α→α) (l:List α) (k:Nat) (h:k < l.length) (h2:k < ((l.take k).map f++l.drop k).length):((l.take k).map f++l.drop k)[k]=l[k]:=by
 rw [List.getElem_append_right (by simp;omega)]
 simp [Nat.min_eq_left (Nat.le_of_lt h)]
theorem b8f {α:Type} (f:α→α) (l:List α) (k:Nat) (h:k < l.length) (h2:k < ((l.take k).map f++l.drop k).length):((l.take k).map f++l.drop k).set k (f (((l.take k).map f++l.drop k)[k]))=(l.take (k+1)).map f++l.drop (k+1):=by
 rw [a9a f l k h h2];exact b6h f l k h
theorem b6i (key:List UInt8) (f:UInt8→UInt8) (hk:key.length≤64):key.take (List.replicate 64 (0:UInt8)).length++(List.replicate 64 (0:UInt8)).drop key.length=((a89 key).take 0).map f++(a89 key).drop 0:=by
 rw [List.length_replicate,List.drop_replicate,List.take_of_length_le hk]
 rfl
theorem c3D (key:List UInt8) (hk:key.length≤64):(key.take (List.replicate (Int.toNat 64) (default:UInt8)).length++(List.replicate (Int.toNat 64) (default:UInt8)).drop key.length).length=64:=by
 rw [List.length_append,List.length_take,List.length_drop,List.length_replicate]
 show min 64 key.length+(64 - key.length)=64
 omega
theorem b5o (key:List UInt8) (x:UInt8) (hk:key.length≤64):p4 gl prog 201 [.v key,.v x] (fun r=>r = .v (a13 key x)):=by
 have hl:=a4C key hk
 have e64:=c3D key hk
 refine p4.jn func201 (by kernel_rfl) 25 rfl fun C hC hG => ?_
 refine .q 6 hG ?_
 refine .h (.make P3 (.i a8) (by omega) (by omega) (by omega) fun b7 => ?_)
 refine .q 6 hG ?_
 refine .h (.c0c ty5 underlying86 a8 .z (.v (.t a8)) (by omega) ?_)
 refine .q 5 hG ?_
 refine .p (.a4v underlying86 a8 .z ?_)
 refine .q 3 hG ?_
 refine .D8 (α:=Nat) [(1,_),(5,_),(12,_)] (fun k R=>(13,.v (k:Int))::R) (fun k => [(true,.own 5 (slc b7 0 64 64) (((a89 key).take k).map (· ^^^ x)++(a89 key).drop k))]) (fun k=>k≤64) (fun k=>64 - k) (0) (.c2 a8 a8 (.cons a8 (.nil _))) ?_ (.c2 a8 a8 (.c2 a8 a8 (.nil _))) (congrArg (fun q => [(true,D6.own _ _ q)]) (b6i key _ hk)) fun k hF => ?_
 ·simp
 refine .q 6 hG ⟨fun hc14 => ?_,fun hc14 => ?_⟩
 ·refine .q 11 hG ?_
  refine .p (.V2 ty5 underlying86 a8 .z (.t a8) (by omega) (by simp<;>omega) (.p (.b1B ty5 (.t a8) .z (by simp<;>omega) ?_)))
  refine .q 2 hG ?_
  refine .p (.V2 ty5 underlying86 a8 .z (.t a8) (by omega) (by simp<;>omega) (.n (.b0m ty5 (.t a8) (.t a8) .z (by simp<;>omega) ?_)))
  refine .q 2 hG ?_
  refine .ad (by omega) (by omega) ?_
  refine .q 2 hG ?_
  refine⟨k+1,.c2 rfl rfl (.c2 rfl rfl (.nil _)),congrArg (fun q => [(true,D6.own _ _ q)]) (b8f (· ^^^ x) (a89 key) k (by omega) _),?_,by omega⟩
  omega
 ·refine .q 6 hG ?_
  refine .u0 hC .z (.as 4 a8 .z ?_)
  refine .q 1 hG ?_
  refine .e1 a8 a8 ?_
  refine congrArg AV.v ?_;have:k=64:=by simp at hc14;omega
  subst this;rw [List.take_of_length_le (by omega),List.drop_eq_nil_of_le (by omega),List.append_nil];rfl
theorem a6j {α:Type} (P:List α) (z:α) (n k:Nat) (hn:P.length=n) (h:k < n) (v:α) (hv:P[k]'(by omega)=v):(P.take k++List.replicate (n - k) z).set k v=P.take (k+1)++List.replicate (n - (k+1)) z:=by
 rw [List.set_append_right _ _ (by simp;omega)]
 have e:k - (P.take k).length=0:=by simp;omega
 rw [e,show n - k=(n - (k+1))+1 by omega,List.replicate_succ,List.set_cons_zero,List.take_succ_eq_append_getElem (by omega),hv]
 simp
theorem a3V (key:List UInt8) (x:UInt8) (k:Nat) (h:k < (a13 key x).length):(a13 key x)[k]=(if h2:k < key.length then key[k] ^^^ x else x):=by
 simp only [a13,a89,List.getElem_map]
 by_cases h2:k < key.length
 ·rw [List.getElem_append_left h2,dif_pos h2]
 ·rw [List.getElem_append_right (by omega),dif_neg h2];simp
theorem a4Z (key:List UInt8) (x:UInt8) (hk:key.length≤64):p4 gl prog 182 [.v key,.v x] (fun r=>r = .vc (a13 key x)):=by
 have hl:=a4C key hk
 have hl2:=a5m key x hk
 refine p4.jn func182 (by kernel_rfl) 30 rfl fun C hC hG => ?_
 refine .q 6 hG ?_
 refine .h (.make P3 (.i a8) (by omega) (by omega) (by omega) fun b7 => ?_)
 refine .q 4 hG ?_
 skip
 refine .q 4 hG ?_
 refine .D8 (α:=Nat) [(0,_),(1,_),(5,_)] (fun k R=>(6,.v (k:Int))::R) (fun k => [(true,.own 5 (slc b7 0 64 64) ((a13 key x).take k++List.replicate (64 - k) 0))]) (fun k=>k≤64) (fun k=>64 - k) (0) (.c2 a8 a8 (.cons a8 (.nil _))) ?_ (.c2 a8 a8 (.c2 a8 a8 (.nil _))) (a8) fun k hF => ?_
 ·omega
 refine .q 7 hG ⟨fun hc9 => ?_,fun hc9 => ?_⟩
 ·refine .q 8 hG ?_
  refine .p (.V2 ty5 underlying86 a8 .z (.t a8) (by omega) (by simp<;>omega) (.n (.b0m ty5 (.t a8) (.t a8) .z (by simp<;>omega) ?_)))
  refine .q 9 hG ⟨fun hc19 => ?_,fun hc19 => ?_⟩
  ·refine .q 5 hG ?_
   refine .ix (by omega) (by omega) ?_
   refine .q 3 hG ?_
   refine .p (.V2 ty5 underlying86 a8 .z (.t a8) (by omega) (by simp<;>omega) (.n (.b0m ty5 (.t a8) (.t a8) .z (by simp<;>omega) ?_)))
   refine .q 3 hG ?_
   refine .ad (by omega) (by omega) ?_
   refine .q 2 hG ?_
   refine⟨k+1,.c2 rfl rfl (.c2 rfl rfl (.nil _)),congrArg (fun q => [(true,D6.own _ _ q)]) (by first|exact a6j _ 0 64 k hl2 (by omega) x (by rw [a3V,dif_neg (by omega)])|exact(List.set_set ..).trans (a6j _ 0 64 k hl2 (by omega) _ (by rw [a3V,dif_pos (by omega)];rfl))),?_,by omega⟩
   omega
  ·refine .q 3 hG ?_
   refine .ad (by omega) (by omega) ?_
   refine .q 2 hG ?_
   refine⟨k+1,.c2 rfl rfl (.c2 rfl rfl (.nil _)),congrArg (fun q => [(true,D6.own _ _ q)]) (by first|exact a6j _ 0 64 k hl2 (by omega) x (by rw [a3V,dif_neg (by omega)])|exact(List.set_set ..).trans (a6j _ 0 64 k hl2 (by omega) _ (by rw [a3V,dif_pos (by omega)];rfl))),?_,by omega⟩
   omega
 ·refine .q 6 hG ?_
  refine .c4p hC .z (by rw [List.length_append,List.length_take,List.length_replicate,hl2];omega) (.as 4 a8 .z ?_)
  refine .q 1 hG ?_
  refine .e1 a8 a8 ?_
  refine congrArg AV.vc ?_;have:k=64:=by omega
  subst this;rw [List.take_of_length_le (by rw [a5m key x hk];omega)];simp
def a0e (key m:List UInt8):Tag :=
 let k:=if key.length>64 then (sha key).l else key
 sha (a13 k 92++(sha (a13 k 54++m)).l)
theorem a41 (key m:List UInt8) (h1:key.length≤1000000) (h2:m.length≤1000000):p4 gl prog 133 [.v key,.v m] (fun r=>r = .v (a0e key m)):=by
 refine p4.jn func133 (by kernel_rfl) 23 rfl fun C hC hG => ?_
 refine .q 3 hG fun b4 => ?_
 refine .q 9 hG ⟨fun hc9 => ?_,fun hc9 => ?_⟩
 ·refine .q 3 hG ?_
  refine .k hG (a8y _ (by omega)) ?_
  refine .q 1 hG fun b5 => ?_
  refine .q 1 hG ?_
  refine .y6 hC .z (.L6 5 a8 .z ?_)
  refine .q 2 hG ?_
  refine .p (.O6 (by decide) M6 (.t a8) ?_)
  refine .q 5 hG ?_
  refine .p (.o8 hG (a4Z _ _ (by simp)) (.cons (.t a8) (.cons (.u8 54 a8) .nil)) ?_)
  refine .q 1 hG ?_
  refine .p (.a0z P3 (.inl ⟨_,underlying86⟩) (.t a8) (.v (.t a8)) (by simp<;>omega) (by simp<;>omega) ?_)
  refine .k hG (a8y _ (by simp<;>omega)) ?_
  refine .q 1 hG fun b6 => ?_
  refine .q 1 hG ?_
  refine .y6 hC .z (.L6 6 a8 .z ?_)
  refine .q 2 hG ?_
  refine .draw (by kernel_rfl) 5 [[],[(18,0)],[],[(19,1),(20,2)],[(21,3)]] a8 (by kernel_rfl) a8 ?_
  refine⟨_,j6.move (.t a8) a8,?_⟩
  refine⟨_,j6.o8 hG (a4Z _ _ (by simp)) (.cons (.t a8) (.cons (.u8 92 a8) .nil)) a8,?_⟩
  refine⟨_,j6.O6 (by decide) M6 (.t a8) a8,?_⟩
  refine⟨_,j6.a0z P3 (.inl ⟨_,underlying86⟩) (.t a8) (.v (.t a8)) (by simp) (by simp) a8,?_⟩
  refine⟨_,j6.o8 hG (a8y _ (by simp)) (.cons (.t a8) .nil) a8,?_⟩
  show D0 _ _ _ _ _ [_] ((22,_)::(21,_)::(20,_)::(19,_)::(18,_)::_) _
  refine .q 3 hG ?_
  refine⟨_,.r1 a8 (.cell A5 a8 .z2),?_⟩
  show _=AV.v (a0e key m)
  simp only [a0e,if_pos (show key.length>64 by omega),a7T,a3T,a6g,List.nil_append]
 ·refine .q 4 hG ?_
  refine .p (.o8 hG (a4Z _ _ (by omega)) (.cons (.t a8) (.cons (.u8 54 a8) .nil)) ?_)
  refine .q 1 hG ?_
  refine .p (.a0z P3 (.inl ⟨_,underlying86⟩) (.t a8) (.v (.t a8)) (by simp<;>omega) (by simp<;>omega) ?_)
  refine .k hG (a8y _ (by simp<;>omega)) ?_
  refine .q 1 hG fun b6 => ?_
  refine .q 1 hG ?_
  refine .y6 hC .z (.L6 6 a8 .z ?_)
  refine .q 2 hG ?_
  refine .draw (by kernel_rfl) 5 [[],[(18,0)],[],[(19,1),(20,2)],[(21,3)]] a8 (by kernel_rfl) a8 ?_
  refine⟨_,j6.move (.t a8) a8,?_⟩
  refine⟨_,j6.o8 hG (a4Z _ _ (by omega)) (.cons (.t a8) (.cons (.u8 92 a8) .nil)) a8,?_⟩
  refine⟨_,j6.O6 (by decide) M6 (.t a8) a8,?_⟩
  refine⟨_,j6.a0z P3 (.inl ⟨_,underlying86⟩) (.t a8) (.v (.t a8)) (by simp<;>omega) (by simp<;>omega) a8,?_⟩
  refine⟨_,j6.o8 hG (a8y _ (by simp<;>omega)) (.cons (.t a8) .nil) a8,?_⟩
  show D0 _ _ _ _ _ [_] ((22,_)::(21,_)::(20,_)::(19,_)::(18,_)::_) _
  refine .q 3 hG ?_
  refine⟨_,.r1 a8 (.cell A5 a8 .z1),?_⟩
  show _=AV.v (a0e key m)
  simp only [a0e,if_neg (show ¬key.length>64 by omega),a7T,a3T,a6g,List.nil_append]
theorem a8z (key m:List UInt8) (h1:key.length≤1000000) (h2:m.length≤1000000):p4 gl prog 161 [.v key,.v m] (fun r=>r = .v (a0e key m)):=by
 refine p4.jn func161 (by kernel_rfl) 27 rfl fun C hC hG => ?_
 refine .q 3 hG fun b4 => ?_
 refine .q 9 hG ⟨fun hc9 => ?_,fun hc9 => ?_⟩
 ·refine .q 3 hG ?_
  refine .k hG (c4R _ (by omega)) ?_
  refine .q 1 hG fun b5 => ?_
  refine .q 1 hG ?_
  refine .y6 hC .z (.L6 5 a8 .z ?_)
  refine .q 2 hG ?_
  refine .p (.O6 (by decide) M6 (.t a8) ?_)
  refine .q 4 hG ?_
  refine .k hG (b5m) ?_
  refine .q 1 hG ?_
  refine .p (.o8 hG (b5o _ _ (by simp)) (.cons (.t a8) (.cons (.u8 54 a8) .nil)) (.p (.o8 hG (a2S _ _ (by simp) (by simp) (by simp)) (.cons (.t a8) (.cons (.t a8) .nil)) ?_)))
  refine .q 1 hG ?_
  refine .p (.o8 hG (a2S _ _ (by simp) (by simp<;>omega) (by simp<;>omega)) (.cons (.t a8) (.cons (.t a8) .nil)) ?_)
  refine .k hG (b5n _ (by simp<;>omega) (by simp<;>omega) (by simp<;>omega)) ?_
  refine .q 1 hG fun b6 => ?_
  refine .q 1 hG ?_
  refine .y6 hC .z (.L6 6 a8 .z ?_)
  refine .q 2 hG ?_
  refine .draw (by kernel_rfl) 7 [[],[],[(21,1)],[(20,0),(22,2)],[],[(23,3),(24,4)],[(25,5)]] a8 (by kernel_rfl) a8 ?_
  refine⟨_,j6.o8 hG (b5m) .nil a8,?_⟩
  refine⟨_,j6.move (.t a8) a8,?_⟩
  refine⟨_,j6.o8 hG (b5o _ _ (by simp)) (.cons (.t a8) (.cons (.u8 92 a8) .nil)) a8,?_⟩
  refine⟨_,j6.o8 hG (a2S _ _ (by simp) (by simp) (by simp)) (.cons (.t a8) (.cons (.t a8) .nil)) a8,?_⟩
  refine⟨_,j6.O6 (by decide) M6 (.t a8) a8,?_⟩
  refine⟨_,j6.o8 hG (a2S _ _ (by simp) (by simp) (by simp)) (.cons (.t a8) (.cons (.t a8) .nil)) a8,?_⟩
  refine⟨_,j6.o8 hG (b5n _ (by simp) (by simp) (by simp)) (.cons (.t a8) .nil) a8,?_⟩
  show D0 _ _ _ _ _ [_] ((26,_)::(25,_)::(24,_)::(23,_)::(22,_)::(21,_)::(20,_)::_) _
  refine .q 3 hG ?_
  refine⟨_,.r1 a8 (.cell A5 a8 .z2),?_⟩
  show _=AV.v (a0e key m)
  simp only [a0e,if_pos (show key.length>64 by omega),a7T,a3T,a6g,List.nil_append]
 ·refine .q 3 hG ?_
  refine .k hG (b5m) ?_
  refine .q 1 hG ?_
  refine .p (.o8 hG (b5o _ _ (by omega)) (.cons (.t a8) (.cons (.u8 54 a8) .nil)) (.p (.o8 hG (a2S _ _ (by simp) (by simp<;>omega) (by simp<;>omega)) (.cons (.t a8) (.cons (.t a8) .nil)) ?_)))
  refine .q 1 hG ?_
  refine .p (.o8 hG (a2S _ _ (by simp) (by simp<;>omega) (by simp<;>omega)) (.cons (.t a8) (.cons (.t a8) .nil)) ?_)
  refine .k hG (b5n _ (by simp<;>omega) (by simp<;>omega) (by simp<;>omega)) ?_
  refine .q 1 hG fun b6 => ?_
  refine .q 1 hG ?_
  refine .y6 hC .z (.L6 6 a8 .z ?_)
  refine .q 2 hG ?_
  refine .draw (by kernel_rfl) 7 [[],[],[(21,1)],[(20,0),(22,2)],[],[(23,3),(24,4)],[(25,5)]] a8 (by kernel_rfl) a8 ?_
  refine⟨_,j6.o8 hG (b5m) .nil a8,?_⟩
  refine⟨_,j6.move (.t a8) a8,?_⟩
  refine⟨_,j6.o8 hG (b5o _ _ (by omega)) (.cons (.t a8) (.cons (.u8 92 a8) .nil)) a8,?_⟩
  refine⟨_,j6.o8 hG (a2S _ _ (by simp) (by simp<;>omega) (by simp<;>omega)) (.cons (.t a8) (.cons (.t a8) .nil)) a8,?_⟩
  refine⟨_,j6.O6 (by decide) M6 (.t a8) a8,?_⟩
  refine⟨_,j6.o8 hG (a2S _ _ (by simp) (by simp<;>omega) (by simp<;>omega)) (.cons (.t a8) (.cons (.t a8) .nil)) a8,?_⟩
  refine⟨_,j6.o8 hG (b5n _ (by simp<;>omega) (by simp<;>omega) (by simp<;>omega)) (.cons (.t a8) .nil) a8,?_⟩
  show D0 _ _ _ _ _ [_] ((26,_)::(25,_)::(24,_)::(23,_)::(22,_)::(21,_)::(20,_)::_) _
  refine .q 3 hG ?_
  refine⟨_,.r1 a8 (.cell A5 a8 .z1),?_⟩
  show _=AV.v (a0e key m)
  simp only [a0e,if_neg (show ¬key.length>64 by omega),a7T,a3T,a6g,List.nil_append]
open Go.Fl Go.Ab Go.Mac Go.Sha
theorem b6j (n:Int) (h0:0≤n) (h1:n < 9223372036854775808) (k:Nat) (hk:k < 64):UInt8.ofInt (n >>> k)=(UInt64.ofInt n >>> UInt64.ofNat k).toUInt8:=by
 obtain⟨m,rfl⟩:=Int.eq_ofNat_of_zero_le h0
 rw [show((m:Int) >>> k)=((m >>> k:Nat):Int) from rfl]
 apply UInt8.toNat_inj.1
 have e1:(UInt64.ofInt (m:Int)).toNat=m % 2^64:=by
  simp [UInt64.ofInt];omega
 have e2:(UInt64.ofNat k).toNat=k:=by simp;omega
 have e3:(UInt8.ofInt ((m >>> k:Nat):Int)).toNat=(m >>> k) % 256:=by
  generalize m >>> k=q
  simp [UInt8.ofInt];omega
 rw [e3,UInt64.toNat_toUInt8,UInt64.toNat_shiftRight,e1,e2]
 rw [Nat.mod_eq_of_lt hk,Nat.mod_eq_of_lt (show m < 2^64 by omega)]
attribute [local simp] D9
def derive (key:Tag) (name:Y4) (n:Int):Tag×Int :=
 if Q3 name=false then (default,7) else if n < 0∨281474976710656 < n then (default,1) else (a0e key.l (name.l ++ [0]++R9 (UInt64.ofInt n) 8),0)
theorem b6k (key:Tag) (name:Y4) (n:Int) (hs:name.l.length≤1000):p4 gl prog 137 [.v key,.v name,.v n] (fun r=>r = .t2 (.v (derive key name n).1) (.v (derive key name n).2)):=by
 refine p4.jn func137 (by kernel_rfl) 29 rfl fun C hC hG => ?_
 refine .q 3 hG fun b3 => ?_
 refine .q 1 hG fun b6 => ?_
 refine .q 6 hG ?_
 refine .k hG (b0w _) ?_
 refine .q 2 hG ?_
 refine .cond (.t a8) (fun hc10 => ?_) (fun hc10 => ?_)
 ·refine .q 2 hG ?_
  refine .p (.M8 (default:(I8 32 UInt8)) A5 M6 .nil a8 ?_)
  refine .q 4 hG ?_
  refine⟨_,.r2 a8 (.cell A5 a8 .z) (.tmp a8),?_⟩
  have e:derive key name n=(default,7):=by unfold derive;rw [if_pos (by simpa using hc10)]
  rw [e]
 ·refine .q 11 hG ?_
  refine .cond (.t a8) (fun hc17 => ?_) (fun hc17 => ?_)
  ·refine .q 2 hG ?_
   refine .p (.M8 (default:(I8 32 UInt8)) A5 M6 .nil a8 ?_)
   refine .q 4 hG ?_
   refine⟨_,.r2 a8 (.cell A5 a8 .z) (.tmp a8),?_⟩
   have e:derive key name n=(default,1):=by unfold derive;rw [if_neg (by simpa using hc10),if_pos (by simpa using hc17)]
   rw [e]
  ·refine .q 2 hG ?_
   refine .y6 hC .z1 (.L6 3 a8 .z1 (.a7h (by kernel_rfl) 10 [[],[],[(20,1)],[],[(21,2),(22,3)],[],[(24,5)],[(25,6)],[(23,4),(26,7)],[(19,0),(27,8)]] [2,4,8,9] a8 (by kernel_rfl) a8 (by kernel_rfl) (by decide) ?_))
   refine⟨_,fun H=>j6.O6 (by decide) M6 (.t a8) a8,?_⟩
   refine⟨_,fun H=>j6.move (.t a8) a8,?_⟩
   refine .inl ?_
   refine⟨_,fun H=>j6.E7 (α:=UInt8) ty5 underlying86 (.cons (.u8 0 a8) .nil) a8 (by decide) a8,?_⟩
   refine .inl ?_
   refine⟨_,fun H=>j6.move (.t a8) a8,?_⟩
   refine⟨_,fun H=>j6.a1r underlying3 underlying77 (.t a8) a8,?_⟩
   refine⟨_,fun H=>j6.o8 hG (b0u _) (.cons (.t a8) .nil) a8,?_⟩
   refine .inl (.inl ?_)
   refine A0.W9 underlying9 underlying86 underlying5 (.t rfl) fun w21 => ?_
   refine A0.append P3 (.inl ⟨_,underlying86⟩) rfl .z (.v (.c rfl)) (by simp<;>omega) (by simp<;>omega) (fun w23 => ?_) rfl
   refine A0.append P3 (.inl ⟨_,underlying86⟩) rfl .z (.v (.t rfl)) (by simp<;>omega) (by simp<;>omega) (fun w27 => ?_) rfl
   refine A0.u0 hC .z (A0.as 27 rfl .z (A0.ofP (j6.o8 hG (a41 _ _ (by simp) (by simp<;>omega)) (.cons (.t rfl) (.cons (.t rfl) .nil)) ?_)))
   show D0 _ _ _ _ _ [_,_] ((28,_)::(27,_)::(26,_)::(25,_)::(24,_)::(23,_)::(22,_)::(21,_)::(20,_)::(19,_)::_) _
   refine .q 4 hG ?_
   refine⟨_,.r2 a8 (.cell A5 a8 .z1) (.tmp a8),?_⟩
   have e:derive key name n=(a0e key.l (name.l ++ [0]++R9 (UInt64.ofInt n) 8),0):=by unfold derive;rw [if_neg (by simpa using hc10),if_neg (by simpa using hc17)]
   rw [e]
abbrev dk (w:Value):AV := .ln w (j9.id (α:=m5))
theorem a9t (l:List Int):E4 gl prog 12 [.v l] [] (fun r Hs=>∃ b,r=dk (ptr b 0)∧Hs = [.ob (ptr b 0) (⟨l,0⟩:m5)]):=by
 refine E4.jn func12 (by kernel_rfl) 6 rfl fun C hC hG => ?_
 refine .q 2 hG ?_
 refine .p (.assign .raw ?_)
 refine .q 4 hG ?_
 refine .p (.bS1 m5.l0 a8 c3x c27 (fun c0=>(⟨c0,0⟩:m5)) (fun _=>a8) a8 a8 (.t a8) ?_)
 refine .q 1 hG fun b5 => ?_
 refine .q 3 hG ?_
 refine .e1 a8 a8 ?_
 exact⟨b5,a8,a8⟩
def O7 (d:m5) (n:Int):Int×m5 :=
 if h:d.At.toNat < d.L.length then (d.L[d.At.toNat] % n,⟨d.L,d.At+1⟩) else (0,d)
def G1 (d:m5):Prop:=0≤d.At
theorem O8 {d:m5} {n:Int} (h:G1 d):G1 (O7 d n).2:=by
 unfold O7;split
 ·show 0≤d.At+1
  unfold G1 at h;omega
 ·exact h
theorem T6 {d:m5} {n:Int} (h:0 < n):0≤(O7 d n).1∧(O7 d n).1 < n:=by
 unfold O7;split
 ·exact⟨Int.emod_nonneg _ (by omega),Int.emod_lt_of_pos _ h⟩
 ·exact⟨Int.le_refl 0,h⟩
theorem a2z (w : Value) (d : m5) (n : Int) (hd : G1 d) (h0 : 0 < n) (h1 : n ≤ 4611686018427387904) :
    E4 gl prog 19 [dk w,.v n] [.ob w d] (fun r Hs=>r = .v (O7 d n).1∧Hs = [.ob w (O7 d n).2]):=by
  unfold G1 at hd
  refine E4.jn func19 (by kernel_rfl) 35 rfl fun C hC hG => ?_
  refine .q 6 hG ?_
  refine .draw (by kernel_rfl) 10 [[],[(5,0)],[(6,1)],[(7,2)],[],[(9,4)],[(10,5)],[(11,6)],[(12,7)],[(8,3),(13,8)]] a8 (by kernel_rfl) a8 ?_
  refine⟨_,j6.move (.t a8) a8,?_⟩
  refine⟨_,j6.F1 (.t a8) a8,?_⟩
  refine⟨_,j6.A9 m5.l1 a7N a8 (.t a8) a8,?_⟩
  refine⟨_,j6.ldF (fun x=>x.At) P5 (.t a8) .z (fun _=>a8) a8,?_⟩
  refine⟨_,j6.move (.t a8) a8,?_⟩
  refine⟨_,j6.F1 (.t a8) a8,?_⟩
  refine⟨_,j6.A9 m5.l0 b4E a8 (.t a8) a8,?_⟩
  refine⟨_,j6.ldF (fun x=>x.L) c3w (.t a8) .z (fun _=>a8) a8,?_⟩
  refine⟨_,j6.len underlying33 (.t a8) a8,?_⟩
  refine⟨_,j6.geq (.t a8) (.t a8) a8,?_⟩
  show D0 _ _ _ _ _ [] ((14,_)::(13,_)::(12,_)::(11,_)::(10,_)::(9,_)::(8,_)::(7,_)::(6,_)::(5,_)::_) _
  refine .q 2 hG ⟨fun hc14 => ?_,fun hc14 => ?_⟩
  · refine .q 5 hG ?_
    refine .e1 a8 a8 ?_
    have e:O7 d n=(0,d):=by unfold O7;rw [dif_neg (by omega)]
    rw [e];exact⟨rfl,rfl⟩
  · refine .q 2 hG ?_
    refine .T3 12 a8 fun hl => ?_
    refine .q 1 hG ?_
    refine .mv a8 (.p (.F1 (.t a8) (.p (.A9 m5.l1 a7N a8 (.t a8) (.p (.ldF (fun x=>x.At) P5 (.t a8) .z (fun _=>a8) ?_))))))
    refine .ad (by omega) (by omega) (.p (.F1 (.t a8) (.p (.A9 m5.l1 a7N a8 (.t a8) (.n (.stF (fun y x => { x with At:=y }) P5 (.t a8) (.t a8) .z (fun _ _=>a8) ?_))))))
    refine .q 2 hG ?_
    refine .draw (by kernel_rfl) 14 [[],[(22,0)],[(23,1)],[(24,2)],[],[(26,4)],[(27,5)],[(28,6)],[(29,7)],[(25,3),(30,8)],[(31,9)],[],[(32,10),(33,11)],[(34,12)]] a8 (by kernel_rfl) a8 ?_
    refine⟨_,j6.move (.t a8) a8,?_⟩
    refine⟨_,j6.F1 (.t a8) a8,?_⟩
    refine⟨_,j6.A9 m5.l0 b4E a8 (.t a8) a8,?_⟩
    refine⟨_,j6.ldF (fun x=>x.L) c3w (.t a8) .z (fun _=>a8) a8,?_⟩
    refine⟨_,j6.move (.t a8) a8,?_⟩
    refine⟨_,j6.F1 (.t a8) a8,?_⟩
    refine⟨_,j6.A9 m5.l1 a7N a8 (.t a8) a8,?_⟩
    refine⟨_,j6.ldF (fun x=>x.At) P5 (.t a8) .z (fun _=>a8) a8,?_⟩
    refine⟨_,j6.sub (.t a8) (.i a8) (by simp<;>omega) (by simp<;>omega) a8,?_⟩
    refine⟨_,j6.idx P5 underlying33 (.t a8) (.t a8) (by simp<;>omega) (by simp<;>omega) a8,?_⟩
    refine⟨_,j6.G6 P5 (.t a8) a8,?_⟩
    refine⟨_,j6.move (.t a8) a8,?_⟩
    refine⟨_,j6.o8 hG (b8e _ _ (by omega) (by omega)) (.cons (.t a8) (.cons (.t a8) .nil)) a8,?_⟩
    refine⟨_,j6.assign (.t a8) a8,?_⟩
    show D0 _ _ _ _ _ [] ((4,_)::(34,_)::(33,_)::(32,_)::(31,_)::(30,_)::(29,_)::(28,_)::(27,_)::(26,_)::(25,_)::(24,_)::(23,_)::(22,_)::_) _
    refine .q 2 hG ?_
    refine .e1 a8 a8 ?_
    have e:O7 d n=(d.L[d.At.toNat]'(by omega) % n,⟨d.L,d.At+1⟩):=by unfold O7;rw [dif_pos (by omega)]
    rw [e];refine⟨congrArg AV.v ?_,rfl⟩;simp only [Int.add_sub_cancel]
theorem a07 (a b:List UInt8):p4 gl prog 101 [.v a,.v b] (fun r=>r = .v (decide (a=b))):=by
 refine p4.jn func101 (by kernel_rfl) 10 rfl fun C hC hG => ?_
 refine .q 7 hG ?_
 refine .p (.b1E underlying86 underlying5 underlying9 (.t a8) ?_)
 refine .q 1 hG ?_
 refine .p (.b1E underlying86 underlying5 underlying9 (.t a8) ?_)
 refine .q 4 hG ?_
 refine .e1 a8 a8 ?_
 refine congrArg AV.v ?_
 rw [decide_eq_decide];exact⟨fun h=>congrArg Y4.l h,fun h=>congrArg Y4.mk h⟩
theorem b0x (b:List UInt8) (hb:b.length≤1000000):p4 gl prog 162 [.v b] (fun r=>r = .v b):=by
 refine p4.jn func162 (by kernel_rfl) 8 rfl fun C hC hG => ?_
 refine .q 8 hG ?_
 refine .p (.b3v underlying86 (.t a8) fun c4 hn4 => ?_)
 refine .q 1 hG ?_
 refine .cond (.t a8) (fun hc4 => ?_) (fun hc4 => ?_)
 ·refine .q 5 hG ?_
  refine .e1 a8 a8 ?_
  rw [hn4 hc4]
 ·refine .q 3 hG ?_
  refine .h (.buildSlice (α:=UInt8) ty5 underlying86 .nil a8 (by decide) fun b5 => ?_)
  refine .q 1 hG ?_
  refine .ap (by simp<;>omega) (by simp<;>omega) fun w7 => ?_
  refine .q 2 hG ?_
  refine .u0 hC .z (.as 2 a8 .z ?_)
  refine .q 1 hG ?_
  refine .e1 a8 a8 ?_
  rw [List.nil_append]
def a4a (k:Tag) (m:List UInt8) (x:y3):Bool:=decide (x.Key=k)&&decide (x.Message=m)
theorem c0p (k:Tag) (m:List UInt8) (x:y3):p4 gl prog 196 [.v x,.p k,.p m] (fun r=>r = .v (a4a k m x)):=by
 refine p4.jn func196 (by kernel_rfl) 15 rfl fun C hC hG => ?_
 refine .q 3 hG fun b3 => ?_
 refine .q 7 hG ?_
 refine .p (.a8p underlying26 sz5 underlying5 b3b (.t a8) (.t a8) ?_)
 refine .q 4 hG ?_
 refine .go 9 a8 (.t a8) (fun hg13 => .o8 hG (a07 _ _) (.cons (.q a8 hg13) (.cons (.q a8 hg13) .nil)) a8) ?_
 refine .q 4 hG ?_
 refine .e1 a8 a8 ?_
 rfl
def idx {α:Type} (l:List α) (p:α→Bool):Int:=if l.findIdx p < l.length then (l.findIdx p:Int) else -1
theorem a8A {α:Type} {l:List α} {p:α→Bool} {k:Nat} (h:k < l.length) (h1:p l[k]=true) (h2:∀ j (hj:j < l.length),j < k→p l[j]=false):idx l p=(k:Int):=by
 have e:l.findIdx p=k:=(List.findIdx_eq h).2 ⟨h1,fun j hj=>h2 j (by omega) hj⟩
 unfold idx;rw [e,if_pos h]
theorem a3A {α:Type} {l:List α} {p:α→Bool} (h:∀ j (hj:j < l.length),p l[j]=false):idx l p = -1:=by
 have e:l.findIdx p=l.length:=List.findIdx_eq_length.2 fun x hx=>by
  obtain⟨j,hj,rfl⟩:=List.getElem_of_mem hx
  exact h j hj
 unfold idx;rw [e,if_neg (by omega)]
theorem b3G (l:List y3) (p:y3→Bool):p4 gl prog 195 [.v l,.a8r prog p] (fun r=>r = .v (idx l p)):=by
 refine p4.jn func195 (by kernel_rfl) 19 rfl fun C hC hG => ?_
 refine .q 6 hG ?_
 refine .T3 0 a8 fun hl0 => ?_
 refine .q 6 hG ?_
 refine .D8 (α:=Nat) [(0,_),(1,_),(7,_)] (fun k R=>(8,.v (k:Int))::R) (fun k => []) (fun k=>k≤l.length∧∀ j (hj:j < l.length),j < k→p l[j]=false) (fun k=>l.length - k) (0) (.c2 a8 a8 (.cons a8 (.nil _))) ?_ (.c2 a8 a8 (.c2 a8 a8 (.nil _))) (a8) fun k hF => ?_
 ·simp
 obtain⟨h1,h2⟩:=hF
 refine .q 6 hG ⟨fun hc9 => ?_,fun hc9 => ?_⟩
 ·refine .q 13 hG ?_
  refine .ix (by omega) (by omega) ?_
  refine .q 1 hG ?_
  refine .p (.a4y a8 (.t a8) ?_)
  refine .q 1 hG ?_
  refine .cond (.t a8) (fun hc16 => ?_) (fun hc16 => ?_)
  ·refine .q 6 hG ?_
   refine .e1 a8 a8 ?_
   rw [a8A (by omega) (by simpa using hc16) h2]
  ·refine .q 2 hG ?_
   refine .ad (by omega) (by omega) ?_
   refine .q 2 hG ?_
   refine⟨k+1,.c2 rfl rfl (.c2 rfl rfl (.nil _)),rfl,?_,by omega⟩
   refine⟨by omega,fun j hj hjk => ?_⟩;rcases Nat.lt_or_ge j k with h|h;exact h2 j hj h;(obtain rfl:j=k:=by omega);simpa using hc16
 ·refine .q 3 hG ?_
  refine .p (.assign (.i a8) ?_)
  refine .q 2 hG ?_
  refine .e1 a8 a8 ?_
  rw [a3A fun j hj=>h2 j hj (by omega)]
theorem c2l (l:List y3) (k:Tag) (m:List UInt8):p4 gl prog 160 [.v l,.v k,.v m] (fun r=>r = .v (idx l (a4a k m))):=by
 refine p4.jn func160 (by kernel_rfl) 10 rfl fun C hC hG => ?_
 refine .q 3 hG fun b4 => ?_
 refine .q 1 hG fun b5 => ?_
 refine .q 3 hG ?_
 refine .y6 hC .z1 (.L6 4 a8 .z1 (.y6 hC .z (.L6 5 a8 .z ?_)))
 refine .q 2 hG ?_
 refine .p (.b0n hG (fun x=>c0p k m x) (.cons (.t a8) (.cons (.t a8) .nil)) (.p (.o8 hG (b3G _ _) (.cons (.t a8) (.cons (.t a8) .nil)) ?_)))
 refine .q 3 hG ?_
 refine .e1 a8 a8 ?_
 rfl
def b1O (kind:UInt8) (n:Int) (k:Nat):List UInt8 := [115,121,109,98,111,108] ++ [kind]++R9 (UInt64.ofInt n) k
def V4 (kind:UInt8) (n:Int):Tag:=S0 default (b1O kind n 8)
theorem c2m (free:Bool) (seed:Tag):p4 gl prog 75 [.v free,.v seed] (fun r=>r = .v (⟨free,seed,0,[],[]⟩:m0)):=by
 refine p4.jn func75 (by kernel_rfl) 8 rfl fun C hC hG => ?_
 refine .q 3 hG fun b3 => ?_
 refine .q 1 hG fun b4 => ?_
 refine .q 5 hG ?_
 refine .p (.bS2 m0.l0 m0.l1 a8 y9 a1i (fun c0 c1=>(⟨c0,c1,0,[],[]⟩:m0)) (fun _ _=>a8) a8 a8 a8 (.t a8) (.t a8) ?_)
 refine .q 3 hG ?_
 refine⟨_,.r1 a8 (.cell y9 a8 .z),?_⟩
 rfl
theorem a6S (kind:UInt8) (n:Int):p4 gl prog 134 [.v kind,.v n] (fun r=>r = .v (V4 kind n)):=by
 refine p4.jn func134 (by kernel_rfl) 18 rfl fun C hC hG => ?_
 have hbe:=D9 (UInt64.ofInt n) 8
 refine .q 3 hG fun b4 => ?_
 refine .q 4 hG fun b5 => ?_
 refine .q 2 hG ?_
 refine .D7 [j0,j1] (by kernel_rfl) 11 [[],[],[(7,1)],[],[(9,3)],[(8,2),(10,4)],[],[(12,6)],[(13,7)],[(11,5),(14,8)],[(6,0),(15,9)]] [1,2,5,9,10] a8 (by kernel_rfl) a8 (by kernel_rfl) (by decide) ?_
 refine⟨_,fun H=>j6.b7K M6 (.t a8) a8,?_⟩
 refine .inl (.inl ?_)
 refine⟨_,fun H=>j6.move (.t a8) a8,?_⟩
 refine⟨_,fun H=>j6.E7 (α:=UInt8) ty5 underlying86 (.cons (.t a8) .nil) a8 (by decide) a8,?_⟩
 refine .inl ?_
 refine⟨_,fun H=>j6.move (.t a8) a8,?_⟩
 refine⟨_,fun H=>j6.a1r underlying3 underlying77 (.t a8) a8,?_⟩
 refine⟨_,fun H=>j6.o8 hG (b0u _) (.cons (.t a8) .nil) a8,?_⟩
 refine .inl (.inl ?_)
 refine⟨⟨([],j2 [_,c8]),a8⟩,?_⟩
 refine A0.buildSlice (α:=UInt8) ty5 underlying86 (.cons (.u8 115 rfl) (.cons (.u8 121 rfl) (.cons (.u8 109 rfl) (.cons (.u8 98 rfl) (.cons (.u8 111 rfl) (.cons (.u8 108 rfl) .nil)))))) rfl (by decide) fun b7 => ?_
 refine⟨⟨([_],j2 [_,c8]),a8⟩,?_⟩
 refine A0.same underlying86 underlying5 rfl .z (by simp) ?_
 refine⟨⟨([_],j2 [_,c8]),a8⟩,?_⟩
 refine A0.append P3 (.inl ⟨_,underlying86⟩) rfl .z (.v (.c rfl)) (by simp) (by simp) (fun w11 => ?_) rfl
 refine⟨⟨([_],j2 [_,c8]),a8⟩,?_⟩
 refine A0.append P3 (.inl ⟨_,underlying86⟩) rfl .z (.v (.t rfl)) (by simp<;>omega) (by simp<;>omega) (fun w15 => ?_) rfl
 refine⟨⟨([_],j2 [_,c8]),a8⟩,?_⟩
 refine A0.b7R ty5 underlying86 (.t rfl) .z1 (.own rfl .z) (by simp<;>omega) ?_
 refine⟨⟨([_],j2 [_,c8]),a8⟩,?_⟩
 show D0 _ _ _ _ _ [] ((16,_)::(15,_)::(14,_)::(13,_)::(12,_)::(11,_)::(10,_)::(9,_)::(8,_)::(7,_)::(6,_)::_) _
 refine .q 7 hG ?_
 refine⟨_,.r1 a8 (.cell A5 a8 .z2),?_⟩
 rfl
theorem a4D (kind:UInt8) (n:Int) (k:Nat):(b1O kind n k).length=7+k:=by simp [b1O,D9];omega
abbrev C9:=m0
def a8B:Y4:=⟨[102,114,101,115,104]⟩
def Q4 (a:C9):C9×Tag×Int :=
 if 65536≤a.F7 then (default,default,2) else
 (⟨a.K1,a.a4f,a.F7+1,a.G4,a.x9⟩,(if a.K1 then V4 107 (a.F7+1) else (derive a.a4f a8B (a.F7+1)).1),0)
def S1 (a:C9) (k:Tag) (m:List UInt8):Option y3:=a.G4.find? (a4a k m)
def M7 (a:C9) (k:Tag) (m:List UInt8):Tag×Bool:=match S1 a k m with|some x=>(x.Tag,true)|none=>(default,false)
def a3e (a:C9) (k:Tag) (m:List UInt8):Tag:=if a.K1 then V4 109 (a.G4.length+1) else a0e k.l m
def G9 (a:C9) (k:Tag) (m:List UInt8):C9×Tag×Int :=
 if 4096 < m.length then (default,default,2) else
 match S1 a k m with
 | some x=>(a,x.Tag,0)
 | none=>if 65536≤a.G4.length then (default,default,2) else
  (⟨a.K1,a.a4f,a.F7,a.G4 ++ [⟨k,m,a3e a k m⟩],a.x9⟩,a3e a k m,0)
def m6 (a:C9) (k:Tag) (m:List UInt8):Tag×Bool :=
 if a.K1 then M7 a k m else if 4096 < m.length then (default,false) else (a0e k.l m,true)
theorem b3H (a:C9) (h0:0≤a.F7):p4 gl prog 77 [.v a] (fun r=>r = .t3 (.v (Q4 a).1) (.v (Q4 a).2.1) (.v (Q4 a).2.2)):=by
 refine p4.jn func77 (by kernel_rfl) 32 rfl fun C hC hG => ?_
 refine .q 3 hG fun b1 => ?_
 refine .q 1 hG fun b2 => ?_
 refine .q 1 hG fun b3 => ?_
 refine .q 10 hG ⟨fun hc9 => ?_,fun hc9 => ?_⟩
 ·refine .q 2 hG ?_
  refine .p (.bS0 (α:=m0) a8 y9 a1i (.p (.M8 (default:(I8 32 UInt8)) A5 M6 .nil a8 ?_)))
  refine .q 5 hG ?_
  refine⟨_,.r3 a8 (.cell y9 a8 .z1) (.cell A5 a8 .z) (.tmp a8),?_⟩
  have e:Q4 a=(default,default,2):=by unfold Q4;rw [if_pos hc9]
  rw [e]
 ·refine .q 5 hG ?_
  refine .ad (by omega) (by omega) ?_
  refine .q 9 hG ?_
  refine .cond (.t a8) (fun hc17 => ?_) (fun hc17 => ?_)
  ·refine .q 1 hG ?_
   refine .draw (by kernel_rfl) 4 [[],[],[(19,1)],[(20,2)]] a8 (by kernel_rfl) a8 ?_
   refine⟨_,j6.S4 y9 (.t a8) .z2 a8,?_⟩
   refine⟨_,j6.A9 m0.l2 b3f a8 (.t a8) a8,?_⟩
   refine⟨_,j6.ldF (fun x=>x.F7) P5 (.t a8) .z2 (fun _=>a8) a8,?_⟩
   refine⟨_,j6.o8 hG (a6S _ _) (.cons (.u8 107 a8) (.cons (.t a8) .nil)) a8,?_⟩
   show D0 _ _ _ _ _ [_,_,_] ((21,_)::(20,_)::(19,_)::(18,_)::_) _
   refine .q 5 hG ?_
   refine⟨_,.r3 a8 (.cell y9 a8 .z1) (.cell A5 a8 .z) (.tmp a8),?_⟩
   have e:Q4 a=(⟨a.K1,a.a4f,a.F7+1,a.G4,a.x9⟩,V4 107 (a.F7+1),0):=by unfold Q4;rw [if_neg hc9,if_pos hc17]
   rw [e]
  ·refine .q 7 hG ?_
   refine .p (.o8 hG (b6k _ _ _ (by decide)) (.cons (.t a8) (.cons (.s [102,114,101,115,104] (by decide) (by decide)) (.cons (.t a8) .nil))) ?_)
   refine .q 4 hG fun b5 => ?_
   refine .q 4 hG ?_
   refine .D7 [j1,j0,j0,j1] (by kernel_rfl) 5 [[],[],[(30,0)],[(31,1)],[]] [2,3] a8 (by kernel_rfl) a8 (by kernel_rfl) (by decide) ?_
   refine⟨_,fun H=>j6.S4 y9 (.t a8) (u4.app .z3) a8,?_⟩
   refine⟨_,fun H=>j6.S4 A5 (.t a8) (u4.app .z) a8,?_⟩
   refine .inl (.inl ?_)
   refine⟨_,fun H=>j6.assign (.i a8) a8,?_⟩
   refine⟨⟨([],j2 [c8,_,_,c8]),a8⟩,?_⟩
   refine A0.R6 y9 (.t rfl) (.t rfl) .z2 ?_
   refine⟨⟨([],j2 [c8,_,_,c8]),a8⟩,?_⟩
   refine A0.R6 A5 (.t rfl) (.t rfl) .z1 ?_
   refine⟨⟨([],j2 [c8,_,_,c8]),a8⟩,?_⟩
   show D0 _ _ _ _ _ [] ((4,_)::(31,_)::(30,_)::_) _
   refine .q 2 hG ?_
   refine⟨_,.r3 a8 (.cell y9 a8 .z2) (.cell A5 a8 .z1) (.tmp a8),?_⟩
   have e:Q4 a=(⟨a.K1,a.a4f,a.F7+1,a.G4,a.x9⟩,(derive a.a4f a8B (a.F7+1)).1,0):=by unfold Q4;rw [if_neg hc9,if_neg (by rw [show a.K1=false from hc17];decide)]
   rw [e];rfl
theorem b6l {l:List y3} {p:y3→Bool} {k:Nat} (h:k < l.length) (h1:p l[k]=true) (h2:∀ j (hj:j < l.length),j < k→p l[j]=false):l.find? p=some l[k] :=
 List.find?_eq_some_iff_getElem.2 ⟨h1,k,h,rfl,fun j hj=>by rw [h2 j (by omega) hj];rfl⟩
theorem b6m {l:List y3} {p:y3→Bool} (h:∀ j (hj:j < l.length),p l[j]=false):l.find? p=none :=
 List.find?_eq_none.2 fun x hx=>by
  obtain⟨j,hj,rfl⟩:=List.getElem_of_mem hx
  rw [h j hj];decide
theorem b1P (a:C9) (k:Tag) (m:List UInt8):p4 gl prog 132 [.v a,.v k,.v m] (fun r=>r = .t2 (.v (M7 a k m).1) (.v (M7 a k m).2)):=by
 refine p4.jn func132 (by kernel_rfl) 41 rfl fun C hC hG => ?_
 refine .q 3 hG fun b3 => ?_
 refine .q 1 hG fun b4 => ?_
 refine .q 1 hG fun b6 => ?_
 refine .q 4 hG ?_
 refine .y6 hC .z1 (.L6 4 a8 .z1 (.y6 hC .z2 (.L6 3 a8 .z2 ?_)))
 refine .q 4 hG ?_
 refine .D8 (α:=Nat) [(2,_),(3,_),(4,_),(6,_)] (fun i R=>(8,.v (i:Int))::R) (fun i => [(true,.ob (ptr b6 0) (default:Tag)),(true,.fz (ptr b4 0) (.p k)),(true,.fz (ptr b3 0) (.p a))]) (fun i=>i≤a.G4.length∧∀ j (hj:j < a.G4.length),j < i→a4a k m a.G4[j]=false) (fun i=>a.G4.length - i) (0) (.c2 a8 a8 (.c2 a8 a8 (.nil _))) ?_ (.c2 a8 a8 (.c2 a8 a8 (.cons a8 (.nil _)))) (a8) fun i hF => ?_
 ·simp
 obtain⟨h1,h2⟩:=hF
 refine .q 10 hG ⟨fun hc13 => ?_,fun hc13 => ?_⟩
 ·refine .q 4 hG ?_
  refine .draw (by kernel_rfl) 18 [[],[(16,0)],[],[(17,1),(18,2)],[(19,3)],[(20,4)],[],[(21,5),(22,6)],[(23,7)],[],[(25,9)],[],[(26,10),(27,11)],[(28,12)],[(29,13)],[],[(30,14),(31,15)],[(24,8),(32,16)]] a8 (by kernel_rfl) a8 ?_
  refine⟨_,j6.A7 m0.l3 (fun x=>x.G4) a5w a8 (fun _=>a8) (.t a8) a8,?_⟩
  refine⟨_,j6.G6 b8a (.t a8) a8,?_⟩
  refine⟨_,j6.move (.t a8) a8,?_⟩
  refine⟨_,j6.idx a5k underlying35 (.t a8) (.t a8) (by omega) (by omega) a8,?_⟩
  refine⟨_,j6.A7 y3.l0 (fun x=>x.Key) b4J a8 (fun _=>a8) (.t a8) a8,?_⟩
  refine⟨_,j6.G6 A5 (.t a8) a8,?_⟩
  refine⟨_,j6.G6 A5 (.t a8) a8,?_⟩
  refine⟨_,j6.a8p underlying26 sz5 underlying5 b3b (.t a8) (.t a8) a8,?_⟩
  refine⟨_,j6.move (.t a8) a8,?_⟩
  refine⟨_,⟨_,_,a8,a8,fun hg25=>j6.A7 m0.l3 (fun x=>x.G4) a5w a8 (fun _=>a8) (.t a8) a8⟩,?_⟩
  refine⟨_,⟨_,_,a8,a8,fun hg26=>j6.G6 b8a (.q a8 hg26) a8⟩,?_⟩
  refine⟨_,⟨_,_,a8,a8,fun hg27=>j6.move (.t a8) a8⟩,?_⟩
  refine⟨_,⟨_,_,a8,a8,fun hg28=>j6.idx a5k underlying35 (.q a8 hg28) (.q a8 hg28) (by first|omega|(simp;omega)|(have:=hg28;simp at this;omega)) (by first|omega|(simp;omega)|(have:=hg28;simp at this;omega)) a8⟩,?_⟩
  refine⟨_,⟨_,_,a8,a8,fun hg29=>j6.A7 y3.l1 (fun x=>x.Message) b4K a8 (fun _=>a8) (.q a8 hg29) a8⟩,?_⟩
  refine⟨_,⟨_,_,a8,a8,fun hg30=>j6.G6 a3y (.q a8 hg30) a8⟩,?_⟩
  refine⟨_,⟨_,_,a8,a8,fun hg31=>j6.move (.t a8) a8⟩,?_⟩
  refine⟨_,⟨_,_,a8,a8,fun hg32=>j6.o8 hG (a6R _ _) (.cons (.q a8 hg32) (.cons (.q a8 hg32) .nil)) a8⟩,?_⟩
  refine⟨_,j6.T5 (.t a8) (fun hp=>(.q a8 hp)) a8,?_⟩
  show D0 _ _ _ _ _ [] ((33,_)::(32,_)::(31,_)::(30,_)::(29,_)::(28,_)::(27,_)::(26,_)::(25,_)::(24,_)::(23,_)::(22,_)::(21,_)::(20,_)::(19,_)::(18,_)::(17,_)::(16,_)::_) _
  refine .q 1 hG ?_
  refine .cond (.t a8) (fun hc33 => ?_) (fun hc33 => ?_)
  ·refine .q 5 hG ?_
   refine .ix (by omega) (by omega) ?_
   refine .q 6 hG ?_
   refine⟨_,.r2 a8 (.cell A5 a8 .z) (.tmp a8),?_⟩
   have e:M7 a k m=(a.G4[i].Tag,true):=by unfold M7 S1;rw [b6l (k:=i) (by omega) hc33 h2]
   rw [e];rfl
  ·refine .q 1 hG ?_
   refine .T3 11 a8 fun hl11 => ?_
   refine .q 2 hG ?_
   refine .ad (by omega) (by omega) ?_
   refine .q 2 hG ?_
   refine⟨i+1,.c2 rfl rfl (.c2 rfl rfl (.cons rfl (.nil _))),rfl,?_,by omega⟩
   refine⟨by omega,fun j hj hji => ?_⟩;rcases Nat.lt_or_ge j i with h|h;exact h2 j hj h;(obtain rfl:j=i:=by omega);exact hc33
 ·refine .q 3 hG ?_
  refine .p (.M8 (default:(I8 32 UInt8)) A5 M6 .nil a8 ?_)
  refine .q 4 hG ?_
  refine⟨_,.r2 a8 (.cell A5 a8 .z) (.tmp a8),?_⟩
  have e:M7 a k m=(default,false):=by unfold M7 S1;rw [b6m fun j hj=>h2 j hj (by omega)]
  rw [e]
theorem b5p (a:C9) (k:Tag) (m:List UInt8):p4 gl prog 109 [.v a,.v k,.v m] (fun r=>r = .t2 (.v (m6 a k m).1) (.v (m6 a k m).2)):=by
 refine p4.jn func109 (by kernel_rfl) 23 rfl fun C hC hG => ?_
 refine .q 3 hG fun b3 => ?_
 refine .q 1 hG fun b4 => ?_
 refine .q 1 hG fun b6 => ?_
 refine .q 4 hG ?_
 refine .y6 hC .z1 (.L6 4 a8 .z1 (.y6 hC .z2 (.L6 3 a8 .z2 ?_)))
 refine .q 4 hG ?_
 refine .cond (.t a8) (fun hc9 => ?_) (fun hc9 => ?_)
 ·refine .q 5 hG ?_
  refine .p (.o8 hG (b1P _ _ _) (.cons (.t a8) (.cons (.t a8) (.cons (.t a8) .nil))) ?_)
  refine .q 6 hG ?_
  refine⟨_,.r2 a8 (.cell A5 a8 .z) (.tmp a8),?_⟩
  have e:m6 a k m=M7 a k m:=by unfold m6;rw [if_pos hc9]
  rw [e]
 ·refine .q 9 hG ⟨fun hc18 => ?_,fun hc18 => ?_⟩
  ·refine .q 2 hG ?_
   refine .p (.M8 (default:(I8 32 UInt8)) A5 M6 .nil a8 ?_)
   refine .q 4 hG ?_
   refine⟨_,.r2 a8 (.cell A5 a8 .z) (.tmp a8),?_⟩
   have e:m6 a k m=(default,false):=by unfold m6;rw [if_neg (by rw [show a.K1=false from hc9];decide),if_pos (by omega)]
   rw [e]
  ·refine .q 3 hG ?_
   refine .p (.O6 (by decide) M6 (.t a8) ?_)
   refine .q 1 hG ?_
   refine .p (.o8 hG (a41 _ _ (by simp) (by omega)) (.cons (.t a8) (.cons (.t a8) .nil)) ?_)
   refine .q 4 hG ?_
   refine⟨_,.r2 a8 (.cell A5 a8 .z) (.tmp a8),?_⟩
   have e:m6 a k m=(a0e k.l m,true):=by unfold m6;rw [if_neg (by rw [show a.K1=false from hc9];decide),if_neg (by omega)]
   rw [e]
theorem b1Q {a:C9} {k:Tag} {m:List UInt8} (h:4096 < m.length):G9 a k m=(default,default,2):=by unfold G9;rw [if_pos h]
theorem b0y {a:C9} {k:Tag} {m:List UInt8} (h:¬4096 < m.length) (he:(M7 a k m).2=true):G9 a k m=(a,(M7 a k m).1,0):=by
 unfold G9;rw [if_neg h];unfold M7 at *
 cases hf:S1 a k m with
 | none=>rw [hf] at he;cases he
 | some x=>rfl
theorem a5F {a:C9} {k:Tag} {m:List UInt8} (he:(M7 a k m).2=false):S1 a k m=none:=by
 unfold M7 at he
 cases hf:S1 a k m with
 | none=>rfl
 | some x=>rw [hf] at he;cases he
theorem b1R {a:C9} {k:Tag} {m:List UInt8} (h:¬4096 < m.length) (he:S1 a k m=none) (hl:65536≤a.G4.length):G9 a k m=(default,default,2):=by
 unfold G9;rw [if_neg h,he];simp only [];rw [if_pos hl]
theorem a3W {a : C9} {k : Tag} {m : List UInt8} (h : ¬ 4096 < m.length) (he : S1 a k m = none) (hl : ¬ 65536 ≤ a.G4.length) :
    G9 a k m=(⟨a.K1,a.a4f,a.F7,a.G4 ++ [⟨k,m,a3e a k m⟩],a.x9⟩,a3e a k m,0):=by
  unfold G9;rw [if_neg h,he];simp only [];rw [if_neg hl]
theorem b1S {a:C9} {k:Tag} {m:List UInt8} (h:a.K1=true):a3e a k m=V4 109 (a.G4.length+1):=by unfold a3e;rw [if_pos h]
theorem b1T {a:C9} {k:Tag} {m:List UInt8} (h:a.K1=false):a3e a k m=a0e k.l m:=by unfold a3e;rw [if_neg (by rw [h];decide)]
theorem a5G (a:C9) (k:Tag) (m:List UInt8):p4 gl prog 72 [.v a,.v k,.v m] (fun r=>r = .t3 (.v (G9 a k m).1) (.v (G9 a k m).2.1) (.v (G9 a k m).2.2)):=by
 refine p4.jn func72 (by kernel_rfl) 58 rfl fun C hC hG => ?_
 refine .q 3 hG fun b3 => ?_
 refine .q 1 hG fun b4 => ?_
 refine .q 1 hG fun b6 => ?_
 refine .q 1 hG fun b7 => ?_
 refine .q 4 hG ?_
 refine .y6 hC .z2 (.L6 4 a8 .z2 ?_)
 refine .q 6 hG ⟨fun hc14 => ?_,fun hc14 => ?_⟩
 ·refine .q 2 hG ?_
  refine .p (.bS0 (α:=m0) a8 y9 a1i (.p (.M8 (default:(I8 32 UInt8)) A5 M6 .nil a8 ?_)))
  refine .q 5 hG ?_
  refine⟨_,.r3 a8 (.cell y9 a8 .z1) (.cell A5 a8 .z) (.tmp a8),?_⟩
  rw [b1Q (a:=a) (k:=k) (m:=m) (by omega)]
 ·refine .q 7 hG ?_
  refine .p (.o8 hG (b1P _ _ _) (.cons (.t a8) (.cons (.t a8) (.cons (.t a8) .nil))) ?_)
  refine .q 4 hG fun b9 => ?_
  refine .q 7 hG ?_
  refine .cond (.t a8) (fun hc24 => ?_) (fun hc24 => ?_)
  ·refine .q 1 hG ?_
   refine .D7 [j1,j0,j0,j1,j1] (by kernel_rfl) 5 [[],[],[(25,0)],[(26,1)],[]] [2,3] a8 (by kernel_rfl) a8 (by kernel_rfl) (by decide) ?_
   refine⟨_,fun H=>j6.S4 y9 (.t a8) (u4.app .z4) a8,?_⟩
   refine⟨_,fun H=>j6.S4 A5 (.t a8) (u4.app .z) a8,?_⟩
   refine .inl (.inl ?_)
   refine⟨_,fun H=>j6.assign (.i a8) a8,?_⟩
   refine⟨⟨([],j2 [c8,_,_,c8,c8]),a8⟩,?_⟩
   refine A0.R6 y9 (.t rfl) (.t rfl) .z2 ?_
   refine⟨⟨([],j2 [c8,_,_,c8,c8]),a8⟩,?_⟩
   refine A0.R6 A5 (.t rfl) (.t rfl) .z1 ?_
   refine⟨⟨([],j2 [c8,_,_,c8,c8]),a8⟩,?_⟩
   show D0 _ _ _ _ _ [] ((8,_)::(26,_)::(25,_)::_) _
   refine .q 2 hG ?_
   refine⟨_,.r3 a8 (.cell y9 a8 .z2) (.cell A5 a8 .z1) (.tmp a8),?_⟩
   rw [b0y (a:=a) (k:=k) (m:=m) (by omega) hc24]
  ·refine .q 10 hG ⟨fun hc30 => ?_,fun hc30 => ?_⟩
   ·refine .q 2 hG ?_
    refine .p (.bS0 (α:=m0) a8 y9 a1i (.p (.M8 (default:(I8 32 UInt8)) A5 M6 .nil a8 ?_)))
    refine .q 5 hG ?_
    refine⟨_,.r3 a8 (.cell y9 a8 .z2) (.cell A5 a8 .z1) (.tmp a8),?_⟩
    rw [b1R (a:=a) (k:=k) (m:=m) (by omega) (a5F hc24) (by omega)]
   ·refine .q 3 hG ?_
    refine .p (.O6 (by decide) M6 (.t a8) ?_)
    refine .q 1 hG ?_
    refine .p (.o8 hG (a41 _ _ (by simp) (by omega)) (.cons (.t a8) (.cons (.t a8) .nil)) ?_)
    refine .q 1 hG fun b11 => ?_
    refine .q 8 hG ?_
    refine .cond (.t a8) (fun hc37 => ?_) (fun hc37 => ?_)
    ·refine .q 4 hG ?_
     refine .ad (by omega) (by omega) (.p (.o8 hG (a6S _ _) (.cons (.u8 109 a8) (.cons (.t a8) .nil)) ?_))
     refine .q 3 hG ?_
     refine .D7 [j1,j1,j1,j1,j1,j1] (by kernel_rfl) 13 [[],[],[(44,1)],[(43,0),(45,2)],[],[],[],[(48,5),(49,6)],[],[(47,4),(50,7),(51,8)],[(52,9)],[(46,3),(53,10)],[]] [0,3,11] a8 (by kernel_rfl) a8 (by kernel_rfl) (by decide) (.inl ?_)
     refine⟨_,fun H=>j6.A9 m0.l3 a5w a8 (.t a8) a8,?_⟩
     refine⟨_,fun H=>j6.ldF (fun x=>x.G4) b8a (.t a8) (u4.app .z5) (fun _=>a8) a8,?_⟩
     refine .inl ?_
     refine⟨_,fun H=>j6.G6 A5 (.t a8) a8,?_⟩
     refine⟨_,fun H=>j6.E7 (α:=UInt8) ty5 underlying86 .nil a8 (by decide) a8,?_⟩
     refine⟨_,fun H=>j6.move (.t a8) a8,?_⟩
     refine⟨_,fun H=>j6.a0z P3 (.inl ⟨_,underlying86⟩) (.t a8) (.v (.t a8)) (by simp<;>omega) (by simp<;>omega) a8,?_⟩
     refine⟨_,fun H=>j6.S4 A5 (.t a8) (u4.app .z) a8,?_⟩
     refine⟨_,fun H=>j6.bS3 y3.l0 y3.l1 y3.l2 a8 a5k c1c (fun c0 c1 c2=>(⟨c0,c1,c2⟩:y3)) (fun _ _ _=>a8) a8 a8 a8 a8 (.t a8) (.t a8) (.t a8) a8,?_⟩
     refine⟨_,fun H=>j6.E7 (α:=y3) a5k underlying35 (.cons (.t a8) .nil) a8 (by decide) a8,?_⟩
     refine .inl ?_
     refine⟨_,fun H=>j6.A9 m0.l3 a5w a8 (.t a8) a8,?_⟩
     refine⟨⟨([],j2 [c8,c8,c8,c8,c8,c8]),a8⟩,?_⟩
     refine A0.buildSlice (α:=y3) a5k underlying35 .nil rfl (by decide) fun b43 => ?_
     refine⟨⟨([_],j2 [c8,c8,c8,c8,c8,c8]),a8⟩,?_⟩
     refine A0.append c0l (.inl ⟨_,underlying35⟩) rfl .z (.v (.t rfl)) (by simp<;>omega) (by simp<;>omega) (fun w46 => ?_) rfl
     refine⟨⟨([_],j2 [c8,c8,c8,c8,c8,c8]),a8⟩,?_⟩
     refine A0.append c0l (.inl ⟨_,underlying35⟩) rfl .z (.v (.c rfl)) (by simp<;>omega) (by simp<;>omega) (fun w54 => ?_) rfl
     refine⟨⟨([_],j2 [c8,c8,c8,c8,c8,c8]),a8⟩,?_⟩
     show D0 _ _ _ _ _ [_] ((55,_)::(54,_)::(53,_)::(52,_)::(51,_)::(50,_)::(49,_)::(48,_)::(47,_)::(46,_)::(45,_)::(44,_)::(43,_)::_) _
     refine .u0 hC .z (.as 54 a8 .z ?_)
     refine .q 3 hG ?_
     refine .D7 [j1,j1,j1,j0,j0,j1,j1] (by kernel_rfl) 5 [[],[],[(56,0)],[(57,1)],[]] [2,3] a8 (by kernel_rfl) a8 (by kernel_rfl) (by decide) ?_
     refine⟨_,fun H=>j6.S4 y9 (.t a8) (u4.app .z6) a8,?_⟩
     refine⟨_,fun H=>j6.S4 A5 (.t a8) (u4.app .z1) a8,?_⟩
     refine .inl (.inl ?_)
     refine⟨_,fun H=>j6.assign (.i a8) a8,?_⟩
     refine⟨⟨([],j2 [c8,c8,c8,_,_,c8,c8]),a8⟩,?_⟩
     refine A0.R6 y9 (.t rfl) (.t rfl) .z4 ?_
     refine⟨⟨([],j2 [c8,c8,c8,_,_,c8,c8]),a8⟩,?_⟩
     refine A0.R6 A5 (.t rfl) (.t rfl) .z3 ?_
     refine⟨⟨([],j2 [c8,c8,c8,_,_,c8,c8]),a8⟩,?_⟩
     show D0 _ _ _ _ _ [] ((8,_)::(57,_)::(56,_)::_) _
     refine .q 2 hG ?_
     refine⟨_,.r3 a8 (.cell y9 a8 .z4) (.cell A5 a8 .z3) (.tmp a8),?_⟩
     rw [a3W (a:=a) (k:=k) (m:=m) (by omega) (a5F hc24) (by omega),b1S hc37];rfl
    ·refine .q 2 hG ?_
     refine .D7 [j1,j1,j1,j1,j1,j1] (by kernel_rfl) 13 [[],[],[(44,1)],[(43,0),(45,2)],[],[],[],[(48,5),(49,6)],[],[(47,4),(50,7),(51,8)],[(52,9)],[(46,3),(53,10)],[]] [0,3,11] a8 (by kernel_rfl) a8 (by kernel_rfl) (by decide) (.inl ?_)
     refine⟨_,fun H=>j6.A9 m0.l3 a5w a8 (.t a8) a8,?_⟩
     refine⟨_,fun H=>j6.ldF (fun x=>x.G4) b8a (.t a8) (u4.app .z5) (fun _=>a8) a8,?_⟩
     refine .inl ?_
     refine⟨_,fun H=>j6.G6 A5 (.t a8) a8,?_⟩
     refine⟨_,fun H=>j6.E7 (α:=UInt8) ty5 underlying86 .nil a8 (by decide) a8,?_⟩
     refine⟨_,fun H=>j6.move (.t a8) a8,?_⟩
     refine⟨_,fun H=>j6.a0z P3 (.inl ⟨_,underlying86⟩) (.t a8) (.v (.t a8)) (by simp<;>omega) (by simp<;>omega) a8,?_⟩
     refine⟨_,fun H=>j6.S4 A5 (.t a8) (u4.app .z) a8,?_⟩
     refine⟨_,fun H=>j6.bS3 y3.l0 y3.l1 y3.l2 a8 a5k c1c (fun c0 c1 c2=>(⟨c0,c1,c2⟩:y3)) (fun _ _ _=>a8) a8 a8 a8 a8 (.t a8) (.t a8) (.t a8) a8,?_⟩
     refine⟨_,fun H=>j6.E7 (α:=y3) a5k underlying35 (.cons (.t a8) .nil) a8 (by decide) a8,?_⟩
     refine .inl ?_
     refine⟨_,fun H=>j6.A9 m0.l3 a5w a8 (.t a8) a8,?_⟩
     refine⟨⟨([],j2 [c8,c8,c8,c8,c8,c8]),a8⟩,?_⟩
     refine A0.buildSlice (α:=y3) a5k underlying35 .nil rfl (by decide) fun b43 => ?_
     refine⟨⟨([_],j2 [c8,c8,c8,c8,c8,c8]),a8⟩,?_⟩
     refine A0.append c0l (.inl ⟨_,underlying35⟩) rfl .z (.v (.t rfl)) (by simp<;>omega) (by simp<;>omega) (fun w46 => ?_) rfl
     refine⟨⟨([_],j2 [c8,c8,c8,c8,c8,c8]),a8⟩,?_⟩
     refine A0.append c0l (.inl ⟨_,underlying35⟩) rfl .z (.v (.c rfl)) (by simp<;>omega) (by simp<;>omega) (fun w54 => ?_) rfl
     refine⟨⟨([_],j2 [c8,c8,c8,c8,c8,c8]),a8⟩,?_⟩
     show D0 _ _ _ _ _ [_] ((55,_)::(54,_)::(53,_)::(52,_)::(51,_)::(50,_)::(49,_)::(48,_)::(47,_)::(46,_)::(45,_)::(44,_)::(43,_)::_) _
     refine .u0 hC .z (.as 54 a8 .z ?_)
     refine .q 3 hG ?_
     refine .D7 [j1,j1,j1,j0,j0,j1,j1] (by kernel_rfl) 5 [[],[],[(56,0)],[(57,1)],[]] [2,3] a8 (by kernel_rfl) a8 (by kernel_rfl) (by decide) ?_
     refine⟨_,fun H=>j6.S4 y9 (.t a8) (u4.app .z6) a8,?_⟩
     refine⟨_,fun H=>j6.S4 A5 (.t a8) (u4.app .z1) a8,?_⟩
     refine .inl (.inl ?_)
     refine⟨_,fun H=>j6.assign (.i a8) a8,?_⟩
     refine⟨⟨([],j2 [c8,c8,c8,_,_,c8,c8]),a8⟩,?_⟩
     refine A0.R6 y9 (.t rfl) (.t rfl) .z4 ?_
     refine⟨⟨([],j2 [c8,c8,c8,_,_,c8,c8]),a8⟩,?_⟩
     refine A0.R6 A5 (.t rfl) (.t rfl) .z3 ?_
     refine⟨⟨([],j2 [c8,c8,c8,_,_,c8,c8]),a8⟩,?_⟩
     show D0 _ _ _ _ _ [] ((8,_)::(57,_)::(56,_)::_) _
     refine .q 2 hG ?_
     refine⟨_,.r3 a8 (.cell y9 a8 .z4) (.cell A5 a8 .z3) (.tmp a8),?_⟩
     rw [a3W (a:=a) (k:=k) (m:=m) (by omega) (a5F hc24) (by omega),b1T hc37];rfl
theorem b3I (w:Value) (d:m5) (hd:G1 d):E4 gl prog 76 [dk w] [.ob w d] (fun r Hs=>∃ t:Tag,∃ d',G1 d'∧r = .v t∧Hs = [.ob w d']):=by
 refine E4.a5B func76 rfl (by kernel_rfl) 16 rfl rfl _ rfl _ rfl fun C hC hG => ?_
 refine .q 3 hG fun b2 => ?_
 refine .q 4 hG fun b3 => ?_
 refine .q 7 hG ?_
 refine .D8 (α:=Nat×Tag×m5) [(0,_),(2,_),(3,_)] (fun x R=>(4,.v (x.1:Int))::R) (fun x => [(true,.ob (ptr b3 0) x.2.1),(true,.ob (ptr b2 0) (default:Tag)),(false,.ob w x.2.2)]) (fun x=>x.1≤4∧G1 x.2.2) (fun x=>4 - x.1) ((0,default,d)) (.c2 a8 a8 (.cons a8 (.nil _))) ?_ (.c2 a8 a8 (.c2 a8 a8 (.nil _))) (a8) fun x hF => ?_
 ·exact⟨Nat.zero_le _,hd⟩
 obtain⟨k,t,e⟩:=x
 obtain⟨h1,h2⟩:=hF
 dsimp only at h1 h2 ⊢
 refine .q 7 hG ⟨fun hc6 => ?_,fun hc6 => ?_⟩
 ·refine .q 5 hG ?_
  refine .p (.mul (.t a8) (.i a8) (by omega) (by omega) ?_)
  refine .q 1 hG ?_
  refine .km hG (a2z _ _ _ (by assumption) (by omega) (by omega)) .z2 (by rintro _ _ ⟨_,rfl⟩;exact⟨_,rfl⟩) fun r12 B12 hr12 => ?_
  obtain⟨rfl,hB⟩:=hr12
  cases hB
  refine .q 1 hG ?_
  refine .p (.c16 M6 (.t a8) (.t a8) (by omega) (by omega) (.n (.stL ty5 (.t a8) (.t a8) .z ?_)))
  refine .q 3 hG ?_
  refine .ad (by omega) (by omega) ?_
  refine .q 2 hG ?_
  refine⟨(k+1,_,_),.c2 rfl rfl (.c2 rfl rfl (.nil _)),rfl,?_,by dsimp only;omega⟩
  exact⟨by dsimp only;omega,O8 h2⟩
 ·refine .q 7 hG ?_
  refine⟨_,.r1 a8 (.cell A5 a8 .z1),?_⟩
  exact⟨2,_,_,h2,a8,a8⟩
theorem a4E (s:Y4) (b:List UInt8) (hs:s.l.length≤1000) (hb:b.length≤1000000):p4 gl prog 130 [.v s,.v b] (fun r=>r = .v (s.l++b)):=by
 refine p4.jn func130 (by kernel_rfl) 9 rfl fun C hC hG => ?_
 refine .q 7 hG ?_
 refine .h (.W9 underlying9 underlying86 underlying5 (.t a8) fun w6 => ?_)
 refine .q 1 hG ?_
 refine .ap (by omega) (by omega) fun w8 => ?_
 refine .q 2 hG ?_
 refine .u0 hC .z (.as 4 a8 .z ?_)
 refine .q 1 hG ?_
 refine .e1 a8 a8 ?_
 rfl
theorem b8g (j:Nat) (h:j < 8):UInt64.ofInt (56 - 8*(j:Int))=UInt64.ofNat (56 - 8*j):=by
 apply UInt64.toNat_inj.1
 have:=b0a j h
 rw [UInt64.toNat_ofNat']
 omega
theorem a2A (n:UInt64):E4 gl prog 183 [.v n] [] (fun r Hs=>∃ u,r = .raw u∧Hs = [.own 5 u (R9 n 8)]):=by
 refine E4.a5B func183 rfl (by kernel_rfl) 18 rfl rfl _ rfl _ rfl fun C hC hG => ?_
 refine .q 2 hG ?_
 refine .p (.assign .raw ?_)
 refine .q 3 hG ?_
 refine .p (.assign .raw ?_)
 refine .q 3 hG ?_
 refine .a0H 5 UInt8 ?_
 refine .q 4 hG ?_
 refine .D8 (α:=Nat×Value) [(0,_)] (fun x R=>(3,.raw x.2)::(4,.v (56 - 8*(x.1:Int)))::R) (fun x => [(true,.own 5 x.2 (R9 n x.1))]) (fun x=>x.1≤8) (fun x=>8 - x.1) ((0,.slice none 0 0)) (.cons a8 (.nil _)) ?_ (.c2 a8 a8 (.cons a8 (.nil _))) (a8) fun x hF => ?_
 ·simp
 obtain⟨j,w⟩:=x
 dsimp only at hF ⊢
 refine .q 7 hG ⟨fun hc6 => ?_,fun hc6 => ?_⟩
 ·refine .q 3 hG ?_
  have hbe:=D9 n j
  have hs5:=b0a j (by omega)
  refine .q 5 hG ?_
  refine .p (.a52 (.t a8) (.t a8) (by omega) (by omega) (.p (.a2p underlying77 underlying5 (.t a8) ?_)))
  refine .bs a8 (by decide) fun b15 => ?_
  refine .ap (by simp<;>omega) (by simp<;>omega) fun w16 => ?_
  refine .q 1 hG ?_
  refine .drop ?_
  refine .q 3 hG ?_
  refine .sb (by omega) (by omega) ?_
  refine .q 2 hG ?_
  refine⟨(j+1,w16),.cons rfl (.cons (congrArg (fun q=>some (AV.v q)) (by dsimp only;omega)) (.cons rfl (.nil _))),congrArg (fun q => [(true,D6.own _ _ q)]) (by dsimp only;rw [a1s,←b8g j (by omega)]),?_,by dsimp only;omega⟩
  dsimp only;omega
 ·refine .q 7 hG ?_
  refine .e1 a8 a8 ?_
  obtain rfl:j=8:=by omega
  exact⟨0,_,a8,a8⟩
def a42:Y4:=⟨[115,116,114,101,97,109]⟩
def a6k (key:Tag) (F9:UInt64) (q:Nat):Tag:=a0e key.l (a42.l++(R9 F9 8++R9 (UInt64.ofNat q) 8))
def Z5 (key:Tag) (F9:UInt64) (i:Nat):UInt8:=(a6k key F9 (i/32)).l.getD (i % 32) 0
def K6 (key:Tag) (F9:UInt64) (b:List UInt8) (k:Nat):List UInt8:=(b.take k).mapIdx (fun i c=>c ^^^ Z5 key F9 i)++b.drop k
theorem O9 (key:Tag) (F9:UInt64) (b:List UInt8) (k:Nat):(K6 key F9 b k).length=b.length:=by simp [K6];omega
theorem a7k (key:Tag) (F9:UInt64) (b:List UInt8):K6 key F9 b b.length=b.mapIdx (fun i c=>c ^^^ Z5 key F9 i):=by simp [K6]
theorem b1U (key:Tag) (F9:UInt64) (b:List UInt8) (k:Nat) (hk:k < b.length) (h:k < (K6 key F9 b k).length):(K6 key F9 b k)[k]=b[k]:=by
 simp only [K6]
 rw [List.getElem_append_right (by simp;omega)]
 simp
 congr 1;omega
theorem b0z (key:Tag) (F9:UInt64) (b:List UInt8) (k:Nat) (hk:k < b.length):(K6 key F9 b k).set k (b[k] ^^^ Z5 key F9 k)=K6 key F9 b (k+1):=by
 apply List.ext_getElem (by simp [O9])
 intro j h1 h2
 rw [List.getElem_set]
 simp only [K6]
 by_cases e:k=j
 ·subst e
  rw [if_pos rfl,List.getElem_append_left (by simp;omega)]
  simp
 ·rw [if_neg e]
  rcases Nat.lt_or_ge j k with h|h
  ·rw [List.getElem_append_left (by simp;omega),List.getElem_append_left (by simp;omega)]
   simp
  ·rw [List.getElem_append_right (by simp;omega),List.getElem_append_right (by simp;omega)]
   simp
   congr 1;omega
theorem b1V (key : Tag) (F9 : UInt64) (b : List UInt8) (k : Nat) (hk : k < b.length) (h1 : (k : Int).toNat < (K6 key F9 b k).length) (h2 : ((k : Int) % 32).toNat < 32) :
    (K6 key F9 b k).set (k:Int).toNat ((K6 key F9 b k)[(k:Int).toNat] ^^^ (j9.idx ((k:Int) % 32).toNat h2).get (a0e key.l (a42.l++(R9 F9 8++R9 (UInt64.ofInt ((k:Int)/32)) 8))))=K6 key F9 b (k+1):=by
  rw [←b0z key F9 b k hk]
  have e1:(K6 key F9 b k)[(k:Int).toNat]=b[k]:=b1U key F9 b k hk h1
  have e2:UInt64.ofInt ((k:Int)/32)=UInt64.ofNat (k/32):=by
    apply UInt64.toNat_inj.1
    rw [show(k:Int)/32=((k/32:Nat):Int) by omega]
    simp [UInt64.ofInt];omega
  have e3:(j9.idx ((k:Int) % 32).toNat h2).get (a0e key.l (a42.l++(R9 F9 8++R9 (UInt64.ofInt ((k:Int)/32)) 8)))=Z5 key F9 k:=by
    rw [e2]
    show(a6k key F9 (k/32)).l[((k:Int) % 32).toNat]'_=_
    unfold Z5
    have h3:((k:Int) % 32).toNat=k % 32:=by omega
    have h4:k % 32 < (a6k key F9 (k/32)).l.length:=by rw [I8.len];omega
    simp only [h3]
    rw [List.getD_eq_getElem?_getD,List.getElem?_eq_getElem h4];rfl
  rw [e1,e3];rfl
theorem a9u (key:Tag) (F9:UInt64) (b:List UInt8) (hb:b.length≤1000000):p4 gl prog 170 [.v key,.v F9,.v b] (fun r=>r = .v (K6 key F9 b b.length)):=by
 refine p4.jn func170 (by kernel_rfl) 42 rfl fun C hC hG => ?_
 refine .q 3 hG fun b3 => ?_
 refine .q 3 hG ?_
 refine .y6 hC .z (.L6 3 a8 .z ?_)
 refine .q 1 hG ?_
 refine .h (.buildSlice (α:=UInt8) ty5 underlying86 .nil a8 (by decide) fun b10 => ?_)
 refine .q 1 hG ?_
 refine .ap (by simp<;>omega) (by simp<;>omega) fun w12 => ?_
 refine .q 8 hG ?_
 refine .D8 (α:=Nat) [(1,_),(3,_),(7,_)] (fun k R=>(8,.v (k:Int))::R) (fun k => [(true,.own 5 w12 (K6 key F9 b k)),(true,.fz (ptr b3 0) (.p key))]) (fun k=>k≤b.length) (fun k=>b.length - k) (0) (.c2 a8 a8 (.cons a8 (.nil _))) ?_ (.c2 a8 a8 (.c2 a8 a8 (.nil _))) (a8) fun k hF => ?_
 ·simp
 have hl0:=O9 key F9 b k
 refine .q 5 hG ?_
 refine .p (.a4v underlying86 a8 .z ?_)
 refine .q 3 hG ⟨fun hc16 => ?_,fun hc16 => ?_⟩
 ·refine .q 4 hG ?_
  have hb1:=D9 F9 8
  have hb2:=D9 (UInt64.ofInt ((k:Int)/32)) 8
  have hl5:=O9 key F9 b k
  refine .a0O [[j1,j1],[j1,j1],[j1,j1],[j1,j1]] [[j1,j1],[j1,j1],[],[j1,j1],[j1,j1],[j1,j1],[j1,j1],[],[],[j1,j1],[]] [[],[],[],[9]] [(10,(⟨(I8 32 UInt8),inferInstance,default⟩:AT))] 3 (by kernel_rfl) 11 [[],[],[(20,1)],[],[(22,3)],[(23,4)],[(24,5)],[(21,2),(25,6)],[(26,7)],[(19,0),(27,8)],[]] [2,7,8] rfl (by kernel_rfl) rfl (by kernel_rfl) rfl (by decide) (by simp) (List.forall_mem_cons.2 ⟨fun o ho=>by obtain rfl:=Option.some.inj (show some _=some o from ho);exact⟨rfl,fun _ _=>A0.alloc A5 fun b=>⟨b,rfl,rfl⟩⟩,(fun p hp=>by cases hp)⟩) (by kernel_rfl) rfl ?_
  refine⟨_,fun H=>j6.O6 (by decide) M6 (.t a8) a8,?_⟩
  refine⟨_,fun H=>j6.move (.t a8) a8,?_⟩
  refine .inl ?_
  refine⟨_,fun H=>j6.move (.t a8) a8,?_⟩
  refine⟨_,fun H=>j6.quo (.t a8) (.i a8) (by omega) (by omega) a8,?_⟩
  refine⟨_,fun H=>j6.a1r underlying3 underlying77 (.t a8) a8,?_⟩
  refine⟨_,fun H=>j6.o8 hG (b0u _) (.cons (.t a8) .nil) a8,?_⟩
  refine .inl (.inl (.inl (.inl ?_)))
  refine⟨a8,?_⟩
  refine⟨⟨j2 [c8,c8],a8⟩,fun Ys5 => ?_⟩
  refine A0.a6a hG (a2A _) (.cons (.t rfl) .nil) fun r21 Hs21 hr21 => ?_
  obtain⟨u21,rfl,rfl⟩:=hr21
  refine⟨[_],_,a8,?_⟩
  refine⟨⟨j2 [c8,c8],a8⟩,fun Ys5 => ?_⟩
  refine A0.append P3 (.inl ⟨_,underlying86⟩) rfl .z (.v (.t rfl)) (by omega) (by omega) (fun w26 => ?_) rfl
  refine⟨[_],_,a8,?_⟩
  refine⟨⟨j2 [c8,c8],a8⟩,fun Ys5 => ?_⟩
  refine A0.u0 hC .z (A0.as 26 rfl .z (A0.ofP (j6.o8 hG (a4E _ _ (by simp) (by simp<;>omega)) (.cons (.s [115,116,114,101,97,109] (by decide) (by decide)) (.cons (.t rfl) .nil)) ?_)))
  refine⟨[_],_,a8,?_⟩
  refine⟨_,fun H=>j6.o8 hG (a41 _ _ (by simp) (by simp<;>omega)) (.cons (.t a8) (.cons (.t a8) .nil)) a8,?_⟩
  refine⟨⟨j2 [c8,c8],a8⟩,fun ws5 => ?_⟩
  refine⟨⟨j2 [c8,c8],a8⟩,fun _ => ?_⟩
  show D0 _ _ _ _ _ [_] ((9,_)::(28,_)::(27,_)::(26,_)::(25,_)::(24,_)::(23,_)::(22,_)::(21,_)::(20,_)::(19,_)::_) _
  refine .n (.R6 A5 (.t a8) (.t a8) .z1 ?_)
  refine .q 1 hG ?_
  have hl6:=O9 key F9 b k
  refine .draw (by kernel_rfl) 12 [[],[],[],[],[(31,2),(32,3)],[(33,4)],[],[(35,6)],[(36,7)],[(37,8)],[(34,5),(38,9)],[(29,0),(30,1)]] a8 (by kernel_rfl) a8 ?_
  refine⟨_,j6.move (.t a8) a8,?_⟩
  refine⟨_,j6.move (.t a8) a8,?_⟩
  refine⟨_,j6.move (.t a8) a8,?_⟩
  refine⟨_,j6.move (.t a8) a8,?_⟩
  refine⟨_,j6.V2 ty5 underlying86 a8 .z2 (.t a8) (by omega) (by omega) a8,?_⟩
  refine⟨_,j6.b1B ty5 (.t a8) .z2 (by omega) a8,?_⟩
  refine⟨_,j6.move (.t a8) a8,?_⟩
  refine⟨_,j6.rem (.t a8) (.i a8) (by omega) (by omega) a8,?_⟩
  refine⟨_,j6.c16 M6 (.t a8) (.t a8) (by omega) (by omega) a8,?_⟩
  refine⟨_,j6.ldL ty5 (.t a8) .z1 a8,?_⟩
  refine⟨_,j6.b5L (.t a8) (.t a8) a8,?_⟩
  refine⟨_,j6.V2 ty5 underlying86 a8 .z2 (.t a8) (by omega) (by omega) a8,?_⟩
  show D0 _ _ _ _ _ [_] ((40,_)::(39,_)::(38,_)::(37,_)::(36,_)::(35,_)::(34,_)::(33,_)::(32,_)::(31,_)::(30,_)::(29,_)::_) _
  refine .n (.b0m ty5 (.t a8) (.t a8) .z2 (by omega) (.drop (.drop ?_)))
  refine .q 3 hG ?_
  refine .ad (by omega) (by omega) ?_
  refine .q 2 hG ?_
  refine⟨k+1,.c2 rfl rfl (.c2 rfl rfl (.nil _)),congrArg (fun q => [(true,D6.own _ _ q),_]) (b1V key F9 b k (by omega) _ _),?_,by omega⟩
  omega
 ·refine .q 6 hG ?_
  refine .u0 hC .z (.as 6 a8 .z ?_)
  refine .q 1 hG ?_
  refine .e1 a8 a8 ?_
  obtain rfl:k=b.length:=by omega
  rfl
theorem a9v (s:Y4) (b:List UInt8) (hs:s.l.length≤1000) (hb:b.length≤1000000):E4 gl prog 130 [.v s,.v b] [] (fun r Hs=>∃ u,r = .raw u∧Hs = [.own 5 u (s.l++b)]):=by
 refine E4.P8 func130 rfl (by kernel_rfl) 9 rfl rfl _ rfl _ rfl fun C hC hG => ?_
 refine .q 7 hG ?_
 refine .h (.W9 underlying9 underlying86 underlying5 (.t a8) fun w6 => ?_)
 refine .q 1 hG ?_
 refine .ap (by omega) (by omega) fun w8 => ?_
 refine .q 3 hG ?_
 refine .e1 a8 a8 ?_
 refine⟨_,.cons .z (.nil),?_⟩
 exact⟨w8,a8,a8⟩
def a3f:Y4:=⟨[98,111,120]⟩
def a4F (k:Tag) (n:Int) (p:List UInt8) (x:m9):Bool:=decide (x.Key=k)&&decide (x.E0=n)&&decide (x.Plain=p)
def V5 (k:Tag) (n:Int) (p:List UInt8):List UInt8:=R9 (UInt64.ofInt n) 8++K6 k (UInt64.ofInt n) p p.length
def Y1 (k:Tag) (n:Int) (p:List UInt8):List UInt8:=V5 k n p++(a0e k.l (a3f.l++V5 k n p)).l
def a3g (a:C9) (k:Tag) (n:Int) (p:List UInt8):List UInt8:=if a.K1 then (V4 98 (a.x9.length+1)).l++List.replicate (p.length+8) 0 else Y1 k n p
def Q5 (a:C9) (k:Tag) (n:Int) (p:List UInt8):C9×List UInt8×Int :=
 if n < 0∨281474976710656 < n then (default,[],1) else if 256 < p.length then (default,[],2) else
 match a.x9.find? (a4F k n p) with
 | some x=>(a,x.Y5,0)
 | none=>if 65536≤a.x9.length then (default,[],2) else
  (⟨a.K1,a.a4f,a.F7,a.G4,a.x9 ++ [⟨k,n,p,a3g a k n p⟩]⟩,a3g a k n p,0)
theorem a9b {a:C9} {k:Tag} {n:Int} {p:List UInt8} (h:(decide (n < 0)||decide (281474976710656 < n))=true):Q5 a k n p=(default,[],1):=by
 unfold Q5;rw [if_pos (by simpa using h)]
theorem b0A {a:C9} {k:Tag} {n:Int} {p:List UInt8} (h:(decide (n < 0)||decide (281474976710656 < n))=false) (h2:256 < p.length):Q5 a k n p=(default,[],2):=by
 unfold Q5;rw [if_neg (by simp at h ⊢;omega),if_pos h2]
theorem a3h {a:C9} {k:Tag} {n:Int} {p:List UInt8} {x:m9} (h:(decide (n < 0)||decide (281474976710656 < n))=false) (h2:¬256 < p.length) (h3:a.x9.find? (a4F k n p)=some x):Q5 a k n p=(a,x.Y5,0):=by
 unfold Q5;rw [if_neg (by simp at h ⊢;omega),if_neg h2,h3]
theorem b0B {a:C9} {k:Tag} {n:Int} {p:List UInt8} (h:(decide (n < 0)||decide (281474976710656 < n))=false) (h2:¬256 < p.length) (h3:a.x9.find? (a4F k n p)=none) (h4:65536≤a.x9.length):Q5 a k n p=(default,[],2):=by
 unfold Q5;rw [if_neg (by simp at h ⊢;omega),if_neg h2,h3];simp only [];rw [if_pos h4]
theorem a2T {a : C9} {k : Tag} {n : Int} {p : List UInt8} (h : (decide (n < 0) || decide (281474976710656 < n)) = false) (h2 : ¬ 256 < p.length) (h3 : a.x9.find? (a4F k n p) = none) (h4 : ¬ 65536 ≤ a.x9.length) :
    Q5 a k n p=(⟨a.K1,a.a4f,a.F7,a.G4,a.x9 ++ [⟨k,n,p,a3g a k n p⟩]⟩,a3g a k n p,0):=by
  unfold Q5;rw [if_neg (by simp at h ⊢;omega),if_neg h2,h3];simp only [];rw [if_neg h4]
theorem b1W {a:C9} {k:Tag} {n:Int} {p:List UInt8} (h:a.K1=true):a3g a k n p=(V4 98 (a.x9.length+1)).l++List.replicate (p.length+8) 0:=by unfold a3g;rw [if_pos h]
theorem b1X {a:C9} {k:Tag} {n:Int} {p:List UInt8} (h:a.K1=false):a3g a k n p=Y1 k n p:=by unfold a3g;rw [if_neg (by rw [h];decide)]
theorem a5H {l:List m9} {p:m9→Bool} {k:Nat} (h:k < l.length) (h1:p l[k]=true) (h2:∀ j (hj:j < l.length),j < k→p l[j]=false):l.find? p=some l[k] :=
 List.find?_eq_some_iff_getElem.2 ⟨h1,k,h,rfl,fun j hj=>by rw [h2 j (by omega) hj];rfl⟩
theorem a2B {l:List m9} {p:m9→Bool} (h:∀ j (hj:j < l.length),p l[j]=false):l.find? p=none :=
 List.find?_eq_none.2 fun x hx=>by
  obtain⟨j,hj,rfl⟩:=List.getElem_of_mem hx
  rw [h j hj];decide
theorem b5q (a:C9) (k:Tag) (n:Int) (p:List UInt8) (hb:∀ x∈a.x9,x.Y5.length≤1000000):p4 gl prog 140 [.v a,.v k,.v n,.v p] (fun r=>r = .t3 (.v (Q5 a k n p).1) (.v (Q5 a k n p).2.1) (.v (Q5 a k n p).2.2)):=by
 refine p4.jn func140 (by kernel_rfl) 111 rfl fun C hC hG => ?_
 refine .q 3 hG fun b4 => ?_
 refine .q 1 hG fun b5 => ?_
 refine .q 1 hG fun b8 => ?_
 refine .q 5 hG ?_
 refine .y6 hC .z1 (.L6 5 a8 .z1 ?_)
 refine .q 8 hG ?_
 refine .cond (.t a8) (fun hc21 => ?_) (fun hc21 => ?_)
 ·refine .q 2 hG ?_
  refine .p (.bS0 (α:=m0) a8 y9 a1i ?_)
  refine .q 5 hG ?_
  refine⟨_,.r3 a8 (.cell y9 a8 .z) (.tmp a8) (.tmp a8),?_⟩
  rw [a9b hc21]
 ·refine .q 9 hG ⟨fun hc25 => ?_,fun hc25 => ?_⟩
  ·refine .q 2 hG ?_
   refine .p (.bS0 (α:=m0) a8 y9 a1i ?_)
   refine .q 5 hG ?_
   refine⟨_,.r3 a8 (.cell y9 a8 .z) (.tmp a8) (.tmp a8),?_⟩
   rw [b0A hc21 (by omega)]
  ·refine .q 7 hG ?_
   refine .D8 (α:=Nat) [(2,_),(3,_),(4,_),(5,_),(8,_)] (fun i R=>(11,.v (i:Int))::R) (fun i => [(true,.ob (ptr b8 0) (default:C9)),(true,.fz (ptr b5 0) (.p k)),(true,.ob (ptr b4 0) a)]) (fun i=>i≤a.x9.length∧∀ j (hj:j < a.x9.length),j < i→a4F k n p a.x9[j]=false) (fun i=>a.x9.length - i) (0) (.c2 a8 a8 (.c2 a8 a8 (.cons a8 (.nil _)))) ?_ (.c2 a8 a8 (.c2 a8 a8 (.c2 a8 a8 (.nil _)))) (a8) fun i hF => ?_
   ·simp
   obtain⟨h1,h2⟩:=hF
   refine .q 10 hG ⟨fun hc31 => ?_,fun hc31 => ?_⟩
   ·refine .q 4 hG ?_
    refine .T3 29 a8 fun hl29 => ?_
    refine .q 4 hG ?_
    refine .ix (by omega) (by omega) ?_
    refine .q 2 hG fun b12 => ?_
    refine .q 7 hG ?_
    refine .p (.a8p underlying26 sz5 underlying5 b3b (.t a8) (.t a8) ?_)
    refine .q 10 hG ?_
    refine .go 49 a8 (.t a8) (fun hg53 => .o8 hG (a6R _ _) (.cons (.q a8 hg53) (.cons (.q a8 hg53) .nil)) a8) ?_
    refine .q 2 hG ?_
    refine .cond (.t a8) (fun hc54 => ?_) (fun hc54 => ?_)
    ·refine .q 1 hG ?_
     have hb10:∀ h:(i:Int).toNat < a.x9.length,(a.x9[(i:Int).toNat]'h).Y5.length≤1000000:=fun h=>hb _ (List.getElem_mem h)
     have hb11:=hb10 (by omega)
     refine .draw (by kernel_rfl) 5 [[],[],[],[(57,2)],[(56,1),(58,3)]] a8 (by kernel_rfl) a8 ?_
     refine⟨_,j6.S4 y9 (.t a8) .z3 a8,?_⟩
     refine⟨_,j6.E7 (α:=UInt8) ty5 underlying86 .nil a8 (by decide) a8,?_⟩
     refine⟨_,j6.A9 m9.l3 a97 a8 (.t a8) a8,?_⟩
     refine⟨_,j6.ldF (fun x=>x.Y5) a3y (.t a8) .z (fun _=>a8) a8,?_⟩
     refine⟨_,j6.a0z P3 (.inl ⟨_,underlying86⟩) (.t a8) (.v (.t a8)) (by simp at * <;> omega) (by simp at * <;> omega) a8,?_⟩
     show D0 _ _ _ _ _ [_,_,_] ((59,_)::(58,_)::(57,_)::(56,_)::(55,_)::_) _
     refine .q 5 hG ?_
     refine⟨_,.r3 a8 (.cell y9 a8 .z1) (.tmp a8) (.tmp a8),?_⟩
     rw [a3h hc21 (by omega) (a5H (k:=i) (by omega) hc54 h2)];rfl
    ·refine .q 1 hG ?_
     refine .drop ?_
     refine .q 2 hG ?_
     refine .ad (by omega) (by omega) ?_
     refine .q 2 hG ?_
     refine⟨i+1,.c2 rfl rfl (.c2 rfl rfl (.c2 rfl rfl (.nil _))),rfl,?_,by omega⟩
     refine⟨by omega,fun j hj hji => ?_⟩;rcases Nat.lt_or_ge j i with h|h;exact h2 j hj h;(obtain rfl:j=i:=by omega);exact hc54
   ·refine .q 10 hG ⟨fun hc63 => ?_,fun hc63 => ?_⟩
    ·refine .q 2 hG ?_
     refine .p (.bS0 (α:=m0) a8 y9 a1i ?_)
     refine .q 5 hG ?_
     refine⟨_,.r3 a8 (.cell y9 a8 .z) (.tmp a8) (.tmp a8),?_⟩
     rw [b0B hc21 (by omega) (a2B fun j hj=>h2 j hj (by omega)) (by omega)]
    ·refine .q 11 hG ?_
     refine .cond (.t a8) (fun hc66 => ?_) (fun hc66 => ?_)
     ·refine .q 5 hG ?_
      refine .ad (by omega) (by omega) (.p (.o8 hG (a6S _ _) (.cons (.u8 98 a8) (.cons (.t a8) .nil)) ?_))
      refine .q 1 hG fun b14 => ?_
      refine .q 2 hG ?_
      refine .y6 hC .z (.L6 14 a8 .z ?_)
      refine .q 1 hG ?_
      refine .p (.c0e (by decide) M6 (.t a8) ?_)
      refine .q 2 hG ?_
      refine .ad (by omega) (by omega) (.p (.b7V underlying86 c24 a8 a8 a8 (fun _=>a8) underlying3 (.t a8) (.t a8) (by omega) (by simp<;>omega) (by simp<;>omega) ?_))
      refine .q 3 hG ?_
      refine .D7 [j1,j1,j1,j1] (by kernel_rfl) 14 [[],[],[(94,1)],[(93,0),(95,2)],[],[],[],[],[(99,6),(100,7)],[],[(97,4),(98,5),(101,8),(102,9)],[(103,10)],[(96,3),(104,11)],[]] [0,3,12] a8 (by kernel_rfl) a8 (by kernel_rfl) (by decide) (.inl ?_)
      refine⟨_,fun H=>j6.A9 m0.l4 a5x a8 (.t a8) a8,?_⟩
      refine⟨_,fun H=>j6.ldF (fun x=>x.x9) b3E (.t a8) (u4.app .z3) (fun _=>a8) a8,?_⟩
      refine .inl ?_
      refine⟨_,fun H=>j6.G6 A5 (.t a8) a8,?_⟩
      refine⟨_,fun H=>j6.move (.t a8) a8,?_⟩
      refine⟨_,fun H=>j6.E7 (α:=UInt8) ty5 underlying86 .nil a8 (by decide) a8,?_⟩
      refine⟨_,fun H=>j6.move (.t a8) a8,?_⟩
      refine⟨_,fun H=>j6.a0z P3 (.inl ⟨_,underlying86⟩) (.t a8) (.v (.t a8)) (by simp<;>omega) (by simp<;>omega) a8,?_⟩
      refine⟨_,fun H=>j6.move (.t a8) a8,?_⟩
      refine⟨_,fun H=>j6.bS4 m9.l0 m9.l1 m9.l2 m9.l3 a8 a5l c1e (fun c0 c1 c2 c3=>(⟨c0,c1,c2,c3⟩:m9)) (fun _ _ _ _=>a8) a8 a8 a8 a8 a8 (.t a8) (.t a8) (.t a8) (.t a8) a8,?_⟩
      refine⟨_,fun H=>j6.E7 (α:=m9) a5l underlying36 (.cons (.t a8) .nil) a8 (by decide) a8,?_⟩
      refine .inl ?_
      refine⟨_,fun H=>j6.A9 m0.l4 a5x a8 (.t a8) a8,?_⟩
      refine⟨⟨([],j2 [c8,c8,c8,c8]),a8⟩,?_⟩
      refine A0.buildSlice (α:=m9) a5l underlying36 .nil rfl (by decide) fun b93 => ?_
      refine⟨⟨([_],j2 [c8,c8,c8,c8]),a8⟩,?_⟩
      refine A0.append c0m (.inl ⟨_,underlying36⟩) rfl .z (.v (.t rfl)) (by simp<;>omega) (by simp<;>omega) (fun w96 => ?_) rfl
      refine⟨⟨([_],j2 [c8,c8,c8,c8]),a8⟩,?_⟩
      refine A0.append c0m (.inl ⟨_,underlying36⟩) rfl .z (.v (.c rfl)) (by simp<;>omega) (by simp<;>omega) (fun w105 => ?_) rfl
      refine⟨⟨([_],j2 [c8,c8,c8,c8]),a8⟩,?_⟩
      show D0 _ _ _ _ _ [_] ((106,_)::(105,_)::(104,_)::(103,_)::(102,_)::(101,_)::(100,_)::(99,_)::(98,_)::(97,_)::(96,_)::(95,_)::(94,_)::(93,_)::_) _
      refine .u0 hC .z (.as 105 a8 .z (.n (.stF (fun y x => { x with x9:=y }) b3E (.t a8) (.t a8) .z4 (fun _ _=>a8) ?_)))
      refine .q 2 hG ?_
      refine .draw (by kernel_rfl) 4 [[],[],[],[(108,1),(109,2)]] a8 (by kernel_rfl) a8 ?_
      refine⟨_,j6.S4 y9 (.t a8) .z4 a8,?_⟩
      refine⟨_,j6.E7 (α:=UInt8) ty5 underlying86 .nil a8 (by decide) a8,?_⟩
      refine⟨_,j6.move (.t a8) a8,?_⟩
      refine⟨_,j6.a0z P3 (.inl ⟨_,underlying86⟩) (.t a8) (.v (.t a8)) (by simp<;>omega) (by simp<;>omega) a8,?_⟩
      show D0 _ _ _ _ _ [_,_,_] ((110,_)::(109,_)::(108,_)::(107,_)::_) _
      refine .q 5 hG ?_
      refine⟨_,.r3 a8 (.cell y9 a8 .z2) (.tmp a8) (.tmp a8),?_⟩
      rw [a2T hc21 (by omega) (a2B fun j hj=>h2 j hj (by omega)) (by omega),b1W hc66];rfl
     ·refine .q 1 hG ?_
      have hb17:=D9 (UInt64.ofInt n) 8
      have hb18:=O9 k (UInt64.ofInt n) p p.length
      refine .a7h (by kernel_rfl) 10 [[],[(77,0)],[(78,1)],[],[],[(81,4)],[],[(80,3),(82,5),(83,6)],[(79,2),(84,7)],[(85,8)]] [2,8,9] a8 (by kernel_rfl) a8 (by kernel_rfl) (by decide) ?_
      refine⟨_,fun H=>j6.move (.t a8) a8,?_⟩
      refine⟨_,fun H=>j6.a1r underlying3 underlying77 (.t a8) a8,?_⟩
      refine .inl ?_
      refine⟨_,fun H=>j6.G6 A5 (.t a8) a8,?_⟩
      refine⟨_,fun H=>j6.move (.t a8) a8,?_⟩
      refine⟨_,fun H=>j6.a1r underlying3 underlying77 (.t a8) a8,?_⟩
      refine⟨_,fun H=>j6.move (.t a8) a8,?_⟩
      refine⟨_,fun H=>j6.o8 hG (a9u _ _ _ (by omega)) (.cons (.t a8) (.cons (.t a8) (.cons (.t a8) .nil))) a8,?_⟩
      refine .inl (.inl ?_)
      refine A0.a6a hG (a2A _) (.cons (.t rfl) .nil) fun r79 Hs79 hr79 => ?_
      obtain⟨u79,rfl,rfl⟩:=hr79
      refine A0.append P3 (.inl ⟨_,underlying86⟩) rfl .z (.v (.t rfl)) (by omega) (by omega) (fun w85 => ?_) rfl
      refine A0.ofP (j6.assign (.t rfl) ?_)
      show D0 _ _ _ _ _ [] ((13,_)::(85,_)::(84,_)::(83,_)::(82,_)::(81,_)::(80,_)::(79,_)::(78,_)::(77,_)::_) _
      refine .q 2 hG ?_
      refine .a0O [[j1,j1,j1,j1],[j0,j1,j1,j1],[j0,j1,j1,j1]] [[j0,j1,j1,j1],[j1,j1,j1,j1],[],[],[]] [] [(4,(⟨(I8 32 UInt8),inferInstance,default⟩:AT))] 2 (by kernel_rfl) 5 [[],[],[(87,1)],[(86,0),(88,2)],[]] [2,3] rfl (by kernel_rfl) rfl (by kernel_rfl) rfl (by decide) (by simp) (List.forall_mem_cons.2 ⟨fun o ho=>by obtain rfl:=Option.some.inj (show some _=some o from ho);exact⟨rfl,fun _ _=>A0.alloc A5 fun b=>⟨b,rfl,rfl⟩⟩,(fun p hp=>by cases hp)⟩) (by kernel_rfl) rfl ?_
      refine⟨_,fun H=>j6.O6 (by decide) M6 (.t a8) a8,?_⟩
      refine⟨_,fun H=>j6.move (.t a8) a8,?_⟩
      refine .inl (.inl (.inl ?_))
      refine⟨a8,?_⟩
      refine⟨⟨j2 [c8,c8,c8,c8],a8⟩,fun Ys18 => ?_⟩
      refine A0.c1p hG (a9v _ _ (by simp) (by simp<;>omega)) (.cons (.e (.s [98,111,120] (by decide) (by decide))) (.cons (.own rfl (u4.app (u4.app .z))) .nil)) (by rintro _ _ ⟨u,rfl,rfl⟩;exact .own) fun r88 Hs88 hr88 => ?_
      obtain⟨u88,rfl,rfl⟩:=hr88
      refine⟨[_],_,a8,?_⟩
      refine⟨⟨j2 [_,c8,c8,c8],a8⟩,fun Ys18 => ?_⟩
      refine A0.ofP (j6.c1i hG (a41 _ _ (by simp) (by simp<;>omega)) (.cons (.e (.t rfl)) (.cons (.own rfl .z) .nil)) (by first|exact .v|exact .t2 .v .v|exact .t3 .v .v .v) ?_)
      refine⟨[_],_,a8,?_⟩
      refine⟨⟨j2 [_,c8,c8,c8],a8⟩,fun ws18 => ?_⟩
      refine⟨⟨j2 [_,c8,c8,c8],a8⟩,fun _ => ?_⟩
      show D0 _ _ _ _ _ [_] ((15,_)::(89,_)::(88,_)::(87,_)::(86,_)::_) _
      refine .n (.R6 A5 (.t a8) (.t a8) .z1 ?_)
      refine .q 1 hG ?_
      refine .y6 hC .z1 (.L6 15 a8 .z1 ?_)
      refine .q 2 hG ?_
      refine .p (.O6 (by decide) M6 (.t a8) (.h (.append P3 (.inl ⟨_,underlying86⟩) a8 .z2 (.v (.t a8)) (by simp<;>omega) (by simp<;>omega) (fun w92 => .ag a8 ?_) a8)))
      refine .q 2 hG ?_
      refine .u0 hC .z2 (.as 13 a8 .z2 (.D7 [j1,j1,j1,j1,j1,j1] (by kernel_rfl) 14 [[],[],[(94,1)],[(93,0),(95,2)],[],[],[],[],[(99,6),(100,7)],[],[(97,4),(98,5),(101,8),(102,9)],[(103,10)],[(96,3),(104,11)],[]] [0,3,12] a8 (by kernel_rfl) a8 (by kernel_rfl) (by decide) (.inl ?_)))
      refine⟨_,fun H=>j6.A9 m0.l4 a5x a8 (.t a8) a8,?_⟩
      refine⟨_,fun H=>j6.ldF (fun x=>x.x9) b3E (.t a8) (u4.app .z5) (fun _=>a8) a8,?_⟩
      refine .inl ?_
      refine⟨_,fun H=>j6.G6 A5 (.t a8) a8,?_⟩
      refine⟨_,fun H=>j6.move (.t a8) a8,?_⟩
      refine⟨_,fun H=>j6.E7 (α:=UInt8) ty5 underlying86 .nil a8 (by decide) a8,?_⟩
      refine⟨_,fun H=>j6.move (.t a8) a8,?_⟩
      refine⟨_,fun H=>j6.a0z P3 (.inl ⟨_,underlying86⟩) (.t a8) (.v (.t a8)) (by simp<;>omega) (by simp<;>omega) a8,?_⟩
      refine⟨_,fun H=>j6.move (.t a8) a8,?_⟩
      refine⟨_,fun H=>j6.bS4 m9.l0 m9.l1 m9.l2 m9.l3 a8 a5l c1e (fun c0 c1 c2 c3=>(⟨c0,c1,c2,c3⟩:m9)) (fun _ _ _ _=>a8) a8 a8 a8 a8 a8 (.t a8) (.t a8) (.t a8) (.t a8) a8,?_⟩
      refine⟨_,fun H=>j6.E7 (α:=m9) a5l underlying36 (.cons (.t a8) .nil) a8 (by decide) a8,?_⟩
      refine .inl ?_
      refine⟨_,fun H=>j6.A9 m0.l4 a5x a8 (.t a8) a8,?_⟩
      refine⟨⟨([],j2 [c8,c8,c8,c8,c8,c8]),a8⟩,?_⟩
      refine A0.buildSlice (α:=m9) a5l underlying36 .nil rfl (by decide) fun b93 => ?_
      refine⟨⟨([_],j2 [c8,c8,c8,c8,c8,c8]),a8⟩,?_⟩
      refine A0.append c0m (.inl ⟨_,underlying36⟩) rfl .z (.v (.t rfl)) (by simp<;>omega) (by simp<;>omega) (fun w96 => ?_) rfl
      refine⟨⟨([_],j2 [c8,c8,c8,c8,c8,c8]),a8⟩,?_⟩
      refine A0.append c0m (.inl ⟨_,underlying36⟩) rfl .z (.v (.c rfl)) (by simp<;>omega) (by simp<;>omega) (fun w105 => ?_) rfl
      refine⟨⟨([_],j2 [c8,c8,c8,c8,c8,c8]),a8⟩,?_⟩
      show D0 _ _ _ _ _ [_] ((106,_)::(105,_)::(104,_)::(103,_)::(102,_)::(101,_)::(100,_)::(99,_)::(98,_)::(97,_)::(96,_)::(95,_)::(94,_)::(93,_)::_) _
      refine .u0 hC .z (.as 105 a8 .z (.n (.stF (fun y x => { x with x9:=y }) b3E (.t a8) (.t a8) .z6 (fun _ _=>a8) ?_)))
      refine .q 2 hG ?_
      refine .draw (by kernel_rfl) 4 [[],[],[],[(108,1),(109,2)]] a8 (by kernel_rfl) a8 ?_
      refine⟨_,j6.S4 y9 (.t a8) .z6 a8,?_⟩
      refine⟨_,j6.E7 (α:=UInt8) ty5 underlying86 .nil a8 (by decide) a8,?_⟩
      refine⟨_,j6.move (.t a8) a8,?_⟩
      refine⟨_,j6.a0z P3 (.inl ⟨_,underlying86⟩) (.t a8) (.v (.t a8)) (by simp<;>omega) (by simp<;>omega) a8,?_⟩
      show D0 _ _ _ _ _ [_,_,_] ((110,_)::(109,_)::(108,_)::(107,_)::_) _
      refine .q 5 hG ?_
      refine⟨_,.r3 a8 (.cell y9 a8 .z4) (.tmp a8) (.tmp a8),?_⟩
      rw [a2T hc21 (by omega) (a2B fun j hj=>h2 j hj (by omega)) (by omega),b1X hc66];rfl
structure b8h where
 K1:Bool
 a4f:(I8 32 UInt8)
 F7:Int
 G4:V3
 x9:V3
structure MkU where
 a:C9
 e:Int
 um:Value
 ub:Value
theorem b3J {α:Type} {l:List α} {p:α→Bool} (h:0≤idx l p):idx l p < l.length:=by
 unfold idx at *;split at h<;>split<;>omega
theorem b0C {α:Type} {l:List α} {p:α→Bool} (h:0≤idx l p) (h2:(idx l p).toNat < l.length):l.find? p=some l[(idx l p).toNat]:=by
 have h3:l.findIdx p < l.length:=by unfold idx at h;split at h<;>omega
 have h4:(idx l p).toNat=l.findIdx p:=by unfold idx;rw [if_pos h3];rfl
 simp only [h4]
 exact List.find?_eq_some_iff_getElem.2 ⟨List.findIdx_getElem (w:=h3),_,h3,rfl,fun j hj=>by simpa using List.not_of_lt_findIdx hj⟩
theorem b0D {α:Type} {l:List α} {p:α→Bool} (h:¬0≤idx l p):l.find? p=none:=by
 unfold idx at h
 split at h
 ·omega
 ·next h3=>exact List.find?_eq_none.2 fun x hx hp=>h3 (List.findIdx_lt_length_of_exists ⟨x,hx,hp⟩)
theorem a1w (a:C9) (k:Tag) (m:List UInt8):p4 gl prog 95 [.v a,.v k,.v m] (fun r=>r = .t2 (.v (m6 a k m).1) (.v (m6 a k m).2)):=by
 refine p4.jn func95 (by kernel_rfl) 32 rfl fun C hC hG => ?_
 refine .q 3 hG fun b3 => ?_
 refine .q 1 hG fun b4 => ?_
 refine .q 1 hG fun b6 => ?_
 refine .q 4 hG ?_
 refine .y6 hC .z1 (.L6 4 a8 .z1 (.y6 hC .z2 (.L6 3 a8 .z2 ?_)))
 refine .q 4 hG ?_
 refine .cond (.t a8) (fun hc10 => ?_) (fun hc10 => ?_)
 ·refine .q 6 hG ?_
  refine .p (.o8 hG (c2l _ _ _) (.cons (.t a8) (.cons (.t a8) (.cons (.t a8) .nil))) ?_)
  refine .q 9 hG ⟨fun hc17 => ?_,fun hc17 => ?_⟩
  ·refine .q 2 hG ?_
   refine .p (.M8 (default:(I8 32 UInt8)) A5 M6 .nil a8 ?_)
   refine .q 4 hG ?_
   refine⟨_,.r2 a8 (.cell A5 a8 .z) (.tmp a8),?_⟩
   have e:m6 a k m=(default,false):=by unfold m6 M7 S1;rw [if_pos hc10,b0D (by omega)]
   rw [e]
  ·refine .q 2 hG ?_
   have hi7:0≤idx a.G4 (a4a k m):=by simp at hc17;omega
   have hl7:=b3J hi7
   refine .q 4 hG ?_
   refine .ix (by omega) (by omega) ?_
   refine .q 6 hG ?_
   refine⟨_,.r2 a8 (.cell A5 a8 .z) (.tmp a8),?_⟩
   have e:m6 a k m=(a.G4[(idx a.G4 (a4a k m)).toNat].Tag,true):=by unfold m6 M7 S1;rw [if_pos hc10,b0C hi7 (by omega)]
   rw [e]
 ·refine .q 9 hG ⟨fun hc27 => ?_,fun hc27 => ?_⟩
  ·refine .q 2 hG ?_
   refine .p (.M8 (default:(I8 32 UInt8)) A5 M6 .nil a8 ?_)
   refine .q 4 hG ?_
   refine⟨_,.r2 a8 (.cell A5 a8 .z) (.tmp a8),?_⟩
   have e:m6 a k m=(default,false):=by unfold m6;rw [if_neg (by rw [show a.K1=false from hc10];decide),if_pos (by omega)]
   rw [e]
  ·refine .q 3 hG ?_
   refine .p (.O6 (by decide) M6 (.t a8) ?_)
   refine .q 1 hG ?_
   refine .p (.o8 hG (a8z _ _ (by simp) (by omega)) (.cons (.t a8) (.cons (.t a8) .nil)) ?_)
   refine .q 4 hG ?_
   refine⟨_,.r2 a8 (.cell A5 a8 .z) (.tmp a8),?_⟩
   have e:m6 a k m=(a0e k.l m,true):=by unfold m6;rw [if_neg (by rw [show a.K1=false from hc10];decide),if_neg (by omega)]
   rw [e]
structure H6 (a:C9) (n:Nat):Prop where
 a0n:a.G4.length≤n
 boxes:a.x9.length≤n
 a5I:0≤a.F7
 a6T:a.F7≤n
 tag:∀ i (h:i < a.G4.length),a.G4[i].Message.length≤1000∧a.G4[i].Tag=(if a.K1 then V4 109 (i+1:Nat) else a0e a.G4[i].Key.l a.G4[i].Message)
 uniq:∀ i (h:i < a.G4.length),a.G4.find? (a4a a.G4[i].Key a.G4[i].Message)=some a.G4[i]
 box:∀ i (h:i < a.x9.length),a.x9[i].Plain.length≤256∧0≤a.x9[i].E0∧a.x9[i].E0≤281474976710656 ∧
  a.x9[i].Y5=(if a.K1 then (V4 98 (i+1:Nat)).l++List.replicate (a.x9[i].Plain.length+8) 0 else Y1 a.x9[i].Key a.x9[i].E0 a.x9[i].Plain)
theorem H6.new (free:Bool) (seed:Tag) (n:Nat):H6 ⟨free,seed,0,[],[]⟩ n :=
 ⟨Nat.zero_le _,Nat.zero_le _,Int.le_refl _,Int.natCast_nonneg _,fun i h=>(by cases h),fun i h=>(by cases h),fun i h=>(by cases h)⟩
theorem H6.le {a:C9} {n m:Nat} (h:H6 a n) (hm:n≤m):H6 a m :=
 ⟨Nat.le_trans h.a0n hm,Nat.le_trans h.boxes hm,h.a5I,by have:=h.a6T;omega,h.tag,h.uniq,h.box⟩
theorem H6.key {a:C9} {n:Nat} (h:H6 a n) (hn:n < 65536):H6 (Q4 a).1 (n+1):=by
 have:=h.a6T
 have:=h.a5I
 unfold Q4
 rw [if_neg (by omega)]
 exact⟨Nat.le_succ_of_le h.a0n,Nat.le_succ_of_le h.boxes,by show 0≤a.F7+1;omega,by show a.F7+1≤((n+1:Nat):Int);omega,h.tag,h.uniq,h.box⟩
theorem a9w (k:Tag) (m:List UInt8) (x:y3):a4a k m x=true↔x.Key=k∧x.Message=m:=by simp [a4a]
theorem H6.mac {a:C9} {n:Nat} (h:H6 a n) (hn:n < 65536) {k:Tag} {m:List UInt8} (hm:m.length≤1000):H6 (G9 a k m).1 (n+1):=by
 have h1:=h.a0n
 cases hf:S1 a k m with
 | some x =>
  have e:G9 a k m=(a,x.Tag,0):=by unfold G9;rw [if_neg (by omega),hf]
  rw [e];exact h.le (Nat.le_succ _)
 | none =>
  rw [a3W (by omega) hf (by omega)]
  have hnone:∀ x∈a.G4,a4a k m x=false:=fun x hx=>by
   have:=List.find?_eq_none.1 hf x hx
   simpa using this
  refine⟨by simp;exact h1,Nat.le_succ_of_le h.boxes,h.a5I,by have:=h.a6T;show a.F7≤_;omega,fun i hi => ?_,fun i hi => ?_,h.box⟩
  ·simp only [List.length_append,List.length_singleton] at hi
   by_cases e:i < a.G4.length
   ·simp only [List.getElem_append_left e];exact h.tag i e
   ·obtain rfl:i=a.G4.length:=by omega
    simp only [List.getElem_concat_length]
    refine⟨hm,?_⟩
    unfold a3e
    rw [show((a.G4.length+1:Nat):Int)=(a.G4.length:Int)+1 by omega]
  ·simp only [List.length_append,List.length_singleton] at hi
   by_cases e:i < a.G4.length
   ·simp only [List.getElem_append_left e]
    rw [List.find?_append,h.uniq i e];rfl
   ·obtain rfl:i=a.G4.length:=by omega
    simp only [List.getElem_concat_length]
    have:a.G4.find? (a4a k m)=none:=hf
    rw [List.find?_append,this]
    simp [a4a]
theorem H6.boxed {a:C9} {n:Nat} (h:H6 a n) (hn:n < 65536) {k:Tag} {c:Int} {p:List UInt8} (hc0:0≤c) (hc1:c≤281474976710656) (hp:p.length≤256):H6 (Q5 a k c p).1 (n+1):=by
 have h1:=h.boxes
 have hr:(decide (c < 0)||decide (281474976710656 < c))=false:=by simp;omega
 cases hf:a.x9.find? (a4F k c p) with
 | some x=>rw [a3h hr (by omega) hf];exact h.le (Nat.le_succ _)
 | none =>
  rw [a2T hr (by omega) hf (by omega)]
  refine⟨Nat.le_succ_of_le h.a0n,by simp;exact h1,h.a5I,by have:=h.a6T;show a.F7≤_;omega,h.tag,h.uniq,fun i hi => ?_⟩
  simp only [List.length_append,List.length_singleton] at hi
  by_cases e:i < a.x9.length
  ·simp only [List.getElem_append_left e];exact h.box i e
  ·obtain rfl:i=a.x9.length:=by omega
   simp only [List.getElem_concat_length]
   refine⟨hp,hc0,hc1,?_⟩
   unfold a3g
   rw [show((a.x9.length+1:Nat):Int)=(a.x9.length:Int)+1 by omega]
theorem H6.c1u {a:C9} {n:Nat} (h:H6 a n):∀ x∈a.x9,x.Y5.length≤1000000:=fun x hx=>by
 obtain⟨i,hi,rfl⟩:=List.getElem_of_mem hx
 obtain⟨h1,_,_,h2⟩:=h.box i hi
 rw [h2]
 split
 ·simp;omega
 ·simp [Y1,V5,D9,O9];omega
theorem F0 (w : Value) (d : m5) (n : Int) (hd : G1 d) (h0 : 0 < n) (h1 : n ≤ 4611686018427387904) :
    E4 gl prog 19 [dk w,.v n] [.ob w d] (fun r Hs=>∃ v:Int,∃ d',0≤v∧v < n∧G1 d'∧r = .v v∧Hs = [.ob w d']) :=
  (a2z w d n hd h0 h1).mono fun r Hs ⟨h2,h3⟩=>⟨_,_,(T6 h0).1,(T6 h0).2,O8 hd,h2,h3⟩
end Go.Proofs.YtmmclghiidoldaaGreatDoor
namespace Go.Ab
open Go.Fl Go.RowKit
open o7 (rep)
variable {P:Program} {N:Nat} {C:Ctx} {σ:x7} {H:j7} {K:AV→Prop} {d:Option Nat} {ty:TypeId} {ps:String} {af:Array Edge} {g:Option (Nat×Bool)} {x y:Operand} {T T2:TypeId}
theorem a1J {m:Int} (h0:0≤m) (h1:m≤9223372036854775807):(BitVec.ofInt 64 m).toNat=m.toNat:=by
 rw [BitVec.toNat_ofInt,Int.emod_eq_of_lt h0 (by omega)]
theorem wrap64 {n:Nat} (h:n < 2^63):IntKind.wrap .i64 (n:Int)=(n:Int):=wrap_i64 (by omega) (by omega)
theorem b8i {m n:Int} (h0:0≤m) (h1:0≤n) (hm:m≤9223372036854775807) (hn:n≤9223372036854775807):binOp .and T (i64 m) (i64 n)=pure (i64 ((m.toNat &&& n.toNat:Nat):Int)):=by
 show Op.intBits .and .i64 m n=_
 unfold Op.intBits
 have e:((BitVec.ofInt 64 m) &&& (BitVec.ofInt 64 n)).toNat=m.toNat &&& n.toNat:=by rw [BitVec.toNat_and,a1J h0 hm,a1J h1 hn]
 have hb:m.toNat &&& n.toNat < 2^63:=Nat.lt_of_le_of_lt Nat.and_le_left (by omega)
 show(pure (Value.int .i64 (IntKind.wrap .i64 (((BitVec.ofInt 64 m) &&& (BitVec.ofInt 64 n)).toNat:Int))):Sem Value)=_
 rw [e,wrap64 hb]
theorem c0q {m n:Int} (h0:0≤m) (h1:0≤n) (hm:m≤9223372036854775807) (hn:n≤9223372036854775807):binOp .or T (i64 m) (i64 n)=pure (i64 ((m.toNat ||| n.toNat:Nat):Int)):=by
 show Op.intBits .or .i64 m n=_
 unfold Op.intBits
 have e:((BitVec.ofInt 64 m) ||| (BitVec.ofInt 64 n)).toNat=m.toNat ||| n.toNat:=by rw [BitVec.toNat_or,a1J h0 hm,a1J h1 hn]
 have hb:m.toNat ||| n.toNat < 2^63:=Nat.or_lt_two_pow (by omega) (by omega)
 show(pure (Value.int .i64 (IntKind.wrap .i64 (((BitVec.ofInt 64 m) ||| (BitVec.ofInt 64 n)).toNat:Int))):Sem Value)=_
 rw [e,wrap64 hb]
theorem j6.c4S {m n:Int} (hx:E6 C σ H x (.v m)) (hy:E6 C σ H y (.v n)) (h0:0≤m) (h1:0≤n) (k:K (.v (((m.toNat &&& n.toNat:Nat):Int)))):j6 P N C ⟨d,.binOp .and T x y T2,ty,ps,af,g⟩ σ H K :=
 .vk k (fun ρ I L hs=>by
  obtain⟨e1,_,b1⟩:=hx.int hs
  obtain⟨e2,_,b2⟩:=hy.int hs
  have hb:m.toNat &&& n.toNat≤m.toNat:=Nat.and_le_left
  exact .mk ⟨_,⟨rfl,by omega,by omega⟩,rfl⟩ fun a w ha hm=>by
   simp [execOp,ha.ev e1,ha.ev e2,eqGuard,b8i h0 h1 b1 b2,asV,o7.agg])
theorem j6.orI {m n:Int} (hx:E6 C σ H x (.v m)) (hy:E6 C σ H y (.v n)) (h0:0≤m) (h1:0≤n) (k:K (.v (((m.toNat ||| n.toNat:Nat):Int)))):j6 P N C ⟨d,.binOp .or T x y T2,ty,ps,af,g⟩ σ H K :=
 .vk k (fun ρ I L hs=>by
  obtain⟨e1,_,b1⟩:=hx.int hs
  obtain⟨e2,_,b2⟩:=hy.int hs
  have hb:m.toNat ||| n.toNat < 2^63:=Nat.or_lt_two_pow (by omega) (by omega)
  exact .mk ⟨_,⟨rfl,by omega,by omega⟩,rfl⟩ fun a w ha hm=>by
   simp [execOp,ha.ev e1,ha.ev e2,eqGuard,c0q h0 h1 b1 b2,asV,o7.agg])
theorem j6.c3E {m:Int} {n:UInt64} (hx:E6 C σ H x (.v m)) (hy:E6 C σ H y (.v n)) (h1:n.toNat < 64) (k:K (.v (m >>> n.toNat))):j6 P N C ⟨d,.binOp .shr T x y T2,ty,ps,af,g⟩ σ H K :=
 .vk k (fun ρ I L hs=>by
  have hm:=(hx.int hs).2
  refine .mk ⟨_,⟨rfl,?_,?_⟩,rfl⟩ fun a w ha hm=>by
   have e:=b1x T m .u64 n.toNat h1
   simp only [execOp,ha.ev (hx.int hs).1,ha.ev (hy.a1j hs),eqGuard]
   simp [Fl.u64,e,asV,o7.agg]
  ·rw [Int.shiftRight_eq_div_pow]
   rcases Int.le_total 0 m with h|h
   ·have:=Int.ediv_nonneg h (Int.natCast_nonneg (2^n.toNat));omega
   ·have h2:(1:Int)≤((2^n.toNat:Nat):Int):=Int.natCast_pos.2 (Nat.two_pow_pos _)
    have:=Int.le_ediv_of_mul_le (a:=m) (b:=m) (c:=((2^n.toNat:Nat):Int)) (by omega) (by have:=Int.mul_le_mul_of_nonpos_left h h2;omega)
    omega
  ·rw [Int.shiftRight_eq_div_pow]
   rcases Int.le_total 0 m with h|h
   ·have:=Int.ediv_le_self ((2^n.toNat:Nat):Int) h;omega
   ·have h2:(0:Int) < ((2^n.toNat:Nat):Int):=Int.natCast_pos.2 (Nat.two_pow_pos _)
    have:=Int.ediv_lt_of_lt_mul (a:=m) (b:=1) h2 (by omega);omega)
theorem A0.b8j {C : Ctx} {σ : x7} {H : j7} {args : Array Operand} {tys : Array TypeId} {f : FuncId} {G : Gl} {ags : List AV} (hG : G.p C.I0) {α : Type} {r0 : o7 α} {wd : Value} {x : α} {post : AV → List D6 → Prop} {K : AV → j7 → Prop} {b : Bool} {F : Bool × D6 → j7}
    (h:E4 G P f ags [.ob wd x] post) (hH:u4 H (b,.ob wd x) F) (hv:a19 C σ H args.toList ags)
    (hshape:∀ r Hs,post r Hs→∃ Bn,∃ x':α,Hs = [Bn,.ob wd x']) (k:∀ r Bn B',post r [Bn,B']→K r ((true,Bn)::F (b,B'))):A0 P C N ⟨d,.call ⟨.value (.func f),args,tys⟩,ty,ps,af,g⟩ σ H K:=fun ρ I L hs=>by
  obtain⟨vs,h1,h2⟩:=hv.get hs
  obtain⟨i,X,h3,h4,h5⟩:=hH.get hs.heap
  have hM:=h I [X] vs (G.mono hs.U6 hG) h2 ⟨X,[],rfl,h4.1,rfl⟩
  have hM2:a9U P f vs.toArray I [X] (fun v J L'=>∃ cn c' r Bn,∃ x':α,L' = [cn++c']∧E1 J r v∧Bn.a4e J cn∧(D6.ob wd x').a4e J c'∧post r [Bn,.ob wd x']):=⟨hM.ok,fun w hm=>(hM.run w hm).mono (by
    rintro e w' ⟨v,J,L',rfl,q1,q2,q3,q4,q5,r,Hs,q6,q7,q8⟩
    obtain⟨Bn,x',rfl⟩:=hshape r Hs q8
    obtain⟨cn,R,rfl,q9,c',R2,rfl,q10,q11⟩:=q7
    have q11':R2 = []:=q11
    subst q11'
    have e:([cn++c']:Lh).flatten=([cn,c']:Lh).flatten:=by simp
    exact⟨v,J,[cn++c'],rfl,q1,q2,q3,⟨q4.im,by rw [e];exact q4.loc,by rw [e];exact q4.sep,by rw [e];exact q4.nodup⟩,by rw [e];exact q5,cn,c',r,Bn,x',rfl,q6,q9,q10,q8⟩)⟩
  intro a w0 ha hst
  refine(OpS.b7H (K:=fun v J L'=>∃ cn c' r Bn,∃ x':α,L'=L.set i (cn++c')∧Le I J∧E1 J r v∧Bn.a4e J cn∧(D6.ob wd x').a4e J c'∧post r [Bn,.ob wd x']∧(∀ p∈cn++c',C.w0.heap.size≤p.1∨p.1∈X.map Prod.fst)) i h3 a8 h1 hM2 ?_ ?_ a w0 ha hst).mono ?_
  · rintro v J c2 w hle ⟨cn,c',r,Bn,x',e,q6,q9,q10,q8⟩ hnew hsz
    obtain rfl:c2=cn++c':=by simpa using e
    exact⟨cn,c',r,Bn,x',a8,hle,q6,q9,q10,q8,fun p hp=>(hnew p hp).imp (fun h=>Nat.le_trans hsz h) id⟩
  · rintro v J L' ⟨cn,c',r,Bn,x',e,_⟩
    exact⟨_,e⟩
  · rintro v w' ⟨J,L',hst',cn,c',r,Bn,x',rfl,hle,q6,q9,q10,q8,hnew⟩
    have hi:i < L.length:=(List.getElem?_eq_some_iff.1 h3).1
    obtain⟨s1,s2⟩:=Y6 L i X h3 (cn++c')
    obtain⟨_,s3⟩:=Y6 L i X h3 c'
    have hperm:(cn::L.set i c').flatten.Perm (L.set i (cn++c')).flatten:=by
      rw [s2,List.flatten_cons,s3,List.append_assoc cn c']
      have e1:cn++((List.take i L).flatten++(c'++(List.drop (i+1) L).flatten))=(cn++(List.take i L).flatten)++(c'++(List.drop (i+1) L).flatten):=by simp
      have e2:(List.take i L).flatten++(cn++(c'++(List.drop (i+1) L).flatten))=((List.take i L).flatten++cn)++(c'++(List.drop (i+1) L).flatten):=by simp
      rw [e1,e2]
      exact List.Perm.append_right _ List.perm_append_comm
    have hst2:=b3w hst' hperm
    obtain⟨bw,T,cs,e1,e2,_⟩:=q10
    obtain⟨bw2,T2,cs2,e3,e4,_⟩:=h4.1
    have ebw:bw2=bw:=by rw [e1] at e3;simpa [ptr] using e3.symm
    have hfresh:∀ p∈cn,C.w0.heap.size≤p.1:=fun p hp=>by
      rcases hnew p (List.mem_append_left _ hp) with h|h
      · exact h
      · exfalso
        rw [e4] at h
        simp only [List.map_cons,List.map_nil,List.mem_singleton] at h
        have hnd:=hst2.mem.nodup
        rw [List.flatten_cons,s3,List.map_append,List.nodup_append] at hnd
        refine hnd.2.2 p.1 (List.mem_map_of_mem hp) p.1 ?_ rfl
        rw [h,ebw,e2];simp
    refine⟨J,cn::L.set i c',hst2,hle,r,(true,Bn)::F (b,.ob wd x'),q6,⟨cn,L.set i c',rfl,⟨q9,fun _ p hp=>hfresh p hp⟩,h5 J (b,.ob wd x') c' hle ⟨⟨bw,T,cs,e1,e2,by assumption⟩,fun hb p hp => ?_⟩⟩,k r Bn _ q8⟩
    rw [e2] at hp
    simp only [List.mem_singleton] at hp
    subst hp
    have:=h4.2 hb (bw2,row cs2 T2) (by rw [e4];simp)
    rw [←ebw];exact this
theorem E4.b8k {G:Gl} {P:Program} {f:FuncId} {ags:List AV} {E:TypeId} {α:Type} [r:o7 α] {l:List α} {b:AV} (h:E4 G P f ags [] (fun r Hs=>∃ u,r = .t2 (.raw u) b∧Hs = [.own E u l])):p4 G P f ags (fun r=>r = .t2 (.v l) b):=fun I vs hG hvs=>by
 have hM:=h I [] vs hG hvs rfl
 refine⟨hM.ok,fun w hm=>(hM.run w hm).mono ?_⟩
 rintro e w' ⟨v,J,L',rfl,q1,q2,q3,q4,q5,r,Hs',q6,q7,u,rfl,rfl⟩
 obtain⟨X,R,rfl,q8,q9⟩:=q7
 have q9':R = []:=q9
 subst q9'
 obtain⟨x,y,rfl,q6',q6b⟩:=q6
 have q6'':x=u:=q6'
 subst q6''
 have hle:Le J (J.with X):=Im.a1G fun p hp=>q4.sep p (by simpa using hp)
 refine⟨_,J.with X,rfl,by simpa using q1,q2.trans hle,fun b h0 h1 => ?_,(q4.freeze (i:=0) (c:=X) rfl).drop,.t2 (.v l) b,⟨x,y,rfl,W2 q8 hle (fun p hp=>Im.a1N (by simpa using q4.nodup) hp),q6b.mono hle⟩,rfl⟩
 cases hj:J.with X b with
 | none=>exact absurd hj h1
 | some o =>
  rcases Im.a0b hj with h2|h2
  ·rcases q5 (b,o) (by simpa using h2) with h3|h3
   ·exact h3
   ·cases h3
  ·exact q3 b h0 (by simp [h2])
def AV.b8l (P:Program) {α β γ δ:Type} [o7 α] [o7 β] [o7 γ] [o7 δ] (g:α→β→γ×δ):AV := .clo P (fun x:α×β => [.v x.1,.v x.2]) (fun x => .t2 (.v (g x.1 x.2).1) (.v (g x.1 x.2).2))
section clo
variable {C:Ctx} {σ:x7} {H:j7} {G:Gl} {f:FuncId} {args:Array Operand} {tys:Array TypeId}
theorem j6.b6n {α β γ δ : Type} [o7 α] [o7 β] [o7 γ] [o7 δ] {g2 : α → β → γ × δ} {x : α} {y : β} {t : Nat} {a b : Operand} (ht : E9 σ t = some (.b8l P g2)) (ha : E6 C σ H a (.v x)) (hb : E6 C σ H b (.v y)) (k : K (.t2 (.v (g2 x y).1) (.v (g2 x y).2))) :
    j6 P N C ⟨d,.call ⟨.value (.tmp t),#[a,b],tys⟩,ty,ps,af,g⟩ σ H K := .b5d (ags:=fun x:α×β => [.v x.1,.v x.2]) (r:=fun x => .t2 (.v (g2 x.1 x.2).1) (.v (g2 x.1 x.2).2)) (x,y) ht (.cons ha (.cons hb .nil)) k
theorem j6.c0r (hG : G.p C.I0) {α β γ δ : Type} [o7 α] [o7 β] [o7 γ] [o7 δ] {g2 : α → β → γ × δ} {caps : List AV} (h : ∀ x y, p4 G P f (.v x :: .v y :: caps) (fun r => r = .t2 (.v (g2 x y).1) (.v (g2 x y).2))) (hv : a19 C σ H args.toList caps) (k : K (.b8l P g2)) :
    j6 P N C ⟨d,.makeFunc (.func f) #[] args,ty,ps,af,g⟩ σ H K := .c1m hG (ags:=fun x:α×β => [.v x.1,.v x.2]) (r:=fun x => .t2 (.v (g2 x.1 x.2).1) (.v (g2 x.1 x.2).2)) (fun i=>h i.1 i.2) hv k
end clo
theorem j6.c0s {α : Type} {r : o7 α} {n : Nat} {l : List α} {A E : TypeId} (hA : P.underlying A = some (.array n E)) (hn : 0 < n) (hz : 0 < o7.size α) (hx : E6 C σ H x (.v l)) (h : l.length = n) (k : K (.p (⟨l, h⟩ : I8 n α))) :
    j6 P N C ⟨d,.sliceToArrayPointer A x,ty,ps,af,g⟩ σ H K :=
  .vk k (fun ρ I L hs=>by
    obtain⟨u,hu,xs,hsl,hl⟩:=hx.sl hs
    obtain⟨a,c,rfl,hlen,h3,h4,h5,h6⟩:=hsl
    have hne:xs ≠ []:=by
      intro e
      have:=hl.len
      rw [e,h] at this
      have h7:0 < n*o7.size α:=Nat.mul_pos hn hz
      simp at this;omega
    obtain⟨b,o,rfl,hc⟩:=h6 hne
    refine .mk ⟨b,o,xs,a8,hl,hc⟩ fun ac w ha hm => ?_
    have hle:¬l.length < n:=by omega
    simp [execOp,ha.ev hu,Instr.arrayAt,run_underlying hA,h])
theorem j6.a6U {m : UInt64} {n : Int} (hx : E6 C σ H x (.v m)) (hy : E6 C σ H y (.v n)) (h0 : 0 ≤ n) (h1 : n < 64) (k : K (.v (m >>> UInt64.ofNat n.toNat))) :
    j6 P N C ⟨d,.binOp .shr T x y T2,ty,ps,af,g⟩ σ H K :=
  .vk k (fun ρ I L hs=>H7.a52 n.toNat (hx.a1j hs) (hy.int hs).1 (by omega) (by omega) ⟨_,rfl,rfl⟩)
end Go.Ab
namespace Go.Ab
open Go.Fl Go.RowKit Go.Shelf Go.Proofs
open o7 (rep)
end Go.Ab
namespace Go.Proofs.YtmmclghiidoldaaGreatDoor
open Go.Proofs.Tryz
open Go.Fl Go.Ab Go.Mac Go.Sha
theorem x4 (l:List Int):G1 (⟨l,0⟩:m5):=Int.le_refl 0
theorem a43 (w : Value) (d : m5) (lo hi : Int) (hd : G1 d) (h : lo ≤ hi) (h0 : -1000000000000000000 ≤ lo) (h1 : hi ≤ 1000000000000000000) :
    E4 gl prog 32 [dk w,.v lo,.v hi] [.ob w d] (fun r Hs=>∃ v:Int,∃ d',lo≤v∧v≤hi∧G1 d'∧r = .v v∧Hs = [.ob w d']):=by
  refine E4.P8 func32 rfl (by kernel_rfl) 15 rfl rfl _ rfl _ rfl fun C hC hG => ?_
  refine .q 10 hG ?_
  refine .sb (by omega) (by omega) ?_
  refine .ad (by omega) (by omega) ?_
  refine .km hG (F0 _ _ _ (by assumption) (by omega) (by omega)) .z (by rintro _ _ ⟨_,_,_,_,_,_,rfl⟩;exact⟨_,rfl⟩) fun r13 B13 hr13 => ?_
  obtain⟨v13,d13,h013,h113,hd13,rfl,hB⟩:=hr13
  cases hB
  refine .ad (by omega) (by omega) ?_
  refine .q 3 hG ?_
  refine .e1 a8 a8 ?_
  refine⟨_,.cons .z (.nil),?_⟩
  exact⟨_,_,by omega,by omega,by assumption,rfl,rfl⟩
theorem a9x (w:Value) (d:m5) (n:Int) (hd:G1 d) (h0:0≤n) (h1:n≤1000000):E4 gl prog 84 [dk w,.v n] [.ob w d] (fun r Hs=>∃ u,∃ l:List UInt8,(l.length:Int)≤n∧∃ d',G1 d'∧r = .raw u∧Hs = [.own 5 u l,.ob w d']):=by
 have hn0:=T6 (d:=d) (n:=n+1) (by omega)
 refine E4.P8 func84 rfl (by kernel_rfl) 22 rfl rfl _ rfl _ rfl fun C hC hG => ?_
 refine .q 6 hG ?_
 refine .p (.assign .raw ?_)
 refine .q 3 hG ?_
 refine .a0H 5 UInt8 ?_
 refine .q 3 hG ?_
 refine .ad (by omega) (by omega) ?_
 refine .km hG (a2z _ _ _ (by assumption) (by omega) (by omega)) .z1 (by rintro _ _ ⟨_,rfl⟩;exact⟨_,rfl⟩) fun r10 B10 hr10 => ?_
 obtain⟨rfl,hB⟩:=hr10
 cases hB
 refine .q 3 hG ?_
 refine .D8 (α:=Nat×Value×List UInt8×m5) [(0,_)] (fun x R=>(5,.raw x.2.1)::(6,.v (x.1:Int))::R) (fun x => [(true,.own 5 x.2.1 x.2.2.1),(false,.ob w x.2.2.2)]) (fun x=>(x.1:Int)+x.2.2.1.length≤n∧G1 x.2.2.2) (fun x=>x.1) (((O7 d (n+1)).1.toNat,.slice none 0 0,[],(O7 d (n+1)).2)) (.cons a8 (.nil _)) ?_ (.cons a8 (.cons (congrArg (fun q=>some (AV.v q)) (by dsimp only;omega)) (.cons a8 (.nil _)))) (a8) fun x hF => ?_
 ·exact⟨by dsimp only;simp;omega,O8 hd⟩
 obtain⟨k,v,b,e⟩:=x
 obtain⟨h2,h3⟩:=hF
 dsimp only at h2 h3 ⊢
 refine .q 7 hG ⟨fun hc12 => ?_,fun hc12 => ?_⟩
 ·refine .q 6 hG ?_
  refine .km hG (a2z _ _ _ (by assumption) (by omega) (by omega)) .z1 (by rintro _ _ ⟨_,rfl⟩;exact⟨_,rfl⟩) fun r17 B17 hr17 => ?_
  obtain⟨rfl,hB⟩:=hr17
  cases hB
  refine .q 1 hG ?_
  refine .bs a8 (by decide) fun b19 => ?_
  refine .ap (by simp<;>omega) (by simp<;>omega) fun w20 => ?_
  refine .q 1 hG ?_
  refine .drop ?_
  refine .q 3 hG ?_
  refine .sb (by omega) (by omega) ?_
  refine .q 2 hG ?_
  refine⟨(k - 1,w20,_,_),.cons rfl (.cons (congrArg (fun q=>some (AV.v q)) (by dsimp only;omega)) (.cons rfl (.nil _))),rfl,?_,by dsimp only;omega⟩
  exact⟨by dsimp only;simp;omega,O8 h3⟩
 ·refine .q 7 hG ?_
  refine .e1 a8 a8 ?_
  refine⟨_,.cons .z (.cons .z1 (.nil)),?_⟩
  exact⟨_,_,by omega,_,h3,rfl,rfl⟩
theorem b1Y (w:Value) (d:m5) (hd:G1 d):E4 gl prog 55 [dk w] [.ob w d] (fun r Hs=>∃ s:Y4,s.l.length≤16∧∃ d',G1 d'∧r = .v s∧Hs = [.ob w d']):=by
 have hn:=T6 (d:=d) (n:=8) (by decide)
 refine E4.jn func55 (by kernel_rfl) 8 rfl fun C hC hG => ?_
 refine .q 2 hG ?_
 refine .p (.assign (.s [] (by decide) (by decide)) ?_)
 refine .q 3 hG ?_
 refine .bs a8 (by decide) fun b3 => ?_
 refine .q 1 hG ?_
 refine .km hG (a2z _ _ _ hd (by omega) (by omega)) .z1 (by rintro _ _ ⟨_,rfl⟩;exact⟨_,rfl⟩) fun r5 B5 hr5 => ?_
 obtain⟨rfl,hB⟩:=hr5
 cases hB
 refine .p (.V2 ty9 underlying71 a8 .z (.t a8) (by omega) (by simp<;>omega) (.p (.b1B ty9 (.t a8) .z (by simp<;>omega) ?_)))
 refine .q 2 hG ?_
 refine .drop ?_
 refine .q 1 hG ?_
 refine .e1 a8 a8 ?_
 refine⟨_,?_,_,O8 hd,a8,a8⟩
 refine(show ∀ s∈_,(Y4.l s).length≤16 from ?_) _ (List.getElem_mem _)
 decide
theorem c2o (w:Value) (d:m5) (m:Int) (hd:G1 d) (h0:0≤m) (h1:m≤281474976710657):E4 gl prog 86 [dk w,.v m] [.ob w d] (fun r Hs=>∃ x:Int,0≤x∧x≤m∧∃ d',G1 d'∧r = .v x∧Hs = [.ob w d']):=by
 have hok1:=O8 (n:=4) hd
 have hn1:=T6 (d:=(O7 d 4).2) (n:=4) (by decide)
 have hn2:=T6 (d:=(O7 d 4).2) (n:=300) (by decide)
 have hn3:=T6 (d:=(O7 d 4).2) (n:=min 3 (m+1)) (by omega)
 have hn4:=T6 (d:=(O7 d 4).2) (n:=m+1) (by omega)
 refine E4.jn func86 (by kernel_rfl) 32 rfl fun C hC hG => ?_
 refine .q 8 hG ?_
 refine .km hG (a2z _ _ _ (by assumption) (by omega) (by omega)) .z (by rintro _ _ ⟨_,rfl⟩;exact⟨_,rfl⟩) fun r6 B6 hr6 => ?_
 obtain⟨rfl,hB⟩:=hr6
 cases hB
 refine .q 8 hG ⟨fun hc7 => ?_,fun hc7 => ?_⟩
 ·refine .q 3 hG ?_
  refine .km hG (a2z _ _ _ (by assumption) (by omega) (by omega)) .z (by rintro _ _ ⟨_,rfl⟩;exact⟨_,rfl⟩) fun r10 B10 hr10 => ?_
  obtain⟨rfl,hB⟩:=hr10
  cases hB
  refine .q 1 hG ?_
  refine .p (.a9V (.t a8) (.t a8) ?_)
  refine .q 3 hG ?_
  refine .e1 a8 a8 ?_
  refine⟨_,?_,?_,_,O8 hok1,a8,a8⟩<;>omega
 ·refine .q 6 hG ⟨fun hc13 => ?_,fun hc13 => ?_⟩
  ·refine .q 3 hG ?_
   refine .km hG (a2z _ _ _ (by assumption) (by omega) (by omega)) .z (by rintro _ _ ⟨_,rfl⟩;exact⟨_,rfl⟩) fun r16 B16 hr16 => ?_
   obtain⟨rfl,hB⟩:=hr16
   cases hB
   refine .q 1 hG ?_
   refine .p (.a9V (.t a8) (.t a8) ?_)
   refine .q 3 hG ?_
   refine .e1 a8 a8 ?_
   refine⟨_,?_,?_,_,O8 hok1,a8,a8⟩<;>omega
  ·refine .q 6 hG ⟨fun hc19 => ?_,fun hc19 => ?_⟩
   ·refine .q 5 hG ?_
    refine .ad (by omega) (by omega) (.p (.a9V (.i a8) (.t a8) ?_))
    refine .km hG (a2z _ _ _ (by assumption) (by omega) (by omega)) .z (by rintro _ _ ⟨_,rfl⟩;exact⟨_,rfl⟩) fun r26 B26 hr26 => ?_
    obtain⟨rfl,hB⟩:=hr26
    cases hB
    refine .sb (by omega) (by omega) ?_
    refine .q 3 hG ?_
    refine .e1 a8 a8 ?_
    refine⟨_,?_,?_,_,O8 hok1,a8,a8⟩<;>omega
   ·refine .q 5 hG ?_
    refine .ad (by omega) (by omega) ?_
    refine .km hG (a2z _ _ _ (by assumption) (by omega) (by omega)) .z (by rintro _ _ ⟨_,rfl⟩;exact⟨_,rfl⟩) fun r31 B31 hr31 => ?_
    obtain⟨rfl,hB⟩:=hr31
    cases hB
    refine .q 3 hG ?_
    refine .e1 a8 a8 ?_
    refine⟨_,?_,?_,_,O8 hok1,a8,a8⟩<;>omega
theorem b1Z (n:Int) (hn0:0≤n) (hn1:n≤281474976710656):E4 gl prog 214 [.v n] [] (fun r Hs=>∃ u,r = .raw u∧Hs = [.own 5 u (R9 (UInt64.ofInt n) 8)]):=by
 refine E4.a5B func214 rfl (by kernel_rfl) 17 rfl rfl _ rfl _ rfl fun C hC hG => ?_
 refine .q 2 hG ?_
 refine .p (.assign .raw ?_)
 refine .q 3 hG ?_
 refine .p (.assign .raw ?_)
 refine .q 3 hG ?_
 refine .a0H 5 UInt8 ?_
 refine .q 4 hG ?_
 refine .D8 (α:=Nat×Value) [(0,_)] (fun x R=>(3,.raw x.2)::(4,.v (56 - 8*(x.1:Int)))::R) (fun x => [(true,.own 5 x.2 (R9 (UInt64.ofInt n) x.1))]) (fun x=>x.1≤8) (fun x=>8 - x.1) ((0,.slice none 0 0)) (.cons a8 (.nil _)) ?_ (.c2 a8 a8 (.cons a8 (.nil _))) (a8) fun x hF => ?_
 ·simp
 obtain⟨j,w⟩:=x
 dsimp only at hF ⊢
 refine .q 7 hG ⟨fun hc6 => ?_,fun hc6 => ?_⟩
 ·refine .q 3 hG ?_
  have hbe:=D9 (UInt64.ofInt n) j
  refine .q 4 hG ?_
  refine .p (.c4u (.t a8) (.t a8) (by omega) (by omega) ?_)
  refine .q 1 hG ?_
  refine .bs a8 (by decide) fun b14 => ?_
  refine .ap (by simp<;>omega) (by simp<;>omega) fun w15 => ?_
  refine .q 1 hG ?_
  refine .drop ?_
  refine .q 3 hG ?_
  refine .sb (by omega) (by omega) ?_
  refine .q 2 hG ?_
  refine⟨(j+1,w15),.cons rfl (.cons (congrArg (fun q=>some (AV.v q)) (by dsimp only;omega)) (.cons rfl (.nil _))),congrArg (fun q => [(true,D6.own _ _ q)]) (by dsimp only;rw [a1s,←b6j n hn0 (by omega) _ (by omega),show(56 - 8*(j:Int)).toNat=56 - 8*j by omega]),?_,by dsimp only;omega⟩
  dsimp only;omega
 ·refine .q 7 hG ?_
  refine .e1 a8 a8 ?_
  obtain rfl:j=8:=by omega
  exact⟨0,_,a8,a8⟩
theorem b3K (key:Tag) (b:List UInt8) (hb:b.length≤900000):p4 gl prog 163 [.v key,.v b] (fun r=>r = .v (a0e key.l (a3f.l++b))):=by
 refine p4.jn func163 (by kernel_rfl) 11 rfl fun C hC hG => ?_
 refine .q 3 hG fun b2 => ?_
 refine .q 1 hG fun b4 => ?_
 refine .q 2 hG ?_
 refine .y6 hC .z1 (.L6 2 a8 .z1 (.a7h (by kernel_rfl) 6 [[],[],[(6,1)],[],[(7,2),(8,3)],[(5,0),(9,4)]] [1,2,4,5] a8 (by kernel_rfl) a8 (by kernel_rfl) (by decide) ?_))
 refine⟨_,fun H=>j6.O6 (by decide) M6 (.t a8) a8,?_⟩
 refine .inl (.inl ?_)
 refine⟨_,fun H=>j6.move (.t a8) a8,?_⟩
 refine .inl (.inl ?_)
 refine A0.buildSlice (α:=UInt8) ty5 underlying86 (.cons (.u8 98 rfl) (.cons (.u8 111 rfl) (.cons (.u8 120 rfl) .nil))) rfl (by decide) fun b6 => ?_
 refine A0.same underlying86 underlying5 rfl .z (by simp) ?_
 refine A0.append P3 (.inl ⟨_,underlying86⟩) rfl .z (.v (.t rfl)) (by simp<;>omega) (by simp<;>omega) (fun w9 => ?_) rfl
 refine A0.u0 hC .z (A0.as 9 rfl .z (A0.ofP (j6.o8 hG (a8z _ _ (by simp) (by simp<;>omega)) (.cons (.t rfl) (.cons (.t rfl) .nil)) ?_)))
 show D0 _ _ _ _ _ [_] ((10,_)::(9,_)::(8,_)::(7,_)::(6,_)::(5,_)::_) _
 refine .q 3 hG ?_
 refine⟨_,.r1 a8 (.cell A5 a8 .z1),?_⟩
 rfl
theorem b3L (b:List UInt8) (hb:b.length≤1000000):E4 gl prog 162 [.v b] [] (fun r Hs=>∃ u,r = .raw u∧Hs = [.own 5 u b]):=by
 refine E4.P8 func162 rfl (by kernel_rfl) 8 rfl rfl _ rfl _ rfl fun C hC hG => ?_
 refine .q 2 hG ?_
 refine .p (.assign .raw ?_)
 refine .q 5 hG ?_
 refine .p (.b3v underlying86 (.t a8) fun c4 hn4 => ?_)
 refine .q 1 hG ?_
 refine .cond (.t a8) (fun hc4 => ?_) (fun hc4 => ?_)
 ·refine .q 2 hG ?_
  refine .p (.assign .raw ?_)
  refine .q 1 hG ?_
  refine .a0H 5 UInt8 ?_
  refine .q 1 hG ?_
  refine .e1 a8 a8 ?_
  refine⟨_,.cons .z (.nil),?_⟩
  rw [hn4 hc4];exact⟨_,rfl,rfl⟩
 ·refine .q 3 hG ?_
  refine .h (.buildSlice (α:=UInt8) ty5 underlying86 .nil a8 (by decide) fun b5 => ?_)
  refine .q 1 hG ?_
  refine .ap (by simp<;>omega) (by simp<;>omega) fun w7 => ?_
  refine .q 3 hG ?_
  refine .e1 a8 a8 ?_
  refine⟨_,.cons .z (.nil),?_⟩
  rw [List.nil_append];exact⟨w7,rfl,rfl⟩
def a2b (f:Nat→UInt8) (b:List UInt8) (k:Nat):List UInt8:=(b.take k).mapIdx (fun i c=>c ^^^ f i)++b.drop k
theorem a4G (f:Nat→UInt8) (b:List UInt8) (k:Nat):(a2b f b k).length=b.length:=by simp [a2b];omega
theorem b0E (f:Nat→UInt8) (b:List UInt8) {k:Nat} (h:b.length≤k):a2b f b k=a2b f b b.length:=by simp [a2b,List.take_of_length_le h,List.drop_of_length_le h]
theorem b8m (f:Nat→UInt8) (b:List UInt8) (k:Nat) (hk:k < b.length) (h:k < (a2b f b k).length):(a2b f b k)[k]=b[k]:=by
 simp only [a2b]
 rw [List.getElem_append_right (by simp;omega)]
 simp
 congr 1;omega
theorem b6o (f:Nat→UInt8) (b:List UInt8) (k:Nat) (hk:k < b.length):(a2b f b k).set k (b[k] ^^^ f k)=a2b f b (k+1):=by
 apply List.ext_getElem (by simp [a4G])
 intro j h1 h2
 rw [List.getElem_set]
 simp only [a2b]
 by_cases e:k=j
 ·subst e
  rw [if_pos rfl,List.getElem_append_left (by simp;omega)]
  simp
 ·rw [if_neg e]
  rcases Nat.lt_or_ge j k with h|h
  ·rw [List.getElem_append_left (by simp;omega),List.getElem_append_left (by simp;omega)]
   simp
  ·rw [List.getElem_append_right (by simp;omega),List.getElem_append_right (by simp;omega)]
   simp
   congr 1;omega
theorem b6p (f:Nat→UInt8) (b:List UInt8) (k x:Nat) (h:x=32∨(b.length≤32*k+x∧x≤32)):a2b f b (32*k+x)=a2b f b (32*(k+1)):=by
 rcases h with rfl|⟨h,h2⟩
 ·rfl
 ·rw [b0E _ _ h,b0E _ _ (show b.length≤32*(k+1) by omega)]
def a2c (key:Tag) (nb:List UInt8) (k:Nat):Tag:=a0e key.l (a42.l++nb++R9 (UInt64.ofInt (k:Int)) 8)
def a3B (key:Tag) (nb:List UInt8) (i:Nat):UInt8:=(a2c key nb (i/32)).l.getD (i % 32) 0
theorem b8n (key : Tag) (nb b : List UInt8) (k x : Nat) (hx : x < 32) (hk : 32 * k + x < b.length) (h1 : ((k : Int) * 32 + (x : Int)).toNat < (a2b (a3B key nb) b (32 * k + x)).length) (h2 : ((k : Int) * 32 + (x : Int) - (k : Int) * 32).toNat < 32) :
    (a2b (a3B key nb) b (32*k+x)).set ((k:Int)*32+(x:Int)).toNat ((a2b (a3B key nb) b (32*k+x))[((k:Int)*32+(x:Int)).toNat] ^^^ (j9.idx ((k:Int)*32+(x:Int) - (k:Int)*32).toNat h2).get (a2c key nb k))=a2b (a3B key nb) b (32*k+(x+1)):=by
  have e0:((k:Int)*32+(x:Int)).toNat=32*k+x:=by omega
  have e4:((k:Int)*32+(x:Int) - (k:Int)*32).toNat=x:=by omega
  rw [show 32*k+(x+1)=32*k+x+1 by omega,←b6o _ b _ hk]
  have e3:(j9.idx ((k:Int)*32+(x:Int) - (k:Int)*32).toNat h2).get (a2c key nb k)=a3B key nb (32*k+x):=by
    show(a2c key nb k).l[((k:Int)*32+(x:Int) - (k:Int)*32).toNat]'_=_
    unfold a3B
    have h5:(32*k+x)/32=k:=by omega
    have h6:(32*k+x) % 32=x:=by omega
    have h4:x < (a2c key nb k).l.length:=by rw [I8.len];omega
    simp only [e4,h5,h6]
    rw [List.getD_eq_getElem?_getD,List.getElem?_eq_getElem h4];rfl
  simp only [e3,e0]
  rw [b8m (a3B key nb) b _ hk]
theorem b2a (key:Tag) (nb:List UInt8):p4 gl prog 202 [.v key,.v nb] (fun r=>r = .cap 213 [.p nb,.p key]):=by
 refine p4.jn func202 (by kernel_rfl) 6 rfl fun C hC hG => ?_
 refine .q 3 hG fun b2 => ?_
 refine .q 1 hG fun b3 => ?_
 refine .p (.assign .raw ?_)
 refine .q 2 hG ?_
 refine .y6 hC .z (.L6 3 a8 .z (.y6 hC .z1 (.L6 2 a8 .z1 ?_)))
 refine .q 1 hG ?_
 refine .p (.c3t (.cons (.t a8) (.cons (.t a8) .nil)) ?_)
 refine .q 3 hG ?_
 refine .e1 a8 a8 ?_
 rfl
theorem b3M (key:Tag) (nb:List UInt8) (hn:nb.length≤900000) (bound:Nat) (hb:bound≤1000000):c1r gl prog 213 [.p nb,.p key] (fun k => [.v ((k:Int)*32),.v (a2c key nb k)]) bound:=by
 refine⟨⟨_,func213,by kernel_rfl,rfl⟩,fun I0 l it hy => ?_⟩
 refine E4.P8 func213 rfl (by kernel_rfl) 23 rfl rfl _ rfl _ rfl fun C hC hG' => ?_
 obtain⟨hG,hI⟩:=hG'
 refine .q 5 hG ?_
 refine .D8 (α:=Nat) [(0,_),(1,_),(2,_)] (fun k R=>(4,.v (k:Int))::R) (fun k => [(false,itB it (some k))]) (fun k=>k≤bound) (fun k=>bound - k) (0) (.c2 a8 a8 (.cons a8 (.nil _))) ?_ (.c2 a8 a8 (.c2 a8 a8 (.nil _))) (a8) fun k hF => ?_
 ·simp
 refine .q 3 hG ?_
 have hb2:=D9 (UInt64.ofInt (k:Int)) 8
 refine .q 1 hG ?_
 refine .bs a8 (by decide) fun b8 => .h (.same underlying86 underlying5 a8 .z (by simp) ?_)
 refine .q 1 hG ?_
 refine .ap (by simp<;>omega) (by simp<;>omega) fun w11 => ?_
 refine .q 1 hG ?_
 refine .k0 hG (b1Z _ (by omega) (by omega)) fun r13 Hs13 hr13 => ?_
 obtain⟨u13,rfl,rfl⟩:=hr13
 show D0 _ _ _ _ _ _ _ ((true,_)::_)
 refine .h (.append P3 (.inl ⟨_,underlying86⟩) a8 .z1 (.own a8 .z) (by simp<;>omega) (by simp<;>omega) (fun w14 => .ag a8 ?_) a8)
 refine .q 2 hG ?_
 refine .u0 hC .z1 (.as 5 a8 .z1 ?_)
 refine .q 3 hG ?_
 refine .p (.mul (.t a8) (.i a8) (by omega) (by omega) (.p (.O6 (by decide) M6 (.t a8) ?_)))
 refine .q 1 hG ?_
 refine .p (.o8 hG (a8z _ _ (by simp) (by simp<;>omega)) (.cons (.t a8) (.cons (.t a8) .nil)) (.h (.b3z hI (hy k hF) a8 .z2 (.cons (.t a8) (.cons (.t a8) .nil)) fun r21 B21 hr21 => ?_)))
 obtain⟨c21,rfl,rfl,hk21⟩:=hr21
 refine .q 1 hG ?_
 refine .drop (.drop ?_)
 refine .q 1 hG ?_
 refine .cond (.t a8) (fun hc22 => ?_) (fun hc22 => ?_)
 ·refine .q 1 hG ?_
  refine⟨_,.r0 a8,?_⟩
  refine⟨_,.cons .z (.nil),?_⟩
  have e:c21=false:=by simpa using hc22
  subst e
  rfl
 ·refine .q 3 hG ?_
  refine .ad (by omega) (by omega) ?_
  refine .q 2 hG ?_
  refine⟨k+1,.c2 rfl rfl (.c2 rfl rfl (.nil _)),congrArg (fun q => [(false,itB it q)]) (by rw [show c21=true by simpa using hc22];rfl),?_,by have:=hk21 (by simpa using hc22);omega⟩
  exact hk21 (by simpa using hc22)
theorem a9y:G2 prog 86 V3 := .ok (by kernel_rfl)
theorem c0t (key:Tag) (nb b:List UInt8) (hn:nb.length≤900000) (hb:b.length≤1000000):E4 gl prog 165 [.v key,.v nb,.v b] [] (fun r Hs=>∃ u,r = .raw u∧Hs = [.own 5 u (a2b (a3B key nb) b b.length)]):=by
 refine E4.c0g func165 rfl (by kernel_rfl) 47 rfl rfl _ rfl _ rfl fun C hC hrd hG=>(.c2d (.region rfl (.h (.box (.t rfl) fun b3 => .p (.assign (.b3q (α:=UInt8)) (.nil (.c2d (.y6 hC .z (.L6 3 rfl .z (.region rfl (.p (.move (.t rfl) (.h (.a6a hG (b3L _ (by omega)) (.cons (.t rfl) .nil) fun r12 Hs12 hr12 => ?_))))))))))))))
 obtain⟨u12,rfl,rfl⟩:=hr12
 show D0 _ _ _ _ _ _ _ ((true,_)::_)
 refine .h (.alloc a9y fun b7 => .n (.R6 a9y (.t a8) (.b3C a8 (.s .z)) .z (.nil (.c4F (.c2d (.region a8 (.p (.G6 A5 (.t a8) (.p (.move (.t a8) (.p (.o8 hG (b2a _ _) (.cons (.t a8) (.cons (.t a8) .nil)) (.nil (.block (.range (vs:=fun k => [.v ((k:Int)*32),.v (a2c key nb k)]) (bound:=(b.length+31)/32) (fun k => [.ob (ptr b7 0) (V3.mk u12),.own 5 u12 (a2b (a3B key nb) b (32*k))]) [.ob (ptr b7 0) (V3.mk u12),.own 5 u12 (a2b (a3B key nb) b b.length)] 0 hrd hG a8 (b3M key nb hn _ (by omega)) (by decide) (fun _=>a8) (.cons .z (.cons (.s .z) .nil)) a8 (fun k hk C hC hG => ?_) ?_)))))))))))))))
 ·show J0 _ _ _ _ _ ((17,_)::(16,_)::_) [(false,_),(false,_),(false,.none_)]
  have hl5:=a4G (a3B key nb) b (32*k)
  refine .seq (.region a8 (.p (.assign (.t a8) (.nil (.region a8 (.h (.alloc A5 fun b9 => .n (.R6 A5 (.t a8) (.t a8) .z (.nil ?_)))))))))
  refine⟨a8,fun C hC hG => ?_⟩
  show J0 _ _ _ _ _ _ [(false,_),(false,_),(false,_),(false,.none_)]
  refine .block (.seq (.seq (.region a8 (.p (.move (.t a8) (.p (.ldR (fun x=>x) a9y (.t a8) (.s .z) (fun _=>a8) (.p (.a4v underlying86 a8 (.s (.s .z)) (.p (.geq (.t a8) (.t a8) (.nil (.K8 (.t a8) (fun hc21 => ?_) (fun hc21 => ?_))))))))))))))
  ·refine .exit ?_
   have e:=b0E (a3B key nb) b (k:=32*k) (by omega)
   rw [e]
   refine .inr ⟨a8,?_⟩
   exact(.cons (.s .z) (.cons (.s (.s .z)) .nil))
  ·refine .skip (.seq (.region a8 (.p (.move (.t a8) (.p (.assign (.t a8) (.nil (.block (.D8 (α:=Nat) [(7,_),(8,_),(9,_)] (fun x R=>(10,.v ((k:Int)*32+(x:Int)))::R) (fun x => [(false,.ob (ptr b9 0) (a2c key nb k)),(false,.ob (ptr b7 0) (V3.mk u12)),(false,.own 5 u12 (a2b (a3B key nb) b (32*k+x))),(false,.none_)]) (fun x=>x≤32∧32*k+x≤b.length) (fun x=>b.length - (32*k+x)) (0) (.cons a8 (.cons a8 (.cons a8 (.nil _)))) ?_ (.cons a8 (.cons a8 (.cons a8 (.cons a8 (.nil _))))) (a8) fun x hF => ?_)))))))))
   ·exact⟨by omega,by omega⟩
   obtain⟨hx1,hx2⟩:=hF
   have hl7:=a4G (a3B key nb) b (32*k+x)
   refine .seq (.seq (.region a8 (.p (.move (.t a8) (.p (.ldR (fun x=>x) a9y (.t a8) (.s .z) (fun _=>a8) (.p (.a4v underlying86 a8 (.s (.s .z)) (.p (.lss (.t a8) (.t a8) (.p (.move (.t a8) (.go 27 a8 (.t a8) (fun hg28 => .move (.t a8) a8) (.go 27 a8 (.t a8) (fun hg29 => .move (.t a8) a8) (.go 27 a8 (.t a8) (fun hg30 => .add (.o a8 (beq_iff_eq.2 hg30)) (.i a8) (by first|omega|(simp;omega)|(have:=hg30;simp at this;omega)) (by first|omega|(simp;omega)|(have:=hg30;simp at this;omega)) a8) (.go 27 a8 (.t a8) (fun hg31 => .lss (.o a8 (beq_iff_eq.2 hg31)) (.o a8 (beq_iff_eq.2 hg31)) a8) (.p (.T5 (.t a8) (fun hp=>(.o a8 (beq_iff_eq.2 hp))) (.nil (.cond (.t a8) (fun hc32 => ?_) (fun hc32 => ?_)))))))))))))))))))))
   ·refine .skip (.seq (.block (.draw (by kernel_rfl) 11 [[],[],[(35,0),(36,1)],[(37,2)],[],[],[(39,4),(40,5)],[(41,6)],[(42,7)],[(38,3),(43,8)],[(35,0),(36,1)]] a8 (by kernel_rfl) a8 ?_)))
    refine⟨_,j6.ldR (fun x=>x) a9y (.t a8) (.s .z) (fun _=>a8) a8,?_⟩
    refine⟨_,j6.move (.t a8) a8,?_⟩
    refine⟨_,j6.V2 ty5 underlying86 a8 (.s (.s .z)) (.t a8) (by omega) (by simp at * <;> omega) a8,?_⟩
    refine⟨_,j6.b1B ty5 (.t a8) (.s (.s .z)) (by simp at * <;> omega) a8,?_⟩
    refine⟨_,j6.move (.t a8) a8,?_⟩
    refine⟨_,j6.move (.t a8) a8,?_⟩
    refine⟨_,j6.sub (.t a8) (.t a8) (by omega) (by omega) a8,?_⟩
    refine⟨_,j6.c16 M6 (.t a8) (.t a8) (by omega) (by simp at * <;> omega) a8,?_⟩
    refine⟨_,j6.ldL ty5 (.t a8) .z a8,?_⟩
    refine⟨_,j6.b5L (.t a8) (.t a8) a8,?_⟩
    refine⟨_,j6.V2 ty5 underlying86 a8 (.s (.s .z)) (.t a8) (by omega) (by simp at * <;> omega) a8,?_⟩
    show D0 _ _ _ _ _ _ ((45,_)::(44,_)::(43,_)::(42,_)::(41,_)::(40,_)::(39,_)::(38,_)::(37,_)::(36,_)::(35,_)::_) _
    refine .n (.b0m ty5 (.t a8) (.t a8) (.s (.s .z)) (by simp at * <;> omega) ?_)
    refine .nil (.region a8 (.p (.move (.t a8) (.p (.add (.t a8) (.i a8) (by omega) (by omega) (.p (.assign (.t a8) (.nil ?_))))))))
    refine⟨x+1,.cons rfl (.cons rfl (.cons rfl (.cons rfl (.nil _)))),congrArg (fun q => [_,_,(false,D6.own _ _ q),_]) (b8n key nb b k x (by simp at hc32;omega) (by simp at hc32;omega) _ _),?_,by simp at hc32;omega⟩
    simp at hc32;exact⟨by omega,by omega⟩
   ·refine .exit ?_
    have e:=b6p (a3B key nb) b k x (by simp at hc32;omega)
    rw [e]
    refine .inl ⟨rfl,by omega,?_⟩
    exact(.cons (.s .z) (.cons (.s (.s .z)) .nil))
 ·show wpF _ _ _ _ _ _ [(true,_),(true,_),(false,.none_)]
  refine .seq (.region a8 (.p (.ldR (fun x=>x) a9y (.t a8) .z (fun _=>a8) (.p (.assign (.t a8) (.nil (.ret ?_)))))))
  refine⟨_,.r1 a8 (.tmp a8),?_⟩
  refine⟨_,.cons (.s .z) (.nil),?_⟩
  exact⟨u12,a8,a8⟩
theorem b3N (k:Tag) (F9:UInt64) (i:Nat):a3B k (R9 F9 8) i=Z5 k F9 i:=by
 unfold a3B Z5 a2c a6k
 have e:UInt64.ofInt ((i/32:Nat):Int)=UInt64.ofNat (i/32):=by
  apply UInt64.toNat_inj.1
  simp [UInt64.ofInt];omega
 rw [List.append_assoc,e]
theorem a7l (k:Tag) (F9:UInt64) (p:List UInt8) (m:Nat):a2b (a3B k (R9 F9 8)) p m=K6 k F9 p m:=by
 unfold a2b K6
 rw [show a3B k (R9 F9 8)=Z5 k F9 from funext fun i=>b3N k F9 i]
theorem a2C (k:Tag) (n:Int) (p:List UInt8):(Y1 k n p).length=p.length+40:=by
 simp [Y1,V5,D9,O9,(a0e k.l _).len];omega
def J6 (n:Nat):List UInt8:=if n < 128 then [UInt8.ofNat n] else UInt8.ofNat (n % 128+128)::J6 (n/128)
termination_by n
theorem a2d {n:Nat} (h:n < 128):J6 n = [UInt8.ofNat n]:=by rw [J6,if_pos h]
theorem a3X {n:Nat} (h:¬n < 128):J6 n=UInt8.ofNat (n % 128+128)::J6 (n/128):=by rw [J6,if_neg h]
theorem a4H (k n:Nat) (h:n < 128^(k+1)):(J6 n).length≤k+1:=by
 induction k generalizing n with
 | zero=>rw [a2d (by simpa using h)];simp
 | succ k ih =>
  by_cases h1:n < 128
  ·rw [a2d h1];simp
  ·rw [a3X h1,List.length_cons]
   have:=ih (n/128) (by rw [Nat.pow_succ] at h;omega)
   omega
theorem B1 {n:Nat} (h:n≤281474976710656):(J6 n).length≤7:=a4H 6 n (by omega)
theorem b8o (n:Nat):0 < (J6 n).length:=by
 rw [J6];split<;>simp
theorem b8p (n:Nat):n &&& 127=n % 128:=Nat.and_two_pow_sub_one_eq_mod n 7
theorem c3F {n:Nat} (h:n < 128):n ||| 128=n+128:=by
 have:=Nat.two_pow_add_eq_or_of_lt (i:=7) (b:=n) (by simpa using h) 1
 rw [Nat.or_comm];simpa [Nat.add_comm] using this.symm
theorem a3Y (n:Nat):UInt8.ofInt (n:Int)=UInt8.ofNat n:=by apply UInt8.toNat_inj.1;simp [UInt8.ofInt];omega
def b3O (n:Int):Bool:=decide (n < 0)||decide (281474976710656 < n)
theorem b0F {n:Int} (h0:0≤n) (h1:n≤281474976710656):b3O n=false:=by unfold b3O;simp;omega
theorem a2U (n:Int) (h0:0≤n) (h1:n≤281474976710656):E4 gl prog 131 [.v n] [] (fun r Hs=>∃ u,r = .raw u∧Hs = [.own 5 u (J6 n.toNat)]):=by
 have hlen:=B1 (n:=n.toNat) (by omega)
 refine E4.a5B func131 rfl (by kernel_rfl) 20 rfl rfl _ rfl _ rfl fun C hC hG => ?_
 refine .q 2 hG ?_
 refine .p (.assign .raw ?_)
 refine .q 3 hG ?_
 refine .p (.assign .raw (.a0H 5 UInt8 ?_))
 refine .q 3 hG ?_
 refine .D8 (α:=Nat×Value×List UInt8) [] (fun x R=>(0,.v (x.1:Int))::(3,.raw x.2.1)::R) (fun x => [(true,.own 5 x.2.1 x.2.2)]) (fun x=>x.2.2++J6 x.1=J6 n.toNat) (fun x=>x.1) ((n.toNat,.slice none 0 0,[])) (.nil _) ?_ (.cons (congrArg (fun q=>some (AV.v q)) (by dsimp only;omega)) (.cons a8 (.nil _))) (a8) fun x hF => ?_
 ·rfl
 obtain⟨k,w,l⟩:=x
 dsimp only at hF ⊢
 have hl9:=congrArg List.length hF
 rw [List.length_append] at hl9
 refine .q 7 hG ⟨fun hc5 => ?_,fun hc5 => ?_⟩
 ·refine .q 6 hG ?_
  refine .p (.rem (.t a8) (.i a8) (by omega) (by omega) ?_)
  refine .ad (by omega) (by omega) ?_
  refine .q 1 hG ?_
  refine .bs a8 (by decide) fun b11 => ?_
  refine .ap (by simp<;>omega) (by simp<;>omega) fun w12 => ?_
  refine .q 1 hG ?_
  refine .drop ?_
  refine .q 3 hG ?_
  refine .p (.quo (.t a8) (.i a8) (by omega) (by omega) ?_)
  refine .q 2 hG ?_
  refine⟨(k/128,w12,_),.cons (congrArg (fun q=>some (AV.v q)) (by dsimp only;omega)) (.cons rfl (.nil _)),rfl,?_,by dsimp only;omega⟩
  dsimp only;rw [←hF,a3X (n:=k) (by omega),List.append_assoc,show((k:Int) % 128+128)=((k % 128+128:Nat):Int) by omega,a3Y];rfl
 ·refine .q 6 hG ?_
  refine .bs a8 (by decide) fun b18 => ?_
  refine .ap (by simp<;>omega) (by simp<;>omega) fun w19 => ?_
  refine .q 3 hG ?_
  refine .e1 a8 a8 ?_
  exact⟨1,_,rfl,by rw [←hF,a2d (n:=k) (by omega),←a3Y];rfl⟩
theorem F3 (n:Int) (h0:0≤n) (h1:n≤281474976710656):p4 gl prog 131 [.v n] (fun r=>r = .v (J6 n.toNat)):=(a2U n h0 h1).b0q
theorem a8C (b:List UInt8) (hb:b.length≤1000000):E4 gl prog 193 [.v b] [] (fun r Hs=>∃ u,r = .raw u∧Hs = [.own 5 u b]):=by
 refine E4.P8 func193 rfl (by kernel_rfl) 8 rfl rfl _ rfl _ rfl fun C hC hG => ?_
 refine .q 2 hG ?_
 refine .p (.assign .raw ?_)
 refine .q 5 hG ?_
 refine .p (.b3v underlying86 (.t a8) fun c4 hn4 => ?_)
 refine .q 1 hG ?_
 refine .cond (.t a8) (fun hc4 => ?_) (fun hc4 => ?_)
 ·refine .q 2 hG ?_
  refine .p (.assign .raw ?_)
  refine .q 1 hG ?_
  refine .a0H 5 UInt8 ?_
  refine .q 1 hG ?_
  refine .e1 a8 a8 ?_
  refine⟨_,.cons .z (.nil),?_⟩
  rw [hn4 hc4];exact⟨_,rfl,rfl⟩
 ·refine .q 3 hG ?_
  refine .h (.buildSlice (α:=UInt8) ty5 underlying86 .nil a8 (by decide) fun b5 => ?_)
  refine .q 1 hG ?_
  refine .ap (by simp<;>omega) (by simp<;>omega) fun w7 => ?_
  refine .q 3 hG ?_
  refine .e1 a8 a8 ?_
  refine⟨_,.cons .z (.nil),?_⟩
  rw [List.nil_append];exact⟨w7,rfl,rfl⟩
theorem c4T (k:Nat):((k:Int) >>> (7:Nat))=((k/128:Nat):Int):=by rw [Int.shiftRight_eq_div_pow];rfl
theorem a1x (b:List UInt8) (n:Int) (hb:b.length≤900000) (h0:0≤n) (h1:n≤281474976710656):E4 gl prog 158 [.v b,.v n] [] (fun r Hs=>∃ u,r = .t2 (.raw u) (.v (0:Int))∧Hs = [.own 5 u (b++J6 n.toNat)]):=by
 have hlen:=B1 (n:=n.toNat) (by omega)
 refine E4.a5B func158 rfl (by kernel_rfl) 31 rfl rfl _ rfl _ rfl fun C hC hG => ?_
 refine .q 2 hG ?_
 refine .p (.assign .raw ?_)
 refine .q 12 hG ?_
 refine .cond (.t a8) (fun hc12=>(by exfalso;have hbad:=b0F h0 h1;unfold b3O at hbad;rw [hbad] at hc12;cases hc12)) (fun hc12 => ?_)
 refine .q 4 hG ?_
 refine .k0 hG (a8C _ (by omega)) fun r14 Hs14 hr14 => ?_
 obtain⟨u14,rfl,rfl⟩:=hr14
 show D0 _ _ _ _ _ _ _ ((true,_)::_)
 refine .q 4 hG ?_
 refine .D8 (α:=Nat×Value×List UInt8) [] (fun x R=>(1,.v (x.1:Int))::(6,.raw x.2.1)::R) (fun x => [(true,.own 5 x.2.1 x.2.2)]) (fun x=>x.2.2++J6 x.1=b++J6 n.toNat) (fun x=>x.1) ((n.toNat,u14,b)) (.nil _) ?_ (.cons (congrArg (fun q=>some (AV.v q)) (by dsimp only;omega)) (.cons a8 (.nil _))) (a8) fun x hF => ?_
 ·rfl
 obtain⟨k,w,l⟩:=x
 dsimp only at hF ⊢
 have hl9:=congrArg List.length hF
 rw [List.length_append,List.length_append] at hl9
 have hk9:=b8o k
 refine .q 7 hG ⟨fun hc16 => ?_,fun hc16 => ?_⟩
 ·refine .q 3 hG ?_
  have hb6:=b8p k;have hc6:k % 128 < 128:=Nat.mod_lt _ (by decide)
  refine .q 3 hG ?_
  refine .p (.c4S (.t a8) (.i a8) (by omega) (by omega) (.p (.orI (.t a8) (.i a8) (by omega) (by omega) ?_)))
  refine .q 1 hG ?_
  refine .bs a8 (by decide) fun b24 => ?_
  refine .ap (by simp<;>omega) (by simp<;>omega) fun w25 => ?_
  refine .q 1 hG ?_
  refine .drop ?_
  refine .q 3 hG ?_
  refine .p (.c3E (.t a8) (.u64 7 a8) (by decide) ?_)
  refine .q 2 hG ?_
  refine⟨(k/128,w25,_),.cons (congrArg (fun q=>some (AV.v q)) (c4T k)) (.cons rfl (.nil _)),rfl,?_,by dsimp only;omega⟩
  dsimp only;rw [←hF,a3X (n:=k) (by omega),List.append_assoc];show l++([UInt8.ofInt (((k &&& 127) ||| 128:Nat):Int)]++J6 (k/128))=_;rw [b8p,c3F (Nat.mod_lt _ (by decide)),a3Y];rfl
 ·refine .q 6 hG ?_
  refine .bs a8 (by decide) fun b29 => ?_
  refine .ap (by simp<;>omega) (by simp<;>omega) fun w30 => ?_
  refine .q 4 hG ?_
  refine .e2 a8 a8 a8 ?_
  exact⟨1,_,rfl,by rw [←hF,a2d (n:=k) (by omega),←a3Y];rfl⟩
theorem a9z (b x:List UInt8) (hb:b.length≤800000) (hx:x.length≤1024):E4 gl prog 156 [.v b,.v x] [] (fun r Hs=>∃ u,r = .t2 (.raw u) (.v (0:Int))∧Hs = [.own 5 u (b++J6 x.length++x)]):=by
 have hlen:=B1 (n:=x.length) (by omega)
 refine E4.P8 func156 rfl (by kernel_rfl) 22 rfl rfl _ rfl _ rfl fun C hC hG => ?_
 refine .q 12 hG ?_
 refine .K8 (.t a8) (fun hc10=>(by exfalso;omega)) (fun hc10 => ?_)
 refine .q 6 hG ?_
 refine .k0 hG (a1x _ _ (by omega) (by omega) (by omega)) fun r15 Hs15 hr15 => ?_
 obtain⟨u15,rfl,rfl⟩:=hr15
 show D0 _ _ _ _ _ _ _ ((true,_)::_)
 refine .q 10 hG ?_
 refine .ap (by simp<;>omega) (by simp<;>omega) fun w20 => ?_
 refine .q 5 hG ?_
 refine .e2 a8 a8 a8 ?_
 refine⟨_,.cons .z (.nil),?_⟩
 exact⟨_,a8,a8⟩
theorem b0G (b x:List UInt8) (hb:b.length≤800000) (hx:x.length≤1024):p4 gl prog 156 [.v b,.v x] (fun r=>r = .t2 (.v (b++J6 x.length++x)) (.v (0:Int))):=(a9z b x hb hx).b8k
theorem b3P (x:List UInt8) (hx:x.length≤1000000):E4 gl prog 168 [.v x] [] (fun r Hs=>∃ u,r = .raw u∧Hs = [.own 5 u (J6 x.length++x)]):=by
 have hlen:=B1 (n:=x.length) (by omega)
 refine E4.P8 func168 rfl (by kernel_rfl) 8 rfl rfl _ rfl _ rfl fun C hC hG => ?_
 refine .q 8 hG ?_
 refine .k0 hG (a2U _ (by omega) (by omega)) fun r5 Hs5 hr5 => ?_
 obtain⟨u5,rfl,rfl⟩:=hr5
 show D0 _ _ _ _ _ _ _ ((true,_)::_)
 refine .q 1 hG ?_
 refine .ap (by simp<;>omega) (by simp<;>omega) fun w7 => ?_
 refine .q 3 hG ?_
 refine .e1 a8 a8 ?_
 refine⟨_,.cons .z (.nil),?_⟩
 exact⟨_,a8,a8⟩
theorem a08 (x:List UInt8) (hx:x.length≤1000000):p4 gl prog 168 [.v x] (fun r=>r = .v (J6 x.length++x)):=(b3P x hx).b0q
end Go.Proofs.YtmmclghiidoldaaGreatDoor
namespace Go.Ab
open Go.Fl Go.RowKit
open o7 (rep)
def EqT (P:Program) (T:TypeId) (k:Nat) (α:Type) [o7 α] [DecidableEq α]:Prop :=
 ∀ (d:Nat) (I:Im) (x y:α) (cs ds:List Value) (w:World),rep I x cs→rep I y ds→(Op.equalIn (d+k) T (asV (o7.agg α) cs) (asV (o7.agg α) ds)).run P w = .ok (decide (x=y)) w
variable {P:Program} {T E:TypeId}
theorem EqT.i64 (hT:P.underlying T=some (.int .i64)):EqT P T 1 Int:=fun d I x y cs ds w hx hy=>by
 obtain⟨rfl,_⟩:=hx
 obtain⟨rfl,_⟩:=hy
 exact a4q w d hT
theorem EqT.u64 (hT:P.underlying T=some (.int .u64)):EqT P T 1 UInt64:=fun d I x y cs ds w hx hy=>by
 obtain rfl:=hx
 obtain rfl:=hy
 refine(a4q w d hT).trans ?_
 congr 1
 rw [decide_eq_decide]
 exact⟨fun h=>UInt64.toNat_inj.1 (Int.ofNat_inj.1 h),fun h=>by rw [h]⟩
theorem EqT.str (hT:P.underlying T=some .string):EqT P T 1 Y4:=fun d I x y cs ds w hx hy=>by
 obtain⟨⟨a,rfl,ha⟩,_⟩:=hx
 obtain⟨⟨b,rfl,hb⟩,_⟩:=hy
 refine(run_equalIn_string w d T a b hT).trans ?_
 rw [b7M ha hb]
inductive EqF (P:Program) (k:Nat):List Field→Nat→(β:Type)→(s:o7 β)→DecidableEq β→Prop
  | nil {off:Nat}:EqF P k [] off Unit inferInstance inferInstance
  | cons {f : Field} {fs : List Field} {off : Nat} {α β : Type} {r : o7 α} {s : o7 β} {d1 : DecidableEq α} {d2 : DecidableEq β} {dd : TypeDesc} (h1 : f.offset = off) (hn : (f.name ≠ "_") = true) (hT : P.underlying f.type = some dd) (ha : a0Y dd = o7.agg α) (hz : D5 P f.type (o7.size α))
      (h2:EqT P f.type k α) (t:EqF P k fs (off+o7.size α) β s d2):EqF P k (f::fs) off (α×β) inferInstance inferInstance
theorem EqF.run {k : Nat} {fs : List Field} {off : Nat} {β : Type} {s : o7 β} {dec : DecidableEq β} (h : EqF P k fs off β s dec) : ∀ (d : Nat) (I : Im) (x y : β) (cs ds : List Value) (w : World), rep I x (cs.drop off) → rep I y (ds.drop off) →
    (Op.eqFields (d+k) cs.toArray ds.toArray fs).run P w = .ok (decide (x=y)) w:=by
  induction h with
  | nil=>intro d I x y cs ds w _ _;rfl
  | @cons f fs off α β r s d1 d2 dd h1 hn hT ha hz h2 t ih =>
    intro d I x y cs ds w hx hy
    obtain⟨c1,r1,e1,q1,q2⟩:=hx
    obtain⟨c2,r2,e2,q3,q4⟩:=hy
    have hp:∀ (zs c rr:List Value) (a:α),zs.drop off=c++rr→rep I a c→(part f.type zs.toArray f.offset).run P w = .ok (asV (o7.agg α) c) w:=fun zs c rr a e hc=>by
      have hl:=o7.len hc
      have hseg:H9 zs off (o7.size α)=c:=by rw [H9,e,←hl];simp
      obtain⟨g1,g2⟩:=a73 (P:=P) (cs:=zs) (off:=f.offset) hT hz w
      rw [h1] at g1 g2 ⊢
      cases hag:o7.agg α with
      | true =>
        rw [g1 (by rw [ha,hag]),hseg];rfl
      | false =>
        have hone:c.length=1:=by rw [hl];exact o7.one hag
        cases c with
        | nil=>simp at hone
        | cons v c =>
          have:c = []:=by simpa using hone
          subst this
          refine g2 v (by rw [ha,hag]) ?_
          have:(zs.drop off)[0]?=some v:=by rw [e];rfl
          simpa using this
    have hdrop:∀ (zs c rr:List Value) (a:α),zs.drop off=c++rr→rep I a c→zs.drop (off+o7.size α)=rr:=fun zs c rr a e hc=>by
      rw [←List.drop_drop,e,←o7.len hc];simp
    have hn':f.name ≠ "_" := by simpa using hn
    simp only [Op.eqFields,if_pos hn',Sem.run_bind,hp cs c1 r1 x.1 e1 q1,hp ds c2 r2 y.1 e2 q3,Result.andThen_ok,h2 d I x.1 y.1 c1 c2 w q1 q3]
    by_cases e:x.1=y.1
    · simp only [e,decide_true,Bool.not_true,Bool.false_eq_true,if_false]
      rw [ih d I x.2 y.2 cs ds w (by rw [hdrop cs c1 r1 x.1 e1 q1];exact q2) (by rw [hdrop ds c2 r2 y.1 e2 q3];exact q4)]
      congr 1
      rw [decide_eq_decide]
      exact⟨fun h=>Prod.ext e h,fun h=>by rw [h]⟩
    · simp only [e,decide_false,Bool.not_false,if_true,Sem.run_pure]
      congr 1
      symm
      rw [decide_eq_false_iff_not]
      exact fun h=>e (by rw [h])
theorem EqT.struct {S β:Type} [s:o7 β] [dS:DecidableEq S] {dec:DecidableEq β} {k:Nat} {fs:Array Field} (f:S→β) (hf:∀ a b,f a=f b→a=b) (hT0:P.underlying T=some (.struct fs)) (hp:P.stoodInHeld T=false) (h:EqF P k fs.toList 0 β s dec) : @EqT P T (k+1) S (o7.via f) dS:=by
 letI:o7 S:=o7.via f
 intro d I x y cs ds w hx hy
 have hfs:P.fieldsOf T=fs:=by unfold Program.fieldsOf;rw [hT0]
 have hT:P.underlying T=some (.struct (P.fieldsOf T)):=by rw [hfs];exact hT0
 have hx':rep I (f x) cs:=hx
 have hy':rep I (f y) ds:=hy
 refine(run_equalIn_struct w (d+k) T cs.toArray ds.toArray hT hp).trans ?_
 rw [hfs,h.run d I (f x) (f y) cs ds w (by simpa using hx') (by simpa using hy')]
 congr 1
 rw [decide_eq_decide]
 exact⟨hf _ _,fun h=>by rw [h]⟩
variable {N:Nat} {C:Ctx} {σ:x7} {H:j7} {K:AV→Prop} {d:Option Nat} {ty:TypeId} {ps:String} {af:Array Edge} {g:Option (Nat×Bool)} {x y:Operand} {T2:TypeId}
theorem j6.a14 {α : Type} {r : o7 α} {dd : DecidableEq α} {k0 : Nat} {a b : α} (he : EqT P T k0 α) (hk : Nat.ble k0 10000 = true) (hag : o7.agg α = true) (hg : P.eqGuardType P.depth T = false) (hx : E6 C σ H x (.v a)) (hy : E6 C σ H y (.v b)) (k : K (.v (decide (a = b)))) :
    j6 P N C ⟨d,.binOp .eql T x y T2,ty,ps,af,g⟩ σ H K :=
  .vk k (fun ρ I L hst => .mk ⟨[.bool (decide (a=b))],rfl,rfl⟩ fun ac w ha hm=>by
    obtain⟨u,h1,cs,h2,rfl⟩:=hx ρ I L hst
    obtain⟨v,h3,ds,h4,rfl⟩:=hy ρ I L hst
    have hke:10000 - k0+k0=10000:=by have:=Nat.le_of_ble_eq_true hk;omega
    have he':=he (10000 - k0) I a b cs ds w h2 h4
    rw [hke] at he'
    rw [hag] at he' h1 h3
    have h5:=run_eql_struct (P:=P) w T cs.toArray ds.toArray
    rw [show(Op.equalIn 10000 T (.agg cs.toArray) (.agg ds.toArray)).run P w=_ from he'] at h5
    have h1':ev ρ x=some (.agg cs.toArray):=h1
    have h3':ev ρ y=some (.agg ds.toArray):=h3
    simp only [execOp,ha.ev h1',ha.ev h3',Sem.run_bind,a9i w hg,h5,Result.andThen_ok,Sem.run_pure]
    rfl)
end Go.Ab
namespace Go.Proofs.YtmmclghiidoldaaGreatDoor
open Go.Proofs.Tryz
open Go.Ab Go.Mac
theorem X4:EqT prog 97 2 j3 := .struct j3.f (fun a b h=>by cases a;cases b;simpa [j3.f] using h) underlying97 (by kernel_rfl) (.cons rfl (by simp) underlying3 rfl (.of (by kernel_rfl)) (.i64 underlying3) (.cons rfl (by simp) underlying77 rfl (.of (by kernel_rfl)) (.u64 underlying77) (.cons rfl (by simp) underlying3 rfl (.of (by kernel_rfl)) (.i64 underlying3) (.cons rfl (by simp) underlying3 rfl (.of (by kernel_rfl)) (.i64 underlying3) (.cons rfl (by simp) underlying9 rfl (.of (by kernel_rfl)) (.str underlying9) (.cons rfl (by simp) underlying3 rfl (.of (by kernel_rfl)) (.i64 underlying3) .nil))))))
end Go.Proofs.YtmmclghiidoldaaGreatDoor
namespace Go.Ab
open Go.Fl Go.RowKit
open o7 (rep)
structure OF (α:Type) where
 E:TypeId
 l:List α
 own:Bool
instance {α:Type} [o7 α]:UB (OF α) where
 ub I w x X:=(x.own=false∧X = []∧E1 I (.v x.l) w)∨(x.own=true∧(D6.own x.E w x.l).a4e I X)
 mono hle h:=h.elim (fun h => .inl ⟨h.1,h.2.1,h.2.2.mono hle⟩) (fun h => .inr ⟨h.1,D6.mono hle h.2⟩)
theorem c2p {α:Type} [o7 α] {I J:Im} {w:Value} {x:OF α} {X:List (Nat×Obj)} (h:(D6.usr w x).a4e I X) (hle:Le I J) (hp:∀ p∈X,J p.1=some p.2):E1 J (.v x.l) w:=by
 rcases h with ⟨_,_,h⟩|⟨_,h⟩
 ·exact h.mono hle
 ·exact W2 h hle hp
section rules
variable {P:Program} {C:Ctx} {N:Nat} {σ:x7} {H:j7} {Q:Exit→x7→j7→Prop}
theorem J0.C0 {α:Type} {r:o7 α} (E:TypeId) {w:Value} {l:List α} {b:Bool} {c:Code} {F:Bool×D6→j7} (hH:u4 H (b,.fz w (.v l)) F) (k:J0 P C N c Q σ (F (b,.usr w (OF.mk E l false)))):J0 P C N c Q σ H:=fun ρ I L hs=>by
 obtain⟨i,X,h2,h3,h4⟩:=hH.get hs.heap
 have hset:L.set i X=L:=by
  obtain⟨hi,e⟩:=List.getElem?_eq_some_iff.1 h2
  rw [←e,List.set_getElem_self]
 have:=h4 I (b,.usr w (OF.mk E l false)) X (Le.refl I) ⟨.inl ⟨rfl,h3.1.1,h3.1.2⟩,h3.2⟩
 rw [hset] at this
 exact k ρ I L ⟨hs.env,this,hs.U6⟩
theorem J0.c1v {α:Type} {r:o7 α} {E:TypeId} {w:Value} {l:List α} {b:Bool} {c:Code} {F:Bool×D6→j7} (hH:u4 H (b,.own E w l) F) (k:J0 P C N c Q σ (F (b,.usr w (OF.mk E l true)))):J0 P C N c Q σ H:=fun ρ I L hs=>by
 obtain⟨i,X,h2,h3,h4⟩:=hH.get hs.heap
 have hset:L.set i X=L:=by
  obtain⟨hi,e⟩:=List.getElem?_eq_some_iff.1 h2
  rw [←e,List.set_getElem_self]
 have:=h4 I (b,.usr w (OF.mk E l true)) X (Le.refl I) ⟨.inr ⟨rfl,h3.1⟩,h3.2⟩
 rw [hset] at this
 exact k ρ I L ⟨hs.env,this,hs.U6⟩
theorem J0.c1w {α:Type} {r:o7 α} {w:Value} {s:OF α} (ho:s.own=true) {b:Bool} {c:Code} {F:Bool×D6→j7} (hH:u4 H (b,.usr w s) F) (k:J0 P C N c Q σ (F (b,.own s.E w s.l))):J0 P C N c Q σ H:=fun ρ I L hs=>by
 obtain⟨i,X,h2,h3,h4⟩:=hH.get hs.heap
 have hset:L.set i X=L:=by
  obtain⟨hi,e⟩:=List.getElem?_eq_some_iff.1 h2
  rw [←e,List.set_getElem_self]
 have h5:(D6.own s.E w s.l).a4e I X:=by
  rcases h3.1 with h|h
  ·rw [ho] at h;cases h.1
  ·exact h.2
 have:=h4 I (b,.own s.E w s.l) X (Le.refl I) ⟨h5,h3.2⟩
 rw [hset] at this
 exact k ρ I L ⟨hs.env,this,hs.U6⟩
theorem J0.c1x (hC:Ctx.Ok C) {α:Type} {r:o7 α} {w:Value} {s:OF α} {c:Code} {F:Bool×D6→j7} (hH:u4 H (true,.usr w s) F) (k:J0 P C N c Q σ (F (true,.fz w (.v s.l)))):J0 P C N c Q σ H:=fun ρ I L hs=>by
 obtain⟨i,X,h1,h2,h3⟩:=hH.get hs.heap
 refine .freeze i h1 (a5z hC h2) fun J hle hp=>k ρ J _ ⟨(hs.mono hle).env,h3 J _ [] hle ⟨⟨rfl,c2p h2.1 hle hp⟩,by simp⟩,hs.U6.trans hle⟩
end rules
theorem j6.c1y {P : Program} {C : Ctx} {N : Nat} {σ : x7} {H : j7} {K : AV → Prop} {d : Option Nat} {ty : TypeId} {ps : String} {af : Array Edge} {g : Option (Nat × Bool)} {x y : Operand} {T T2 : TypeId} {m n : UInt64}
    (hx:E6 C σ H x (.v m)) (hy:E6 C σ H y (.v n)) (k:K (.v (decide (m < n)))):j6 P N C ⟨d,.binOp .lss T x y T2,ty,ps,af,g⟩ σ H K :=
  .vk k (fun ρ I L hs => .lss (hx.a1j hs) (hy.a1j hs) ⟨_,rfl,by rw [b7I];rfl⟩)
theorem E6.a9A {P:Program} {C:Ctx} {σ:x7} {H:j7} {G:Gl} {f:FuncId} (hG:G.p C.I0) {α β:Type} [o7 α] [o7 β] {g1:α→β} (h:∀ x:α,p4 G P f [.v x] (fun r=>r = .v (g1 x))):E6 C σ H (.func f) (.a8r P g1) :=
 show E6 C σ H (.func f) (.clo P (fun x:α => [.v x]) (fun x => .v (g1 x))) from E6.c4z hG h
theorem A0.b5r {P : Program} {C : Ctx} {N : Nat} {σ : x7} {H : j7} {KH : AV → j7 → Prop} {d : Option Nat} {ty : TypeId} {ps : String} {af : Array Edge} {g : Option (Nat × Bool)} {y : Operand} {T E U : TypeId} {α : Type} {r : o7 α} {i0 : Inhabited α} {by_ t : Nat} {w : Value} {l m : List α} {bb : Bool} {F : Bool × D6 → j7} (st : SlT P T E α by_) (hU : (∃ E2, P.underlying U = some (.slice E2)) ∨ P.underlying U = some .string) (hx : E9 σ t = some (.raw w))
    (hH:u4 H (bb,.own E w l) F) (hy:a81 P C σ H y m) (hb:(l.length+m.length)*by_≤140737488355328) (hn:l.length+m.length≤9223372036854775807) (k:∀ w',KH (.raw w') (F (bb,.own E w' (l++m)))) :
    A0 P C N ⟨d,.call ⟨.builtin .append,#[.tmp t,y],#[T,U]⟩,ty,ps,af,g⟩ σ H KH:=fun ρ I L hs=>by
  obtain⟨u,h1,rfl⟩:=hs.env t _ hx
  obtain⟨v,news,h2,h3,h4⟩:=hy ρ I L hs
  obtain⟨j,X,h5,h6,h7⟩:=hH.get hs.heap
  obtain⟨xs,h8,h9⟩:=h6.1
  intro a w0 ha hst
  refine Yld.mono (OpS.b4V (K:=fun v' J L'=>∃ X',L'=L.set j X'∧J=I∧a1T E (o7.size α) v' (l.length+m.length) (xs++news) X'∧(∀ p∈X',p.1∈X.map Prod.fst∨C.w0.heap.size≤p.1)) j st.elt st.pos hU (x := .tmp t) h1 h2 h5 h8 h3 h4.flat (by unfold maxLen;omega) hb (fun v' X' ho hn=>⟨X',rfl,rfl,ho,hn⟩) a w0 ha hst) ?_
  rintro v' w' ⟨J,L',hst',X',rfl,rfl,ho,hnew⟩
  refine⟨J,_,hst',Le.refl J,.raw v',_,rfl,h7 J (bb,.own E v' (l++m)) X' (Le.refl J) ⟨⟨xs++news,by rw [List.length_append];exact ho,h9.append h4⟩,fun hbb p hp => ?_⟩,k v'⟩
  rcases hnew p hp with h|h
  · obtain⟨q,hq,hqe⟩:=List.mem_map.1 h
    rw [←hqe];exact h6.2 hbb q hq
  · exact h
inductive Del:j7→j7→Prop
 | z {B:Bool×D6} {H:j7}:Del (B::H) H
 | s {A:Bool×D6} {H H':j7} (h:Del H H'):Del (A::H) (A::H')
theorem Del.get {n0:Nat} {I:Im} {H H':j7} (h:Del H H'):∀ {L:Lh},U0 n0 I H L→∃ X L',([X]++L':Lh).flatten.Perm L.flatten∧U0 n0 I H' L':=by
 induction h with
 | z =>
  rintro _ ⟨X,R,rfl,h1,h2⟩
  exact⟨X,R,.refl _,h2⟩
 | s h ih =>
  rintro _ ⟨X,R,rfl,h1,h2⟩
  obtain⟨Y,L',h3,h4⟩:=ih h2
  refine⟨Y,X::L',?_,X,L',a8,h1,h4⟩
  simp only [List.singleton_append,List.flatten_cons] at h3 ⊢
  refine(List.Perm.trans ?_ (List.Perm.append_left X h3))
  simp only [←List.append_assoc]
  exact List.Perm.append_right _ List.perm_append_comm
section del
variable {P:Program} {C:Ctx} {N:Nat} {σ:x7} {H H':j7} {Q:Exit→x7→j7→Prop}
theorem J0.del {c:Code} (hd:Del H H') (k:J0 P C N c Q σ H'):J0 P C N c Q σ H:=fun ρ I L hs a w ha hst=>by
 obtain⟨X,L',hp,hr⟩:=hd.get hs.heap
 exact(wpS.forget (X := [X]) (k ρ I L' ⟨hs.env,hr,hs.U6⟩)) a w ha (b3w hst hp)
end del
end Go.Ab
namespace Go.Fl
section scope
variable {P:Program} {b:Frame} {a:Act} {k:List Item} {cs:List Frame} {w:World}
theorem a0P {c:Code}:step P (lone (b.atR a (.code (.scope c)::k)) cs w) = .next (lone (b.atR a (.code c :: .inScope c::k)) cs w) :=
 step_lone_go (by simp [stepG,stepG.exec,Frame.atR])
theorem a9c {c:Code}:step P (lone (b.atR a (.inScope c::k)) cs w) = .next (lone (b.atR a k) cs w) :=
 step_lone_go (by simp [stepG,stepG.exec,Frame.atR])
theorem b2b {F:Fence} {n:Nat} {Q Q':Exit→Act→World→Prop} {c:Code} (h:c.wpIn F n P Q' a w) (hq:∀ e a w,Q' e a w→Q e a w∧∀ l,e ≠ .goto l):(Code.scope c).wpIn F n P Q a w:=by
 intro b k cs hro hb hr
 have h0:(lone (b.atR a (.code (.scope c)::k)) cs w).fenced P F:=fenced_calm hb hr rfl
 obtain⟨e,a₁,w₁,hq1,harr⟩:=h b (.inScope c::k) cs hro hb hr
 obtain⟨hq2,hq3⟩:=hq e a₁ w₁ hq1
 cases e with
 | normal=>exact⟨.normal,a₁,w₁,hq2,.head h0 a0P (StepsIn.trans harr (.one (fenced_calm hb hr rfl) a9c))⟩
 | exit id =>
  have hx:exitTo id (.inScope c::k)=exitTo id k:=by simp [exitTo]
  exact⟨.exit id,a₁,w₁,hq2,fun k' hk => .head h0 a0P (harr.1 k' (by rw [hx];exact hk)),
   fun hr' hk=>let ⟨k₁,h1,h2⟩:=harr.2 hr' (by rw [hx];exact hk);⟨k₁,h1,.head h0 a0P h2⟩⟩
 | goto l=>exact absurd rfl (hq3 l)
 | ret=>exact⟨_,a₁,w₁,hq2,.of_steps (.one h0 a0P) harr⟩
 | panic ch=>exact⟨_,a₁,w₁,hq2,.of_steps (.one h0 a0P) harr⟩
 | outgrown=>exact⟨_,a₁,w₁,hq2,.of_steps (.one h0 a0P) harr⟩
end scope
end Go.Fl
namespace Go.Ab
open Go.Fl Go.RowKit
@[reducible] def c4U (Q:Exit→x7→j7→Prop):Exit→x7→j7→Prop
 | .goto _,_,_=>False
 | e,σ,H=>Q e σ H
theorem J0.scope {P:Program} {C:Ctx} {N:Nat} {σ:x7} {H:j7} {Q:Exit→x7→j7→Prop} {c:Code} (k:J0 P C N c (c4U Q) σ H):J0 P C N (.scope c) Q σ H:=fun ρ I L hs a w ha hst=>by
 refine b2b (k ρ I L hs a w ha hst) ?_
 rintro e a w ⟨ρ,I,L,h1,h2,σ,H,h3,h4⟩
 cases e with
 | goto l=>exact h4.elim
 | _=>exact⟨⟨ρ,I,L,h1,h2,σ,H,h3,h4⟩,fun l h=>by cases h⟩
theorem J0.label {P:Program} {C:Ctx} {N:Nat} {σ:x7} {H:j7} {Q:Exit→x7→j7→Prop} {l:Nat} (h:Q .normal σ H):J0 P C N (.label l) Q σ H:=fun ρ I L hs a w ha hst =>
 wpIn_label ⟨ρ,I,L,ha,hst,σ,H,hs,h⟩
section c3G
variable {P:Program} {C:Ctx} {N:Nat} {Q:Exit→x7→j7→Prop} {σ:x7} {H:j7}
end c3G
theorem j6.c3H {P : Program} {C : Ctx} {N : Nat} {σ : x7} {H : j7} {K : AV → Prop} {d : Option Nat} {ty : TypeId} {ps : String} {af : Array Edge} {g : Option (Nat × Bool)} {x y : Operand} {T E : TypeId} {α : Type} {r : o7 α} {i : Inhabited α} {l : List α} {n : Int}
    (tE:G2 P E α) (hT:P.underlying T=some (.slice E)) (hx:E6 C σ H x (.v l)) (hy:E6 C σ H y (.v n)) (h0:0≤n) (h1:n < l.length) (k:K (.p (l.getD n.toNat default))):j6 P N C ⟨d,.indexAddr T x y,ty,ps,af,g⟩ σ H K :=
  .idx tE hT hx hy h0 h1 (by
    have e:l.getD n.toNat default=l[n.toNat]'(by omega):=by rw [List.getD_eq_getElem?_getD,List.getElem?_eq_getElem (by omega)];rfl
    rw [←e];exact k)
theorem j6.a2o {P:Program} {N:Nat} {C:Ctx} {σ:x7} {H:j7} {K:AV→Prop} {d:Option Nat} {ty:TypeId} {ps:String} {af:Array Edge} {g:Option (Nat×Bool)} {x y:Operand} {T T2:TypeId} {m c:UInt64} (hx:E6 C σ H x (.v m)) (hy:E6 C σ H y (.v c)) (h0:0≤c.toNat) (h1:c.toNat < 64) (k:K (.v (m <<< c))):j6 P N C ⟨d,.binOp .shl T x y T2,ty,ps,af,g⟩ σ H K :=
 .vk k (fun ρ I L hs=>H7.a2o c.toNat (hx.a1j hs) (hy.a1j hs) rfl h1 ⟨[Fl.u64 (m <<< c)],rfl,by rw [UInt64.ofNat_toNat];rfl⟩)
theorem j6.b7g {P:Program} {N:Nat} {C:Ctx} {σ:x7} {H:j7} {K:AV→Prop} {d:Option Nat} {ty:TypeId} {ps:String} {af:Array Edge} {g:Option (Nat×Bool)} {x:Operand} {T:TypeId} {m:UInt64} (hx:E6 C σ H x (.v m)) (k:K (.v (~~~m))):j6 P N C ⟨d,.unOp .xor T x,ty,ps,af,g⟩ σ H K :=
 .vk k (fun ρ I L hs=>H7.b7g (hx.a1j hs) ⟨[Fl.u64 (~~~m)],rfl,rfl⟩)
end Go.Ab
