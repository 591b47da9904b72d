/-
  NARROWER THAN 'FOR EVERY INPUT', by the rows' own cells (each row's printed sentence says how): ShaDigest: laid · ShaState: laid · ShaParts: laid · ShaSum: laid · ShaBorders: laid · HmacTag: laid · HmacPadding: laid · HmacEqual: laid · HmacDerive: laid.
  DERIVED. THE GIVEN ROWS OF THIS SEAT. 9 by the template 'for every input the law returns true; each argument reads behind the call as it read before'; 0 by the template 'total and deterministic' (their statements: YtlohppddhbimnaaDoorTotals.lean).
  GIVEN WITH THE SEED: the statements are not yours to turn. If you find one false, say at which input.
  Laid BY PROGRAM, IN A SANDBOX (cutbox-rows.mjs): the forced cells as the released guide's own fill.sh prints them over the translation f4c885215547f106… (all of the seat's roots in one cut). By AI agents, Wed Nov 11 2026. No macro, syntax, notation, axiom, sorry.
-/
import Derived.Test.YtlohppddhbimnaaDoorChecked
import GoSem.Claim
import GoSem.ClaimJoined
import GoSem.ClaimMapViews
import Derived.JoinedTies
import Derived.KernelRfl
namespace Go.Proofs.YtlohppddhbimnaaDoor
/- THE CELL 'sum', in the pinned program and in every row, IS THE sha256 OF THE DUMP (.gsa) THAT YtlohppddhbimnaaDoorProg.lean LOADS. Nothing in Lean hashes anything: it is a label: what it is worth is what the hold of that sum in a sandbox is worth. -/
noncomputable def Tryd.pinned : Pinned := { name := "ytlohppddhbimnaadoor", sum := "f4c885215547f1066dbe828665f7579c120b958f4a350ebc3e2d936121d6f45e", checked := Tryd.checked }
namespace Rows
def none {H : Type} : Left H := { results := [], args := [] }

/- WHAT THE LISTED PACKAGE-LEVEL VARIABLES READ AS WHEN THE CALL BEGINS. Each datum BY PROGRAM (the guide's laid-datum.mjs) off the statement by which the dump's own 'gosem.cut.vars' lays the variable. In a bare row this is a premise. The card (YtlohppddhbimnaaDoorCards.lean) ties it to the program's text. -/
def laid_macaroon_sha_k {H : Type} : DataW H := .agg [.lit (.int .u32 1116352408), .lit (.int .u32 1899447441), .lit (.int .u32 3049323471), .lit (.int .u32 3921009573), .lit (.int .u32 961987163), .lit (.int .u32 1508970993), .lit (.int .u32 2453635748), .lit (.int .u32 2870763221), .lit (.int .u32 3624381080), .lit (.int .u32 310598401), .lit (.int .u32 607225278), .lit (.int .u32 1426881987), .lit (.int .u32 1925078388), .lit (.int .u32 2162078206), .lit (.int .u32 2614888103), .lit (.int .u32 3248222580), .lit (.int .u32 3835390401), .lit (.int .u32 4022224774), .lit (.int .u32 264347078), .lit (.int .u32 604807628), .lit (.int .u32 770255983), .lit (.int .u32 1249150122), .lit (.int .u32 1555081692), .lit (.int .u32 1996064986), .lit (.int .u32 2554220882), .lit (.int .u32 2821834349), .lit (.int .u32 2952996808), .lit (.int .u32 3210313671), .lit (.int .u32 3336571891), .lit (.int .u32 3584528711), .lit (.int .u32 113926993), .lit (.int .u32 338241895), .lit (.int .u32 666307205), .lit (.int .u32 773529912), .lit (.int .u32 1294757372), .lit (.int .u32 1396182291), .lit (.int .u32 1695183700), .lit (.int .u32 1986661051), .lit (.int .u32 2177026350), .lit (.int .u32 2456956037), .lit (.int .u32 2730485921), .lit (.int .u32 2820302411), .lit (.int .u32 3259730800), .lit (.int .u32 3345764771), .lit (.int .u32 3516065817), .lit (.int .u32 3600352804), .lit (.int .u32 4094571909), .lit (.int .u32 275423344), .lit (.int .u32 430227734), .lit (.int .u32 506948616), .lit (.int .u32 659060556), .lit (.int .u32 883997877), .lit (.int .u32 958139571), .lit (.int .u32 1322822218), .lit (.int .u32 1537002063), .lit (.int .u32 1747873779), .lit (.int .u32 1955562222), .lit (.int .u32 2024104815), .lit (.int .u32 2227730452), .lit (.int .u32 2361852424), .lit (.int .u32 2428436474), .lit (.int .u32 2756734187), .lit (.int .u32 3204031479), .lit (.int .u32 3329325298)]

/-- 'macaroonlaw01.ShaDigest': WHATEVER THE INPUT: true; the input reads as it did. -/
def shaDigestSpec : ChangeSpec := { name := "shaDigest", fn := fun _ => fun
  | [d1, d2, d3] => { results := [.lit (.bool true)], args := [d1, d2, d3] }
  | _ => none }
def shaDigestRow : OpenClaim := { program := "ytlohppddhbimnaadoor", sum := "f4c885215547f1066dbe828665f7579c120b958f4a350ebc3e2d936121d6f45e", func := "macaroon/macaroonlaw01.ShaDigest", spec := "shaDigest", named := ["macaroon/sha.k"], apart := false, laid := [("macaroon/sha.k", laid_macaroon_sha_k)] }
def ShaDigestSaid : Prop := shaDigestRow.holds Tryd.pinned (OpenSpec.ofChange shaDigestSpec)

/-- ITS FALSE NEIGHBOUR: 'it returns false'. Refute it at one input. -/
def shaDigestWrong : ChangeSpec := { name := "shaDigest", fn := fun _ => fun
  | [d1, d2, d3] => { results := [.lit (.bool false)], args := [d1, d2, d3] }
  | _ => none }
def ShaDigestWrongFalsely : Prop := shaDigestRow.holds Tryd.pinned (OpenSpec.ofChange shaDigestWrong)

/-- 'macaroonlaw01.ShaState': WHATEVER THE INPUT: true; the input reads as it did. -/
def shaStateSpec : ChangeSpec := { name := "shaState", fn := fun _ => fun
  | [d1, d2] => { results := [.lit (.bool true)], args := [d1, d2] }
  | _ => none }
def shaStateRow : OpenClaim := { program := "ytlohppddhbimnaadoor", sum := "f4c885215547f1066dbe828665f7579c120b958f4a350ebc3e2d936121d6f45e", func := "macaroon/macaroonlaw01.ShaState", spec := "shaState", named := ["macaroon/sha.k"], apart := false, laid := [("macaroon/sha.k", laid_macaroon_sha_k)] }
def ShaStateSaid : Prop := shaStateRow.holds Tryd.pinned (OpenSpec.ofChange shaStateSpec)

/-- ITS FALSE NEIGHBOUR: 'it returns false'. Refute it at one input. -/
def shaStateWrong : ChangeSpec := { name := "shaState", fn := fun _ => fun
  | [d1, d2] => { results := [.lit (.bool false)], args := [d1, d2] }
  | _ => none }
def ShaStateWrongFalsely : Prop := shaStateRow.holds Tryd.pinned (OpenSpec.ofChange shaStateWrong)

/-- 'macaroonlaw01.ShaParts': WHATEVER THE INPUT: true; the input reads as it did. -/
def shaPartsSpec : ChangeSpec := { name := "shaParts", fn := fun _ => fun
  | [d1, d2] => { results := [.lit (.bool true)], args := [d1, d2] }
  | _ => none }
def shaPartsRow : OpenClaim := { program := "ytlohppddhbimnaadoor", sum := "f4c885215547f1066dbe828665f7579c120b958f4a350ebc3e2d936121d6f45e", func := "macaroon/macaroonlaw01.ShaParts", spec := "shaParts", named := ["macaroon/sha.k"], apart := false, laid := [("macaroon/sha.k", laid_macaroon_sha_k)] }
def ShaPartsSaid : Prop := shaPartsRow.holds Tryd.pinned (OpenSpec.ofChange shaPartsSpec)

/-- ITS FALSE NEIGHBOUR: 'it returns false'. Refute it at one input. -/
def shaPartsWrong : ChangeSpec := { name := "shaParts", fn := fun _ => fun
  | [d1, d2] => { results := [.lit (.bool false)], args := [d1, d2] }
  | _ => none }
def ShaPartsWrongFalsely : Prop := shaPartsRow.holds Tryd.pinned (OpenSpec.ofChange shaPartsWrong)

/-- 'macaroonlaw01.ShaSum': WHATEVER THE INPUT: true; the input reads as it did. -/
def shaSumSpec : ChangeSpec := { name := "shaSum", fn := fun _ => fun
  | [d1, d2] => { results := [.lit (.bool true)], args := [d1, d2] }
  | _ => none }
def shaSumRow : OpenClaim := { program := "ytlohppddhbimnaadoor", sum := "f4c885215547f1066dbe828665f7579c120b958f4a350ebc3e2d936121d6f45e", func := "macaroon/macaroonlaw01.ShaSum", spec := "shaSum", named := ["macaroon/sha.k"], apart := false, laid := [("macaroon/sha.k", laid_macaroon_sha_k)] }
def ShaSumSaid : Prop := shaSumRow.holds Tryd.pinned (OpenSpec.ofChange shaSumSpec)

/-- ITS FALSE NEIGHBOUR: 'it returns false'. Refute it at one input. -/
def shaSumWrong : ChangeSpec := { name := "shaSum", fn := fun _ => fun
  | [d1, d2] => { results := [.lit (.bool false)], args := [d1, d2] }
  | _ => none }
def ShaSumWrongFalsely : Prop := shaSumRow.holds Tryd.pinned (OpenSpec.ofChange shaSumWrong)

/-- 'macaroonlaw01.ShaBorders': WHATEVER THE INPUT: true; the input reads as it did. -/
def shaBordersSpec : ChangeSpec := { name := "shaBorders", fn := fun _ => fun
  | [d1, d2] => { results := [.lit (.bool true)], args := [d1, d2] }
  | _ => none }
def shaBordersRow : OpenClaim := { program := "ytlohppddhbimnaadoor", sum := "f4c885215547f1066dbe828665f7579c120b958f4a350ebc3e2d936121d6f45e", func := "macaroon/macaroonlaw01.ShaBorders", spec := "shaBorders", named := ["macaroon/sha.k"], apart := false, laid := [("macaroon/sha.k", laid_macaroon_sha_k)] }
def ShaBordersSaid : Prop := shaBordersRow.holds Tryd.pinned (OpenSpec.ofChange shaBordersSpec)

/-- ITS FALSE NEIGHBOUR: 'it returns false'. Refute it at one input. -/
def shaBordersWrong : ChangeSpec := { name := "shaBorders", fn := fun _ => fun
  | [d1, d2] => { results := [.lit (.bool false)], args := [d1, d2] }
  | _ => none }
def ShaBordersWrongFalsely : Prop := shaBordersRow.holds Tryd.pinned (OpenSpec.ofChange shaBordersWrong)

/-- 'macaroonlaw02.HmacTag': WHATEVER THE INPUT: true; the input reads as it did. -/
def hmacTagSpec : ChangeSpec := { name := "hmacTag", fn := fun _ => fun
  | [d1, d2, d3] => { results := [.lit (.bool true)], args := [d1, d2, d3] }
  | _ => none }
def hmacTagRow : OpenClaim := { program := "ytlohppddhbimnaadoor", sum := "f4c885215547f1066dbe828665f7579c120b958f4a350ebc3e2d936121d6f45e", func := "macaroon/macaroonlaw02.HmacTag", spec := "hmacTag", named := ["macaroon/sha.k"], apart := false, laid := [("macaroon/sha.k", laid_macaroon_sha_k)] }
def HmacTagSaid : Prop := hmacTagRow.holds Tryd.pinned (OpenSpec.ofChange hmacTagSpec)

/-- ITS FALSE NEIGHBOUR: 'it returns false'. Refute it at one input. -/
def hmacTagWrong : ChangeSpec := { name := "hmacTag", fn := fun _ => fun
  | [d1, d2, d3] => { results := [.lit (.bool false)], args := [d1, d2, d3] }
  | _ => none }
def HmacTagWrongFalsely : Prop := hmacTagRow.holds Tryd.pinned (OpenSpec.ofChange hmacTagWrong)

/-- 'macaroonlaw02.HmacPadding': WHATEVER THE INPUT: true; the input reads as it did. -/
def hmacPaddingSpec : ChangeSpec := { name := "hmacPadding", fn := fun _ => fun
  | [d1, d2, d3, d4] => { results := [.lit (.bool true)], args := [d1, d2, d3, d4] }
  | _ => none }
def hmacPaddingRow : OpenClaim := { program := "ytlohppddhbimnaadoor", sum := "f4c885215547f1066dbe828665f7579c120b958f4a350ebc3e2d936121d6f45e", func := "macaroon/macaroonlaw02.HmacPadding", spec := "hmacPadding", named := ["macaroon/sha.k"], apart := false, laid := [("macaroon/sha.k", laid_macaroon_sha_k)] }
def HmacPaddingSaid : Prop := hmacPaddingRow.holds Tryd.pinned (OpenSpec.ofChange hmacPaddingSpec)

/-- ITS FALSE NEIGHBOUR: 'it returns false'. Refute it at one input. -/
def hmacPaddingWrong : ChangeSpec := { name := "hmacPadding", fn := fun _ => fun
  | [d1, d2, d3, d4] => { results := [.lit (.bool false)], args := [d1, d2, d3, d4] }
  | _ => none }
def HmacPaddingWrongFalsely : Prop := hmacPaddingRow.holds Tryd.pinned (OpenSpec.ofChange hmacPaddingWrong)

/-- 'macaroonlaw02.HmacEqual': WHATEVER THE INPUT: true; the input reads as it did. -/
def hmacEqualSpec : ChangeSpec := { name := "hmacEqual", fn := fun _ => fun
  | [d1, d2, d3, d4] => { results := [.lit (.bool true)], args := [d1, d2, d3, d4] }
  | _ => none }
def hmacEqualRow : OpenClaim := { program := "ytlohppddhbimnaadoor", sum := "f4c885215547f1066dbe828665f7579c120b958f4a350ebc3e2d936121d6f45e", func := "macaroon/macaroonlaw02.HmacEqual", spec := "hmacEqual", named := ["macaroon/sha.k"], apart := false, laid := [("macaroon/sha.k", laid_macaroon_sha_k)] }
def HmacEqualSaid : Prop := hmacEqualRow.holds Tryd.pinned (OpenSpec.ofChange hmacEqualSpec)

/-- ITS FALSE NEIGHBOUR: 'it returns false'. Refute it at one input. -/
def hmacEqualWrong : ChangeSpec := { name := "hmacEqual", fn := fun _ => fun
  | [d1, d2, d3, d4] => { results := [.lit (.bool false)], args := [d1, d2, d3, d4] }
  | _ => none }
def HmacEqualWrongFalsely : Prop := hmacEqualRow.holds Tryd.pinned (OpenSpec.ofChange hmacEqualWrong)

/-- 'macaroonlaw02.HmacDerive': WHATEVER THE INPUT: true; the input reads as it did. -/
def hmacDeriveSpec : ChangeSpec := { name := "hmacDerive", fn := fun _ => fun
  | [d1, d2, d3, d4] => { results := [.lit (.bool true)], args := [d1, d2, d3, d4] }
  | _ => none }
def hmacDeriveRow : OpenClaim := { program := "ytlohppddhbimnaadoor", sum := "f4c885215547f1066dbe828665f7579c120b958f4a350ebc3e2d936121d6f45e", func := "macaroon/macaroonlaw02.HmacDerive", spec := "hmacDerive", named := ["macaroon/sha.k"], apart := false, laid := [("macaroon/sha.k", laid_macaroon_sha_k)] }
def HmacDeriveSaid : Prop := hmacDeriveRow.holds Tryd.pinned (OpenSpec.ofChange hmacDeriveSpec)

/-- ITS FALSE NEIGHBOUR: 'it returns false'. Refute it at one input. -/
def hmacDeriveWrong : ChangeSpec := { name := "hmacDerive", fn := fun _ => fun
  | [d1, d2, d3, d4] => { results := [.lit (.bool false)], args := [d1, d2, d3, d4] }
  | _ => none }
def HmacDeriveWrongFalsely : Prop := hmacDeriveRow.holds Tryd.pinned (OpenSpec.ofChange hmacDeriveWrong)

/- THE SECOND FORM. 'bulk': how many values and letters a reading holds, each counted each time it is reached (what is shared counts as often as it is met; a slice's spare places count too). A statement '..UptoSaid' is the law's where the arguments, and the package variables that the reading takes, are together of bulk at most 1048576: NARROWER than '..Said'. Prove '..Said' where nothing that the law and all that it calls make is longer than what came in: it says more and counts as full. Else prove '..UptoSaid'. A law counts once. -/
mutual
def uptoBulk {H : Type} : DataW H → Nat
  | .lit (.string bytes) => bytes.length + 1
  | .lit _ => 1
  | .nil => 1
  | .ptr d => uptoBulk d + 1
  | .slice elems spare => uptoBulkAll elems + uptoBulkAll spare + 1
  | .agg parts => uptoBulkAll parts + 1
  | .iface _ d => uptoBulk d + 1
  | .map entries => uptoBulkEntries entries + 1
  | .held _ => 1
def uptoBulkAll {H : Type} : List (DataW H) → Nat
  | [] => 0
  | d :: r => uptoBulk d + uptoBulkAll r
def uptoBulkEntries {H : Type} : List (Lit × DataW H) → Nat
  | [] => 0
  | x :: r => uptoBulkEntry x + uptoBulkEntries r
def uptoBulkEntry {H : Type} : Lit × DataW H → Nat
  | (.string bytes, d) => bytes.length + uptoBulk d + 1
  | (_, d) => uptoBulk d + 1
 end
def uptoSmall : (H : Type) → List (DataW H) → Bool := fun _ ds => decide (uptoBulkAll ds ≤ 1048576)
def OpenSpec.upto (s : _root_.Go.ChangeSpec) : _root_.Go.OpenSpec := { _root_.Go.OpenSpec.ofChange s with cond := some uptoSmall }

/-- 'macaroonlaw01.ShaDigest', WHERE WHAT IT READS IS OF BULK AT MOST 1048576: true; the input reads as it did. -/
def shaDigestUptoRow : OpenClaim := { program := "ytlohppddhbimnaadoor", sum := "f4c885215547f1066dbe828665f7579c120b958f4a350ebc3e2d936121d6f45e", func := "macaroon/macaroonlaw01.ShaDigest", spec := "shaDigest", named := ["macaroon/sha.k"], apart := false, laid := [("macaroon/sha.k", laid_macaroon_sha_k)], narrowed := true }
def ShaDigestUptoSaid : Prop := shaDigestUptoRow.holds Tryd.pinned (OpenSpec.upto shaDigestSpec)

/-- 'macaroonlaw01.ShaState', WHERE WHAT IT READS IS OF BULK AT MOST 1048576: true; the input reads as it did. -/
def shaStateUptoRow : OpenClaim := { program := "ytlohppddhbimnaadoor", sum := "f4c885215547f1066dbe828665f7579c120b958f4a350ebc3e2d936121d6f45e", func := "macaroon/macaroonlaw01.ShaState", spec := "shaState", named := ["macaroon/sha.k"], apart := false, laid := [("macaroon/sha.k", laid_macaroon_sha_k)], narrowed := true }
def ShaStateUptoSaid : Prop := shaStateUptoRow.holds Tryd.pinned (OpenSpec.upto shaStateSpec)

/-- 'macaroonlaw01.ShaParts', WHERE WHAT IT READS IS OF BULK AT MOST 1048576: true; the input reads as it did. -/
def shaPartsUptoRow : OpenClaim := { program := "ytlohppddhbimnaadoor", sum := "f4c885215547f1066dbe828665f7579c120b958f4a350ebc3e2d936121d6f45e", func := "macaroon/macaroonlaw01.ShaParts", spec := "shaParts", named := ["macaroon/sha.k"], apart := false, laid := [("macaroon/sha.k", laid_macaroon_sha_k)], narrowed := true }
def ShaPartsUptoSaid : Prop := shaPartsUptoRow.holds Tryd.pinned (OpenSpec.upto shaPartsSpec)

/-- 'macaroonlaw01.ShaSum', WHERE WHAT IT READS IS OF BULK AT MOST 1048576: true; the input reads as it did. -/
def shaSumUptoRow : OpenClaim := { program := "ytlohppddhbimnaadoor", sum := "f4c885215547f1066dbe828665f7579c120b958f4a350ebc3e2d936121d6f45e", func := "macaroon/macaroonlaw01.ShaSum", spec := "shaSum", named := ["macaroon/sha.k"], apart := false, laid := [("macaroon/sha.k", laid_macaroon_sha_k)], narrowed := true }
def ShaSumUptoSaid : Prop := shaSumUptoRow.holds Tryd.pinned (OpenSpec.upto shaSumSpec)

/-- 'macaroonlaw01.ShaBorders', WHERE WHAT IT READS IS OF BULK AT MOST 1048576: true; the input reads as it did. -/
def shaBordersUptoRow : OpenClaim := { program := "ytlohppddhbimnaadoor", sum := "f4c885215547f1066dbe828665f7579c120b958f4a350ebc3e2d936121d6f45e", func := "macaroon/macaroonlaw01.ShaBorders", spec := "shaBorders", named := ["macaroon/sha.k"], apart := false, laid := [("macaroon/sha.k", laid_macaroon_sha_k)], narrowed := true }
def ShaBordersUptoSaid : Prop := shaBordersUptoRow.holds Tryd.pinned (OpenSpec.upto shaBordersSpec)

/-- 'macaroonlaw02.HmacTag', WHERE WHAT IT READS IS OF BULK AT MOST 1048576: true; the input reads as it did. -/
def hmacTagUptoRow : OpenClaim := { program := "ytlohppddhbimnaadoor", sum := "f4c885215547f1066dbe828665f7579c120b958f4a350ebc3e2d936121d6f45e", func := "macaroon/macaroonlaw02.HmacTag", spec := "hmacTag", named := ["macaroon/sha.k"], apart := false, laid := [("macaroon/sha.k", laid_macaroon_sha_k)], narrowed := true }
def HmacTagUptoSaid : Prop := hmacTagUptoRow.holds Tryd.pinned (OpenSpec.upto hmacTagSpec)

/-- 'macaroonlaw02.HmacPadding', WHERE WHAT IT READS IS OF BULK AT MOST 1048576: true; the input reads as it did. -/
def hmacPaddingUptoRow : OpenClaim := { program := "ytlohppddhbimnaadoor", sum := "f4c885215547f1066dbe828665f7579c120b958f4a350ebc3e2d936121d6f45e", func := "macaroon/macaroonlaw02.HmacPadding", spec := "hmacPadding", named := ["macaroon/sha.k"], apart := false, laid := [("macaroon/sha.k", laid_macaroon_sha_k)], narrowed := true }
def HmacPaddingUptoSaid : Prop := hmacPaddingUptoRow.holds Tryd.pinned (OpenSpec.upto hmacPaddingSpec)

/-- 'macaroonlaw02.HmacEqual', WHERE WHAT IT READS IS OF BULK AT MOST 1048576: true; the input reads as it did. -/
def hmacEqualUptoRow : OpenClaim := { program := "ytlohppddhbimnaadoor", sum := "f4c885215547f1066dbe828665f7579c120b958f4a350ebc3e2d936121d6f45e", func := "macaroon/macaroonlaw02.HmacEqual", spec := "hmacEqual", named := ["macaroon/sha.k"], apart := false, laid := [("macaroon/sha.k", laid_macaroon_sha_k)], narrowed := true }
def HmacEqualUptoSaid : Prop := hmacEqualUptoRow.holds Tryd.pinned (OpenSpec.upto hmacEqualSpec)

/-- 'macaroonlaw02.HmacDerive', WHERE WHAT IT READS IS OF BULK AT MOST 1048576: true; the input reads as it did. -/
def hmacDeriveUptoRow : OpenClaim := { program := "ytlohppddhbimnaadoor", sum := "f4c885215547f1066dbe828665f7579c120b958f4a350ebc3e2d936121d6f45e", func := "macaroon/macaroonlaw02.HmacDerive", spec := "hmacDerive", named := ["macaroon/sha.k"], apart := false, laid := [("macaroon/sha.k", laid_macaroon_sha_k)], narrowed := true }
def HmacDeriveUptoSaid : Prop := hmacDeriveUptoRow.holds Tryd.pinned (OpenSpec.upto hmacDeriveSpec)

end Rows
end Go.Proofs.YtlohppddhbimnaaDoor
