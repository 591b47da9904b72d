/-
  NARROWER THAN 'FOR EVERY INPUT', by the rows' own cells (each row's printed sentence says how): AlgebraMac: laid · AlgebraLook: laid · AlgebraFound: laid · AlgebraStays: laid · AlgebraKey: laid · AlgebraFree: laid · BoxSeal: laid · BoxOpen: laid · BoxBack: laid · BoxFree: laid · FeedCheck: laid · FeedFree: laid · FeedSign: laid.
  DERIVED. THE GIVEN ROWS OF THIS SEAT. 13 by the template 'for every input the law returns true; each argument reads behind the call as it read before'; 0 by the template 'total and deterministic' (their statements: YtiekhjbhlekaeaaDoorTotals.lean).
  GIVEN WITH THE SEED: the statements are not yours to turn. If you find one false, say at which input.
  Laid BY PROGRAM, IN A SANDBOX (cutbox-rows.mjs): the forced cells as the released guide's own fill.sh prints them over the translation b5a7123bd701fe0e… (all of the seat's roots in one cut). By AI agents, Wed Nov 11 2026. No macro, syntax, notation, axiom, sorry.
-/
import Derived.Test.YtiekhjbhlekaeaaDoorChecked
import GoSem.Claim
import GoSem.ClaimJoined
import GoSem.ClaimMapViews
import Derived.JoinedTies
import Derived.KernelRfl
namespace Go.Proofs.YtiekhjbhlekaeaaDoor
/- THE CELL 'sum', in the pinned program and in every row, IS THE sha256 OF THE DUMP (.gsa) THAT YtiekhjbhlekaeaaDoorProg.lean LOADS. Nothing in Lean hashes anything: it is a label: what it is worth is what the hold of that sum in a sandbox is worth. -/
noncomputable def Tryd.pinned : Pinned := { name := "ytiekhjbhlekaeaadoor", sum := "b5a7123bd701fe0ecddd1d04f39e18bc5f4c97da33b5ab4025b6a2b0311a2fb8", checked := Tryd.checked }
namespace Rows
def none {H : Type} : Left H := { results := [], args := [] }

/- WHAT THE LISTED PACKAGE-LEVEL VARIABLES READ AS WHEN THE CALL BEGINS. Each datum BY PROGRAM (the guide's laid-datum.mjs) off the statement by which the dump's own 'gosem.cut.vars' lays the variable. In a bare row this is a premise. The card (YtiekhjbhlekaeaaDoorCards.lean) ties it to the program's text. -/
def laid_macaroon_sha_k {H : Type} : DataW H := .agg [.lit (.int .u32 1116352408), .lit (.int .u32 1899447441), .lit (.int .u32 3049323471), .lit (.int .u32 3921009573), .lit (.int .u32 961987163), .lit (.int .u32 1508970993), .lit (.int .u32 2453635748), .lit (.int .u32 2870763221), .lit (.int .u32 3624381080), .lit (.int .u32 310598401), .lit (.int .u32 607225278), .lit (.int .u32 1426881987), .lit (.int .u32 1925078388), .lit (.int .u32 2162078206), .lit (.int .u32 2614888103), .lit (.int .u32 3248222580), .lit (.int .u32 3835390401), .lit (.int .u32 4022224774), .lit (.int .u32 264347078), .lit (.int .u32 604807628), .lit (.int .u32 770255983), .lit (.int .u32 1249150122), .lit (.int .u32 1555081692), .lit (.int .u32 1996064986), .lit (.int .u32 2554220882), .lit (.int .u32 2821834349), .lit (.int .u32 2952996808), .lit (.int .u32 3210313671), .lit (.int .u32 3336571891), .lit (.int .u32 3584528711), .lit (.int .u32 113926993), .lit (.int .u32 338241895), .lit (.int .u32 666307205), .lit (.int .u32 773529912), .lit (.int .u32 1294757372), .lit (.int .u32 1396182291), .lit (.int .u32 1695183700), .lit (.int .u32 1986661051), .lit (.int .u32 2177026350), .lit (.int .u32 2456956037), .lit (.int .u32 2730485921), .lit (.int .u32 2820302411), .lit (.int .u32 3259730800), .lit (.int .u32 3345764771), .lit (.int .u32 3516065817), .lit (.int .u32 3600352804), .lit (.int .u32 4094571909), .lit (.int .u32 275423344), .lit (.int .u32 430227734), .lit (.int .u32 506948616), .lit (.int .u32 659060556), .lit (.int .u32 883997877), .lit (.int .u32 958139571), .lit (.int .u32 1322822218), .lit (.int .u32 1537002063), .lit (.int .u32 1747873779), .lit (.int .u32 1955562222), .lit (.int .u32 2024104815), .lit (.int .u32 2227730452), .lit (.int .u32 2361852424), .lit (.int .u32 2428436474), .lit (.int .u32 2756734187), .lit (.int .u32 3204031479), .lit (.int .u32 3329325298)]

/-- 'macaroonlaw10.AlgebraMac': WHATEVER THE INPUT: true; the input reads as it did. -/
def algebraMacSpec : ChangeSpec := { name := "algebraMac", fn := fun _ => fun
  | [d1, d2, d3] => { results := [.lit (.bool true)], args := [d1, d2, d3] }
  | _ => none }
def algebraMacRow : OpenClaim := { program := "ytiekhjbhlekaeaadoor", sum := "b5a7123bd701fe0ecddd1d04f39e18bc5f4c97da33b5ab4025b6a2b0311a2fb8", func := "macaroon/macaroonlaw10.AlgebraMac", spec := "algebraMac", unfollowed := true, recurses := true, named := ["macaroon/sha.k"], apart := false, laid := [("macaroon/sha.k", laid_macaroon_sha_k)] }
def AlgebraMacSaid : Prop := algebraMacRow.holds Tryd.pinned (OpenSpec.ofChange algebraMacSpec)

/-- ITS FALSE NEIGHBOUR: 'it returns false'. Refute it at one input. -/
def algebraMacWrong : ChangeSpec := { name := "algebraMac", fn := fun _ => fun
  | [d1, d2, d3] => { results := [.lit (.bool false)], args := [d1, d2, d3] }
  | _ => none }
def AlgebraMacWrongFalsely : Prop := algebraMacRow.holds Tryd.pinned (OpenSpec.ofChange algebraMacWrong)

/-- 'macaroonlaw10.AlgebraLook': WHATEVER THE INPUT: true; the input reads as it did. -/
def algebraLookSpec : ChangeSpec := { name := "algebraLook", fn := fun _ => fun
  | [d1, d2, d3] => { results := [.lit (.bool true)], args := [d1, d2, d3] }
  | _ => none }
def algebraLookRow : OpenClaim := { program := "ytiekhjbhlekaeaadoor", sum := "b5a7123bd701fe0ecddd1d04f39e18bc5f4c97da33b5ab4025b6a2b0311a2fb8", func := "macaroon/macaroonlaw10.AlgebraLook", spec := "algebraLook", unfollowed := true, recurses := true, named := ["macaroon/sha.k"], apart := false, laid := [("macaroon/sha.k", laid_macaroon_sha_k)] }
def AlgebraLookSaid : Prop := algebraLookRow.holds Tryd.pinned (OpenSpec.ofChange algebraLookSpec)

/-- ITS FALSE NEIGHBOUR: 'it returns false'. Refute it at one input. -/
def algebraLookWrong : ChangeSpec := { name := "algebraLook", fn := fun _ => fun
  | [d1, d2, d3] => { results := [.lit (.bool false)], args := [d1, d2, d3] }
  | _ => none }
def AlgebraLookWrongFalsely : Prop := algebraLookRow.holds Tryd.pinned (OpenSpec.ofChange algebraLookWrong)

/-- 'macaroonlaw10.AlgebraFound': WHATEVER THE INPUT: true; the input reads as it did. -/
def algebraFoundSpec : ChangeSpec := { name := "algebraFound", fn := fun _ => fun
  | [d1, d2] => { results := [.lit (.bool true)], args := [d1, d2] }
  | _ => none }
def algebraFoundRow : OpenClaim := { program := "ytiekhjbhlekaeaadoor", sum := "b5a7123bd701fe0ecddd1d04f39e18bc5f4c97da33b5ab4025b6a2b0311a2fb8", func := "macaroon/macaroonlaw10.AlgebraFound", spec := "algebraFound", unfollowed := true, recurses := true, named := ["macaroon/sha.k"], apart := false, laid := [("macaroon/sha.k", laid_macaroon_sha_k)] }
def AlgebraFoundSaid : Prop := algebraFoundRow.holds Tryd.pinned (OpenSpec.ofChange algebraFoundSpec)

/-- ITS FALSE NEIGHBOUR: 'it returns false'. Refute it at one input. -/
def algebraFoundWrong : ChangeSpec := { name := "algebraFound", fn := fun _ => fun
  | [d1, d2] => { results := [.lit (.bool false)], args := [d1, d2] }
  | _ => none }
def AlgebraFoundWrongFalsely : Prop := algebraFoundRow.holds Tryd.pinned (OpenSpec.ofChange algebraFoundWrong)

/-- 'macaroonlaw10.AlgebraStays': WHATEVER THE INPUT: true; the input reads as it did. -/
def algebraStaysSpec : ChangeSpec := { name := "algebraStays", fn := fun _ => fun
  | [d1, d2, d3] => { results := [.lit (.bool true)], args := [d1, d2, d3] }
  | _ => none }
def algebraStaysRow : OpenClaim := { program := "ytiekhjbhlekaeaadoor", sum := "b5a7123bd701fe0ecddd1d04f39e18bc5f4c97da33b5ab4025b6a2b0311a2fb8", func := "macaroon/macaroonlaw10.AlgebraStays", spec := "algebraStays", unfollowed := true, recurses := true, named := ["macaroon/sha.k"], apart := false, laid := [("macaroon/sha.k", laid_macaroon_sha_k)] }
def AlgebraStaysSaid : Prop := algebraStaysRow.holds Tryd.pinned (OpenSpec.ofChange algebraStaysSpec)

/-- ITS FALSE NEIGHBOUR: 'it returns false'. Refute it at one input. -/
def algebraStaysWrong : ChangeSpec := { name := "algebraStays", fn := fun _ => fun
  | [d1, d2, d3] => { results := [.lit (.bool false)], args := [d1, d2, d3] }
  | _ => none }
def AlgebraStaysWrongFalsely : Prop := algebraStaysRow.holds Tryd.pinned (OpenSpec.ofChange algebraStaysWrong)

/-- 'macaroonlaw10.AlgebraKey': WHATEVER THE INPUT: true; the input reads as it did. -/
def algebraKeySpec : ChangeSpec := { name := "algebraKey", fn := fun _ => fun
  | [d1, d2, d3, d4, d5] => { results := [.lit (.bool true)], args := [d1, d2, d3, d4, d5] }
  | _ => none }
def algebraKeyRow : OpenClaim := { program := "ytiekhjbhlekaeaadoor", sum := "b5a7123bd701fe0ecddd1d04f39e18bc5f4c97da33b5ab4025b6a2b0311a2fb8", func := "macaroon/macaroonlaw10.AlgebraKey", spec := "algebraKey", unfollowed := true, recurses := true, named := ["macaroon/sha.k"], apart := false, laid := [("macaroon/sha.k", laid_macaroon_sha_k)] }
def AlgebraKeySaid : Prop := algebraKeyRow.holds Tryd.pinned (OpenSpec.ofChange algebraKeySpec)

/-- ITS FALSE NEIGHBOUR: 'it returns false'. Refute it at one input. -/
def algebraKeyWrong : ChangeSpec := { name := "algebraKey", fn := fun _ => fun
  | [d1, d2, d3, d4, d5] => { results := [.lit (.bool false)], args := [d1, d2, d3, d4, d5] }
  | _ => none }
def AlgebraKeyWrongFalsely : Prop := algebraKeyRow.holds Tryd.pinned (OpenSpec.ofChange algebraKeyWrong)

/-- 'macaroonlaw10.AlgebraFree': WHATEVER THE INPUT: true; the input reads as it did. -/
def algebraFreeSpec : ChangeSpec := { name := "algebraFree", fn := fun _ => fun
  | [d1, d2, d3] => { results := [.lit (.bool true)], args := [d1, d2, d3] }
  | _ => none }
def algebraFreeRow : OpenClaim := { program := "ytiekhjbhlekaeaadoor", sum := "b5a7123bd701fe0ecddd1d04f39e18bc5f4c97da33b5ab4025b6a2b0311a2fb8", func := "macaroon/macaroonlaw10.AlgebraFree", spec := "algebraFree", unfollowed := true, recurses := true, named := ["macaroon/sha.k"], apart := false, laid := [("macaroon/sha.k", laid_macaroon_sha_k)] }
def AlgebraFreeSaid : Prop := algebraFreeRow.holds Tryd.pinned (OpenSpec.ofChange algebraFreeSpec)

/-- ITS FALSE NEIGHBOUR: 'it returns false'. Refute it at one input. -/
def algebraFreeWrong : ChangeSpec := { name := "algebraFree", fn := fun _ => fun
  | [d1, d2, d3] => { results := [.lit (.bool false)], args := [d1, d2, d3] }
  | _ => none }
def AlgebraFreeWrongFalsely : Prop := algebraFreeRow.holds Tryd.pinned (OpenSpec.ofChange algebraFreeWrong)

/-- 'macaroonlaw11.BoxSeal': WHATEVER THE INPUT: true; the input reads as it did. -/
def boxSealSpec : ChangeSpec := { name := "boxSeal", fn := fun _ => fun
  | [d1, d2, d3, d4] => { results := [.lit (.bool true)], args := [d1, d2, d3, d4] }
  | _ => none }
def boxSealRow : OpenClaim := { program := "ytiekhjbhlekaeaadoor", sum := "b5a7123bd701fe0ecddd1d04f39e18bc5f4c97da33b5ab4025b6a2b0311a2fb8", func := "macaroon/macaroonlaw11.BoxSeal", spec := "boxSeal", unfollowed := true, recurses := true, named := ["macaroon/sha.k"], apart := false, laid := [("macaroon/sha.k", laid_macaroon_sha_k)] }
def BoxSealSaid : Prop := boxSealRow.holds Tryd.pinned (OpenSpec.ofChange boxSealSpec)

/-- ITS FALSE NEIGHBOUR: 'it returns false'. Refute it at one input. -/
def boxSealWrong : ChangeSpec := { name := "boxSeal", fn := fun _ => fun
  | [d1, d2, d3, d4] => { results := [.lit (.bool false)], args := [d1, d2, d3, d4] }
  | _ => none }
def BoxSealWrongFalsely : Prop := boxSealRow.holds Tryd.pinned (OpenSpec.ofChange boxSealWrong)

/-- 'macaroonlaw11.BoxOpen': WHATEVER THE INPUT: true; the input reads as it did. -/
def boxOpenSpec : ChangeSpec := { name := "boxOpen", fn := fun _ => fun
  | [d1, d2, d3, d4, d5, d6] => { results := [.lit (.bool true)], args := [d1, d2, d3, d4, d5, d6] }
  | _ => none }
def boxOpenRow : OpenClaim := { program := "ytiekhjbhlekaeaadoor", sum := "b5a7123bd701fe0ecddd1d04f39e18bc5f4c97da33b5ab4025b6a2b0311a2fb8", func := "macaroon/macaroonlaw11.BoxOpen", spec := "boxOpen", unfollowed := true, recurses := true, named := ["macaroon/sha.k"], apart := false, laid := [("macaroon/sha.k", laid_macaroon_sha_k)] }
def BoxOpenSaid : Prop := boxOpenRow.holds Tryd.pinned (OpenSpec.ofChange boxOpenSpec)

/-- ITS FALSE NEIGHBOUR: 'it returns false'. Refute it at one input. -/
def boxOpenWrong : ChangeSpec := { name := "boxOpen", fn := fun _ => fun
  | [d1, d2, d3, d4, d5, d6] => { results := [.lit (.bool false)], args := [d1, d2, d3, d4, d5, d6] }
  | _ => none }
def BoxOpenWrongFalsely : Prop := boxOpenRow.holds Tryd.pinned (OpenSpec.ofChange boxOpenWrong)

/-- 'macaroonlaw11.BoxBack': WHATEVER THE INPUT: true; the input reads as it did. -/
def boxBackSpec : ChangeSpec := { name := "boxBack", fn := fun _ => fun
  | [d1, d2, d3] => { results := [.lit (.bool true)], args := [d1, d2, d3] }
  | _ => none }
def boxBackRow : OpenClaim := { program := "ytiekhjbhlekaeaadoor", sum := "b5a7123bd701fe0ecddd1d04f39e18bc5f4c97da33b5ab4025b6a2b0311a2fb8", func := "macaroon/macaroonlaw11.BoxBack", spec := "boxBack", unfollowed := true, recurses := true, named := ["macaroon/sha.k"], apart := false, laid := [("macaroon/sha.k", laid_macaroon_sha_k)] }
def BoxBackSaid : Prop := boxBackRow.holds Tryd.pinned (OpenSpec.ofChange boxBackSpec)

/-- ITS FALSE NEIGHBOUR: 'it returns false'. Refute it at one input. -/
def boxBackWrong : ChangeSpec := { name := "boxBack", fn := fun _ => fun
  | [d1, d2, d3] => { results := [.lit (.bool false)], args := [d1, d2, d3] }
  | _ => none }
def BoxBackWrongFalsely : Prop := boxBackRow.holds Tryd.pinned (OpenSpec.ofChange boxBackWrong)

/-- 'macaroonlaw11.BoxFree': WHATEVER THE INPUT: true; the input reads as it did. -/
def boxFreeSpec : ChangeSpec := { name := "boxFree", fn := fun _ => fun
  | [d1, d2, d3] => { results := [.lit (.bool true)], args := [d1, d2, d3] }
  | _ => none }
def boxFreeRow : OpenClaim := { program := "ytiekhjbhlekaeaadoor", sum := "b5a7123bd701fe0ecddd1d04f39e18bc5f4c97da33b5ab4025b6a2b0311a2fb8", func := "macaroon/macaroonlaw11.BoxFree", spec := "boxFree", unfollowed := true, recurses := true, named := ["macaroon/sha.k"], apart := false, laid := [("macaroon/sha.k", laid_macaroon_sha_k)] }
def BoxFreeSaid : Prop := boxFreeRow.holds Tryd.pinned (OpenSpec.ofChange boxFreeSpec)

/-- ITS FALSE NEIGHBOUR: 'it returns false'. Refute it at one input. -/
def boxFreeWrong : ChangeSpec := { name := "boxFree", fn := fun _ => fun
  | [d1, d2, d3] => { results := [.lit (.bool false)], args := [d1, d2, d3] }
  | _ => none }
def BoxFreeWrongFalsely : Prop := boxFreeRow.holds Tryd.pinned (OpenSpec.ofChange boxFreeWrong)

/-- 'macaroonlaw24.FeedCheck': WHATEVER THE INPUT: true; the input reads as it did. -/
def feedCheckSpec : ChangeSpec := { name := "feedCheck", fn := fun _ => fun
  | [d1, d2, d3, d4] => { results := [.lit (.bool true)], args := [d1, d2, d3, d4] }
  | _ => none }
def feedCheckRow : OpenClaim := { program := "ytiekhjbhlekaeaadoor", sum := "b5a7123bd701fe0ecddd1d04f39e18bc5f4c97da33b5ab4025b6a2b0311a2fb8", func := "macaroon/macaroonlaw24.FeedCheck", spec := "feedCheck", inPlace := ["internal/bytealg.MakeNoZero"], unfollowed := true, recurses := true, named := ["macaroon/sha.k"], apart := false, laid := [("macaroon/sha.k", laid_macaroon_sha_k)] }
def FeedCheckSaid : Prop := feedCheckRow.holds Tryd.pinned (OpenSpec.ofChange feedCheckSpec)

/-- ITS FALSE NEIGHBOUR: 'it returns false'. Refute it at one input. -/
def feedCheckWrong : ChangeSpec := { name := "feedCheck", fn := fun _ => fun
  | [d1, d2, d3, d4] => { results := [.lit (.bool false)], args := [d1, d2, d3, d4] }
  | _ => none }
def FeedCheckWrongFalsely : Prop := feedCheckRow.holds Tryd.pinned (OpenSpec.ofChange feedCheckWrong)

/-- 'macaroonlaw24.FeedFree': WHATEVER THE INPUT: true; the input reads as it did. -/
def feedFreeSpec : ChangeSpec := { name := "feedFree", fn := fun _ => fun
  | [d1, d2, d3, d4, d5] => { results := [.lit (.bool true)], args := [d1, d2, d3, d4, d5] }
  | _ => none }
def feedFreeRow : OpenClaim := { program := "ytiekhjbhlekaeaadoor", sum := "b5a7123bd701fe0ecddd1d04f39e18bc5f4c97da33b5ab4025b6a2b0311a2fb8", func := "macaroon/macaroonlaw24.FeedFree", spec := "feedFree", inPlace := ["internal/bytealg.MakeNoZero"], unfollowed := true, recurses := true, named := ["macaroon/sha.k"], apart := false, laid := [("macaroon/sha.k", laid_macaroon_sha_k)] }
def FeedFreeSaid : Prop := feedFreeRow.holds Tryd.pinned (OpenSpec.ofChange feedFreeSpec)

/-- ITS FALSE NEIGHBOUR: 'it returns false'. Refute it at one input. -/
def feedFreeWrong : ChangeSpec := { name := "feedFree", fn := fun _ => fun
  | [d1, d2, d3, d4, d5] => { results := [.lit (.bool false)], args := [d1, d2, d3, d4, d5] }
  | _ => none }
def FeedFreeWrongFalsely : Prop := feedFreeRow.holds Tryd.pinned (OpenSpec.ofChange feedFreeWrong)

/-- 'macaroonlaw24.FeedSign': WHATEVER THE INPUT: true; the input reads as it did. -/
def feedSignSpec : ChangeSpec := { name := "feedSign", fn := fun _ => fun
  | [d1, d2, d3, d4] => { results := [.lit (.bool true)], args := [d1, d2, d3, d4] }
  | _ => none }
def feedSignRow : OpenClaim := { program := "ytiekhjbhlekaeaadoor", sum := "b5a7123bd701fe0ecddd1d04f39e18bc5f4c97da33b5ab4025b6a2b0311a2fb8", func := "macaroon/macaroonlaw24.FeedSign", spec := "feedSign", inPlace := ["internal/bytealg.MakeNoZero"], unfollowed := true, recurses := true, named := ["macaroon/sha.k"], apart := false, laid := [("macaroon/sha.k", laid_macaroon_sha_k)] }
def FeedSignSaid : Prop := feedSignRow.holds Tryd.pinned (OpenSpec.ofChange feedSignSpec)

/-- ITS FALSE NEIGHBOUR: 'it returns false'. Refute it at one input. -/
def feedSignWrong : ChangeSpec := { name := "feedSign", fn := fun _ => fun
  | [d1, d2, d3, d4] => { results := [.lit (.bool false)], args := [d1, d2, d3, d4] }
  | _ => none }
def FeedSignWrongFalsely : Prop := feedSignRow.holds Tryd.pinned (OpenSpec.ofChange feedSignWrong)

/- THE SECOND FORM. 'bulk': how many values and letters a reading holds, each counted each time it is reached (what is shared counts as often as it is met; a slice's spare places count too). A statement '..UptoSaid' is the law's where the arguments, and the package variables that the reading takes, are together of bulk at most 1048576: NARROWER than '..Said'. Prove '..Said' where nothing that the law and all that it calls make is longer than what came in: it says more and counts as full. Else prove '..UptoSaid'. A law counts once. -/
mutual
def uptoBulk {H : Type} : DataW H → Nat
  | .lit (.string bytes) => bytes.length + 1
  | .lit _ => 1
  | .nil => 1
  | .ptr d => uptoBulk d + 1
  | .slice elems spare => uptoBulkAll elems + uptoBulkAll spare + 1
  | .agg parts => uptoBulkAll parts + 1
  | .iface _ d => uptoBulk d + 1
  | .map entries => uptoBulkEntries entries + 1
  | .held _ => 1
def uptoBulkAll {H : Type} : List (DataW H) → Nat
  | [] => 0
  | d :: r => uptoBulk d + uptoBulkAll r
def uptoBulkEntries {H : Type} : List (Lit × DataW H) → Nat
  | [] => 0
  | x :: r => uptoBulkEntry x + uptoBulkEntries r
def uptoBulkEntry {H : Type} : Lit × DataW H → Nat
  | (.string bytes, d) => bytes.length + uptoBulk d + 1
  | (_, d) => uptoBulk d + 1
 end
def uptoSmall : (H : Type) → List (DataW H) → Bool := fun _ ds => decide (uptoBulkAll ds ≤ 1048576)
def OpenSpec.upto (s : _root_.Go.ChangeSpec) : _root_.Go.OpenSpec := { _root_.Go.OpenSpec.ofChange s with cond := some uptoSmall }

/-- 'macaroonlaw10.AlgebraMac', WHERE WHAT IT READS IS OF BULK AT MOST 1048576: true; the input reads as it did. -/
def algebraMacUptoRow : OpenClaim := { program := "ytiekhjbhlekaeaadoor", sum := "b5a7123bd701fe0ecddd1d04f39e18bc5f4c97da33b5ab4025b6a2b0311a2fb8", func := "macaroon/macaroonlaw10.AlgebraMac", spec := "algebraMac", unfollowed := true, recurses := true, named := ["macaroon/sha.k"], apart := false, laid := [("macaroon/sha.k", laid_macaroon_sha_k)], narrowed := true }
def AlgebraMacUptoSaid : Prop := algebraMacUptoRow.holds Tryd.pinned (OpenSpec.upto algebraMacSpec)

/-- 'macaroonlaw10.AlgebraLook', WHERE WHAT IT READS IS OF BULK AT MOST 1048576: true; the input reads as it did. -/
def algebraLookUptoRow : OpenClaim := { program := "ytiekhjbhlekaeaadoor", sum := "b5a7123bd701fe0ecddd1d04f39e18bc5f4c97da33b5ab4025b6a2b0311a2fb8", func := "macaroon/macaroonlaw10.AlgebraLook", spec := "algebraLook", unfollowed := true, recurses := true, named := ["macaroon/sha.k"], apart := false, laid := [("macaroon/sha.k", laid_macaroon_sha_k)], narrowed := true }
def AlgebraLookUptoSaid : Prop := algebraLookUptoRow.holds Tryd.pinned (OpenSpec.upto algebraLookSpec)

/-- 'macaroonlaw10.AlgebraFound', WHERE WHAT IT READS IS OF BULK AT MOST 1048576: true; the input reads as it did. -/
def algebraFoundUptoRow : OpenClaim := { program := "ytiekhjbhlekaeaadoor", sum := "b5a7123bd701fe0ecddd1d04f39e18bc5f4c97da33b5ab4025b6a2b0311a2fb8", func := "macaroon/macaroonlaw10.AlgebraFound", spec := "algebraFound", unfollowed := true, recurses := true, named := ["macaroon/sha.k"], apart := false, laid := [("macaroon/sha.k", laid_macaroon_sha_k)], narrowed := true }
def AlgebraFoundUptoSaid : Prop := algebraFoundUptoRow.holds Tryd.pinned (OpenSpec.upto algebraFoundSpec)

/-- 'macaroonlaw10.AlgebraStays', WHERE WHAT IT READS IS OF BULK AT MOST 1048576: true; the input reads as it did. -/
def algebraStaysUptoRow : OpenClaim := { program := "ytiekhjbhlekaeaadoor", sum := "b5a7123bd701fe0ecddd1d04f39e18bc5f4c97da33b5ab4025b6a2b0311a2fb8", func := "macaroon/macaroonlaw10.AlgebraStays", spec := "algebraStays", unfollowed := true, recurses := true, named := ["macaroon/sha.k"], apart := false, laid := [("macaroon/sha.k", laid_macaroon_sha_k)], narrowed := true }
def AlgebraStaysUptoSaid : Prop := algebraStaysUptoRow.holds Tryd.pinned (OpenSpec.upto algebraStaysSpec)

/-- 'macaroonlaw10.AlgebraKey', WHERE WHAT IT READS IS OF BULK AT MOST 1048576: true; the input reads as it did. -/
def algebraKeyUptoRow : OpenClaim := { program := "ytiekhjbhlekaeaadoor", sum := "b5a7123bd701fe0ecddd1d04f39e18bc5f4c97da33b5ab4025b6a2b0311a2fb8", func := "macaroon/macaroonlaw10.AlgebraKey", spec := "algebraKey", unfollowed := true, recurses := true, named := ["macaroon/sha.k"], apart := false, laid := [("macaroon/sha.k", laid_macaroon_sha_k)], narrowed := true }
def AlgebraKeyUptoSaid : Prop := algebraKeyUptoRow.holds Tryd.pinned (OpenSpec.upto algebraKeySpec)

/-- 'macaroonlaw10.AlgebraFree', WHERE WHAT IT READS IS OF BULK AT MOST 1048576: true; the input reads as it did. -/
def algebraFreeUptoRow : OpenClaim := { program := "ytiekhjbhlekaeaadoor", sum := "b5a7123bd701fe0ecddd1d04f39e18bc5f4c97da33b5ab4025b6a2b0311a2fb8", func := "macaroon/macaroonlaw10.AlgebraFree", spec := "algebraFree", unfollowed := true, recurses := true, named := ["macaroon/sha.k"], apart := false, laid := [("macaroon/sha.k", laid_macaroon_sha_k)], narrowed := true }
def AlgebraFreeUptoSaid : Prop := algebraFreeUptoRow.holds Tryd.pinned (OpenSpec.upto algebraFreeSpec)

/-- 'macaroonlaw11.BoxSeal', WHERE WHAT IT READS IS OF BULK AT MOST 1048576: true; the input reads as it did. -/
def boxSealUptoRow : OpenClaim := { program := "ytiekhjbhlekaeaadoor", sum := "b5a7123bd701fe0ecddd1d04f39e18bc5f4c97da33b5ab4025b6a2b0311a2fb8", func := "macaroon/macaroonlaw11.BoxSeal", spec := "boxSeal", unfollowed := true, recurses := true, named := ["macaroon/sha.k"], apart := false, laid := [("macaroon/sha.k", laid_macaroon_sha_k)], narrowed := true }
def BoxSealUptoSaid : Prop := boxSealUptoRow.holds Tryd.pinned (OpenSpec.upto boxSealSpec)

/-- 'macaroonlaw11.BoxOpen', WHERE WHAT IT READS IS OF BULK AT MOST 1048576: true; the input reads as it did. -/
def boxOpenUptoRow : OpenClaim := { program := "ytiekhjbhlekaeaadoor", sum := "b5a7123bd701fe0ecddd1d04f39e18bc5f4c97da33b5ab4025b6a2b0311a2fb8", func := "macaroon/macaroonlaw11.BoxOpen", spec := "boxOpen", unfollowed := true, recurses := true, named := ["macaroon/sha.k"], apart := false, laid := [("macaroon/sha.k", laid_macaroon_sha_k)], narrowed := true }
def BoxOpenUptoSaid : Prop := boxOpenUptoRow.holds Tryd.pinned (OpenSpec.upto boxOpenSpec)

/-- 'macaroonlaw11.BoxBack', WHERE WHAT IT READS IS OF BULK AT MOST 1048576: true; the input reads as it did. -/
def boxBackUptoRow : OpenClaim := { program := "ytiekhjbhlekaeaadoor", sum := "b5a7123bd701fe0ecddd1d04f39e18bc5f4c97da33b5ab4025b6a2b0311a2fb8", func := "macaroon/macaroonlaw11.BoxBack", spec := "boxBack", unfollowed := true, recurses := true, named := ["macaroon/sha.k"], apart := false, laid := [("macaroon/sha.k", laid_macaroon_sha_k)], narrowed := true }
def BoxBackUptoSaid : Prop := boxBackUptoRow.holds Tryd.pinned (OpenSpec.upto boxBackSpec)

/-- 'macaroonlaw11.BoxFree', WHERE WHAT IT READS IS OF BULK AT MOST 1048576: true; the input reads as it did. -/
def boxFreeUptoRow : OpenClaim := { program := "ytiekhjbhlekaeaadoor", sum := "b5a7123bd701fe0ecddd1d04f39e18bc5f4c97da33b5ab4025b6a2b0311a2fb8", func := "macaroon/macaroonlaw11.BoxFree", spec := "boxFree", unfollowed := true, recurses := true, named := ["macaroon/sha.k"], apart := false, laid := [("macaroon/sha.k", laid_macaroon_sha_k)], narrowed := true }
def BoxFreeUptoSaid : Prop := boxFreeUptoRow.holds Tryd.pinned (OpenSpec.upto boxFreeSpec)

/-- 'macaroonlaw24.FeedCheck', WHERE WHAT IT READS IS OF BULK AT MOST 1048576: true; the input reads as it did. -/
def feedCheckUptoRow : OpenClaim := { program := "ytiekhjbhlekaeaadoor", sum := "b5a7123bd701fe0ecddd1d04f39e18bc5f4c97da33b5ab4025b6a2b0311a2fb8", func := "macaroon/macaroonlaw24.FeedCheck", spec := "feedCheck", inPlace := ["internal/bytealg.MakeNoZero"], unfollowed := true, recurses := true, named := ["macaroon/sha.k"], apart := false, laid := [("macaroon/sha.k", laid_macaroon_sha_k)], narrowed := true }
def FeedCheckUptoSaid : Prop := feedCheckUptoRow.holds Tryd.pinned (OpenSpec.upto feedCheckSpec)

/-- 'macaroonlaw24.FeedFree', WHERE WHAT IT READS IS OF BULK AT MOST 1048576: true; the input reads as it did. -/
def feedFreeUptoRow : OpenClaim := { program := "ytiekhjbhlekaeaadoor", sum := "b5a7123bd701fe0ecddd1d04f39e18bc5f4c97da33b5ab4025b6a2b0311a2fb8", func := "macaroon/macaroonlaw24.FeedFree", spec := "feedFree", inPlace := ["internal/bytealg.MakeNoZero"], unfollowed := true, recurses := true, named := ["macaroon/sha.k"], apart := false, laid := [("macaroon/sha.k", laid_macaroon_sha_k)], narrowed := true }
def FeedFreeUptoSaid : Prop := feedFreeUptoRow.holds Tryd.pinned (OpenSpec.upto feedFreeSpec)

/-- 'macaroonlaw24.FeedSign', WHERE WHAT IT READS IS OF BULK AT MOST 1048576: true; the input reads as it did. -/
def feedSignUptoRow : OpenClaim := { program := "ytiekhjbhlekaeaadoor", sum := "b5a7123bd701fe0ecddd1d04f39e18bc5f4c97da33b5ab4025b6a2b0311a2fb8", func := "macaroon/macaroonlaw24.FeedSign", spec := "feedSign", inPlace := ["internal/bytealg.MakeNoZero"], unfollowed := true, recurses := true, named := ["macaroon/sha.k"], apart := false, laid := [("macaroon/sha.k", laid_macaroon_sha_k)], narrowed := true }
def FeedSignUptoSaid : Prop := feedSignUptoRow.holds Tryd.pinned (OpenSpec.upto feedSignSpec)

end Rows
end Go.Proofs.YtiekhjbhlekaeaaDoor
