/-
  NARROWER THAN 'FOR EVERY INPUT', by the rows' own cells (each row's printed sentence says how): ShaSteps: laid · ShaOne: laid · ShaTwo: laid · ShaHashes: laid · ShaHex: laid · ShaParts: laid · ShaNil: laid · MacParts: laid · MacSums: laid · MacRight: laid · MacMakers: laid · MacNil: laid.
  DERIVED. THE GIVEN ROWS OF THIS SEAT. 12 by the template 'for every input the law returns true; each argument reads behind the call as it read before'; 0 by the template 'total and deterministic' (their statements: YtgofnkpegfkonaaDoorTotals.lean).
  GIVEN WITH THE SEED: the statements are not yours to turn. If you find one false, say at which input.
  Laid BY PROGRAM, IN A SANDBOX (cutbox-rows.mjs): the forced cells as the released guide's own fill.sh prints them over the translation f9681ce83132baea… (all of the seat's roots in one cut). By AI agents, Wed Nov 11 2026. No macro, syntax, notation, axiom, sorry.
-/
import Derived.Test.YtgofnkpegfkonaaDoorChecked
import GoSem.Claim
import GoSem.ClaimJoined
import GoSem.ClaimMapViews
import Derived.JoinedTies
import Derived.KernelRfl
namespace Go.Proofs.YtgofnkpegfkonaaDoor
/- THE CELL 'sum', in the pinned program and in every row, IS THE sha256 OF THE DUMP (.gsa) THAT YtgofnkpegfkonaaDoorProg.lean LOADS. Nothing in Lean hashes anything: it is a label: what it is worth is what the hold of that sum in a sandbox is worth. -/
noncomputable def Tryd.pinned : Pinned := { name := "ytgofnkpegfkonaadoor", sum := "f9681ce83132baea35bfdddf1d32499667a823f1cf3aa313b4fb51c95563d78d", checked := Tryd.checked }
namespace Rows
def none {H : Type} : Left H := { results := [], args := [] }

/- WHAT THE LISTED PACKAGE-LEVEL VARIABLES READ AS WHEN THE CALL BEGINS. Each datum BY PROGRAM (the guide's laid-datum.mjs) off the statement by which the dump's own 'gosem.cut.vars' lays the variable. In a bare row this is a premise. The card (YtgofnkpegfkonaaDoorCards.lean) ties it to the program's text. -/
def laid_scrinium_sha_keys {H : Type} : DataW H := .agg [.lit (.int .u32 1116352408), .lit (.int .u32 1899447441), .lit (.int .u32 3049323471), .lit (.int .u32 3921009573), .lit (.int .u32 961987163), .lit (.int .u32 1508970993), .lit (.int .u32 2453635748), .lit (.int .u32 2870763221), .lit (.int .u32 3624381080), .lit (.int .u32 310598401), .lit (.int .u32 607225278), .lit (.int .u32 1426881987), .lit (.int .u32 1925078388), .lit (.int .u32 2162078206), .lit (.int .u32 2614888103), .lit (.int .u32 3248222580), .lit (.int .u32 3835390401), .lit (.int .u32 4022224774), .lit (.int .u32 264347078), .lit (.int .u32 604807628), .lit (.int .u32 770255983), .lit (.int .u32 1249150122), .lit (.int .u32 1555081692), .lit (.int .u32 1996064986), .lit (.int .u32 2554220882), .lit (.int .u32 2821834349), .lit (.int .u32 2952996808), .lit (.int .u32 3210313671), .lit (.int .u32 3336571891), .lit (.int .u32 3584528711), .lit (.int .u32 113926993), .lit (.int .u32 338241895), .lit (.int .u32 666307205), .lit (.int .u32 773529912), .lit (.int .u32 1294757372), .lit (.int .u32 1396182291), .lit (.int .u32 1695183700), .lit (.int .u32 1986661051), .lit (.int .u32 2177026350), .lit (.int .u32 2456956037), .lit (.int .u32 2730485921), .lit (.int .u32 2820302411), .lit (.int .u32 3259730800), .lit (.int .u32 3345764771), .lit (.int .u32 3516065817), .lit (.int .u32 3600352804), .lit (.int .u32 4094571909), .lit (.int .u32 275423344), .lit (.int .u32 430227734), .lit (.int .u32 506948616), .lit (.int .u32 659060556), .lit (.int .u32 883997877), .lit (.int .u32 958139571), .lit (.int .u32 1322822218), .lit (.int .u32 1537002063), .lit (.int .u32 1747873779), .lit (.int .u32 1955562222), .lit (.int .u32 2024104815), .lit (.int .u32 2227730452), .lit (.int .u32 2361852424), .lit (.int .u32 2428436474), .lit (.int .u32 2756734187), .lit (.int .u32 3204031479), .lit (.int .u32 3329325298)]

/-- 'scriniumlaw02.ShaSteps': WHATEVER THE INPUT: true; the input reads as it did. -/
def shaStepsSpec : ChangeSpec := { name := "shaSteps", fn := fun _ => fun
  | [d1, d2] => { results := [.lit (.bool true)], args := [d1, d2] }
  | _ => none }
def shaStepsRow : OpenClaim := { program := "ytgofnkpegfkonaadoor", sum := "f9681ce83132baea35bfdddf1d32499667a823f1cf3aa313b4fb51c95563d78d", func := "scrinium/scriniumlaw02.ShaSteps", spec := "shaSteps", inPlace := ["internal/abi.NoEscape", "internal/bytealg.MakeNoZero"], unfollowed := true, recurses := true, named := ["scrinium/sha.keys"], apart := false, laid := [("scrinium/sha.keys", laid_scrinium_sha_keys)] }
def ShaStepsSaid : Prop := shaStepsRow.holds Tryd.pinned (OpenSpec.ofChange shaStepsSpec)

/-- ITS FALSE NEIGHBOUR: 'it returns false'. Refute it at one input. -/
def shaStepsWrong : ChangeSpec := { name := "shaSteps", fn := fun _ => fun
  | [d1, d2] => { results := [.lit (.bool false)], args := [d1, d2] }
  | _ => none }
def ShaStepsWrongFalsely : Prop := shaStepsRow.holds Tryd.pinned (OpenSpec.ofChange shaStepsWrong)

/-- 'scriniumlaw02.ShaOne': WHATEVER THE INPUT: true; the input reads as it did. -/
def shaOneSpec : ChangeSpec := { name := "shaOne", fn := fun _ => fun
  | [d] => { results := [.lit (.bool true)], args := [d] }
  | _ => none }
def shaOneRow : OpenClaim := { program := "ytgofnkpegfkonaadoor", sum := "f9681ce83132baea35bfdddf1d32499667a823f1cf3aa313b4fb51c95563d78d", func := "scrinium/scriniumlaw02.ShaOne", spec := "shaOne", inPlace := ["internal/abi.NoEscape", "internal/bytealg.MakeNoZero"], unfollowed := true, recurses := true, named := ["scrinium/sha.keys"], apart := false, laid := [("scrinium/sha.keys", laid_scrinium_sha_keys)] }
def ShaOneSaid : Prop := shaOneRow.holds Tryd.pinned (OpenSpec.ofChange shaOneSpec)

/-- ITS FALSE NEIGHBOUR: 'it returns false'. Refute it at one input. -/
def shaOneWrong : ChangeSpec := { name := "shaOne", fn := fun _ => fun
  | [d] => { results := [.lit (.bool false)], args := [d] }
  | _ => none }
def ShaOneWrongFalsely : Prop := shaOneRow.holds Tryd.pinned (OpenSpec.ofChange shaOneWrong)

/-- 'scriniumlaw02.ShaTwo': WHATEVER THE INPUT: true; the input reads as it did. -/
def shaTwoSpec : ChangeSpec := { name := "shaTwo", fn := fun _ => fun
  | [d1, d2] => { results := [.lit (.bool true)], args := [d1, d2] }
  | _ => none }
def shaTwoRow : OpenClaim := { program := "ytgofnkpegfkonaadoor", sum := "f9681ce83132baea35bfdddf1d32499667a823f1cf3aa313b4fb51c95563d78d", func := "scrinium/scriniumlaw02.ShaTwo", spec := "shaTwo", inPlace := ["internal/abi.NoEscape", "internal/bytealg.MakeNoZero"], unfollowed := true, recurses := true, named := ["scrinium/sha.keys"], apart := false, laid := [("scrinium/sha.keys", laid_scrinium_sha_keys)] }
def ShaTwoSaid : Prop := shaTwoRow.holds Tryd.pinned (OpenSpec.ofChange shaTwoSpec)

/-- ITS FALSE NEIGHBOUR: 'it returns false'. Refute it at one input. -/
def shaTwoWrong : ChangeSpec := { name := "shaTwo", fn := fun _ => fun
  | [d1, d2] => { results := [.lit (.bool false)], args := [d1, d2] }
  | _ => none }
def ShaTwoWrongFalsely : Prop := shaTwoRow.holds Tryd.pinned (OpenSpec.ofChange shaTwoWrong)

/-- 'scriniumlaw02.ShaHashes': WHATEVER THE INPUT: true; the input reads as it did. -/
def shaHashesSpec : ChangeSpec := { name := "shaHashes", fn := fun _ => fun
  | [d1, d2] => { results := [.lit (.bool true)], args := [d1, d2] }
  | _ => none }
def shaHashesRow : OpenClaim := { program := "ytgofnkpegfkonaadoor", sum := "f9681ce83132baea35bfdddf1d32499667a823f1cf3aa313b4fb51c95563d78d", func := "scrinium/scriniumlaw02.ShaHashes", spec := "shaHashes", inPlace := ["internal/abi.NoEscape", "internal/bytealg.MakeNoZero"], unfollowed := true, recurses := true, named := ["scrinium/sha.keys"], apart := false, laid := [("scrinium/sha.keys", laid_scrinium_sha_keys)] }
def ShaHashesSaid : Prop := shaHashesRow.holds Tryd.pinned (OpenSpec.ofChange shaHashesSpec)

/-- ITS FALSE NEIGHBOUR: 'it returns false'. Refute it at one input. -/
def shaHashesWrong : ChangeSpec := { name := "shaHashes", fn := fun _ => fun
  | [d1, d2] => { results := [.lit (.bool false)], args := [d1, d2] }
  | _ => none }
def ShaHashesWrongFalsely : Prop := shaHashesRow.holds Tryd.pinned (OpenSpec.ofChange shaHashesWrong)

/-- 'scriniumlaw02.ShaHex': WHATEVER THE INPUT: true; the input reads as it did. -/
def shaHexSpec : ChangeSpec := { name := "shaHex", fn := fun _ => fun
  | [d1, d2] => { results := [.lit (.bool true)], args := [d1, d2] }
  | _ => none }
def shaHexRow : OpenClaim := { program := "ytgofnkpegfkonaadoor", sum := "f9681ce83132baea35bfdddf1d32499667a823f1cf3aa313b4fb51c95563d78d", func := "scrinium/scriniumlaw02.ShaHex", spec := "shaHex", inPlace := ["internal/abi.NoEscape", "internal/bytealg.MakeNoZero"], unfollowed := true, recurses := true, named := ["scrinium/sha.keys"], apart := false, laid := [("scrinium/sha.keys", laid_scrinium_sha_keys)] }
def ShaHexSaid : Prop := shaHexRow.holds Tryd.pinned (OpenSpec.ofChange shaHexSpec)

/-- ITS FALSE NEIGHBOUR: 'it returns false'. Refute it at one input. -/
def shaHexWrong : ChangeSpec := { name := "shaHex", fn := fun _ => fun
  | [d1, d2] => { results := [.lit (.bool false)], args := [d1, d2] }
  | _ => none }
def ShaHexWrongFalsely : Prop := shaHexRow.holds Tryd.pinned (OpenSpec.ofChange shaHexWrong)

/-- 'scriniumlaw02.ShaParts': WHATEVER THE INPUT: true; the input reads as it did. -/
def shaPartsSpec : ChangeSpec := { name := "shaParts", fn := fun _ => fun
  | [d1, d2] => { results := [.lit (.bool true)], args := [d1, d2] }
  | _ => none }
def shaPartsRow : OpenClaim := { program := "ytgofnkpegfkonaadoor", sum := "f9681ce83132baea35bfdddf1d32499667a823f1cf3aa313b4fb51c95563d78d", func := "scrinium/scriniumlaw02.ShaParts", spec := "shaParts", inPlace := ["internal/abi.NoEscape", "internal/bytealg.MakeNoZero"], unfollowed := true, recurses := true, named := ["scrinium/sha.keys"], apart := false, laid := [("scrinium/sha.keys", laid_scrinium_sha_keys)] }
def ShaPartsSaid : Prop := shaPartsRow.holds Tryd.pinned (OpenSpec.ofChange shaPartsSpec)

/-- ITS FALSE NEIGHBOUR: 'it returns false'. Refute it at one input. -/
def shaPartsWrong : ChangeSpec := { name := "shaParts", fn := fun _ => fun
  | [d1, d2] => { results := [.lit (.bool false)], args := [d1, d2] }
  | _ => none }
def ShaPartsWrongFalsely : Prop := shaPartsRow.holds Tryd.pinned (OpenSpec.ofChange shaPartsWrong)

/-- 'scriniumlaw02.ShaNil': WHATEVER THE INPUT: true; the input reads as it did. -/
def shaNilSpec : ChangeSpec := { name := "shaNil", fn := fun _ => fun
  | [d] => { results := [.lit (.bool true)], args := [d] }
  | _ => none }
def shaNilRow : OpenClaim := { program := "ytgofnkpegfkonaadoor", sum := "f9681ce83132baea35bfdddf1d32499667a823f1cf3aa313b4fb51c95563d78d", func := "scrinium/scriniumlaw02.ShaNil", spec := "shaNil", inPlace := ["internal/abi.NoEscape", "internal/bytealg.MakeNoZero"], unfollowed := true, recurses := true, named := ["scrinium/sha.keys"], apart := false, laid := [("scrinium/sha.keys", laid_scrinium_sha_keys)] }
def ShaNilSaid : Prop := shaNilRow.holds Tryd.pinned (OpenSpec.ofChange shaNilSpec)

/-- ITS FALSE NEIGHBOUR: 'it returns false'. Refute it at one input. -/
def shaNilWrong : ChangeSpec := { name := "shaNil", fn := fun _ => fun
  | [d] => { results := [.lit (.bool false)], args := [d] }
  | _ => none }
def ShaNilWrongFalsely : Prop := shaNilRow.holds Tryd.pinned (OpenSpec.ofChange shaNilWrong)

/-- 'scriniumlaw03.MacParts': WHATEVER THE INPUT: true; the input reads as it did. -/
def macPartsSpec : ChangeSpec := { name := "macParts", fn := fun _ => fun
  | [d1, d2, d3] => { results := [.lit (.bool true)], args := [d1, d2, d3] }
  | _ => none }
def macPartsRow : OpenClaim := { program := "ytgofnkpegfkonaadoor", sum := "f9681ce83132baea35bfdddf1d32499667a823f1cf3aa313b4fb51c95563d78d", func := "scrinium/scriniumlaw03.MacParts", spec := "macParts", inPlace := ["internal/abi.NoEscape", "internal/bytealg.MakeNoZero"], unfollowed := true, recurses := true, named := ["scrinium/sha.keys"], apart := false, laid := [("scrinium/sha.keys", laid_scrinium_sha_keys)] }
def MacPartsSaid : Prop := macPartsRow.holds Tryd.pinned (OpenSpec.ofChange macPartsSpec)

/-- ITS FALSE NEIGHBOUR: 'it returns false'. Refute it at one input. -/
def macPartsWrong : ChangeSpec := { name := "macParts", fn := fun _ => fun
  | [d1, d2, d3] => { results := [.lit (.bool false)], args := [d1, d2, d3] }
  | _ => none }
def MacPartsWrongFalsely : Prop := macPartsRow.holds Tryd.pinned (OpenSpec.ofChange macPartsWrong)

/-- 'scriniumlaw03.MacSums': WHATEVER THE INPUT: true; the input reads as it did. -/
def macSumsSpec : ChangeSpec := { name := "macSums", fn := fun _ => fun
  | [d1, d2, d3] => { results := [.lit (.bool true)], args := [d1, d2, d3] }
  | _ => none }
def macSumsRow : OpenClaim := { program := "ytgofnkpegfkonaadoor", sum := "f9681ce83132baea35bfdddf1d32499667a823f1cf3aa313b4fb51c95563d78d", func := "scrinium/scriniumlaw03.MacSums", spec := "macSums", inPlace := ["internal/abi.NoEscape", "internal/bytealg.MakeNoZero"], unfollowed := true, recurses := true, named := ["scrinium/sha.keys"], apart := false, laid := [("scrinium/sha.keys", laid_scrinium_sha_keys)] }
def MacSumsSaid : Prop := macSumsRow.holds Tryd.pinned (OpenSpec.ofChange macSumsSpec)

/-- ITS FALSE NEIGHBOUR: 'it returns false'. Refute it at one input. -/
def macSumsWrong : ChangeSpec := { name := "macSums", fn := fun _ => fun
  | [d1, d2, d3] => { results := [.lit (.bool false)], args := [d1, d2, d3] }
  | _ => none }
def MacSumsWrongFalsely : Prop := macSumsRow.holds Tryd.pinned (OpenSpec.ofChange macSumsWrong)

/-- 'scriniumlaw03.MacRight': WHATEVER THE INPUT: true; the input reads as it did. -/
def macRightSpec : ChangeSpec := { name := "macRight", fn := fun _ => fun
  | [d1, d2, d3] => { results := [.lit (.bool true)], args := [d1, d2, d3] }
  | _ => none }
def macRightRow : OpenClaim := { program := "ytgofnkpegfkonaadoor", sum := "f9681ce83132baea35bfdddf1d32499667a823f1cf3aa313b4fb51c95563d78d", func := "scrinium/scriniumlaw03.MacRight", spec := "macRight", inPlace := ["internal/abi.NoEscape", "internal/bytealg.MakeNoZero"], unfollowed := true, recurses := true, named := ["scrinium/sha.keys"], apart := false, laid := [("scrinium/sha.keys", laid_scrinium_sha_keys)] }
def MacRightSaid : Prop := macRightRow.holds Tryd.pinned (OpenSpec.ofChange macRightSpec)

/-- ITS FALSE NEIGHBOUR: 'it returns false'. Refute it at one input. -/
def macRightWrong : ChangeSpec := { name := "macRight", fn := fun _ => fun
  | [d1, d2, d3] => { results := [.lit (.bool false)], args := [d1, d2, d3] }
  | _ => none }
def MacRightWrongFalsely : Prop := macRightRow.holds Tryd.pinned (OpenSpec.ofChange macRightWrong)

/-- 'scriniumlaw03.MacMakers': WHATEVER THE INPUT: true; the input reads as it did. -/
def macMakersSpec : ChangeSpec := { name := "macMakers", fn := fun _ => fun
  | [d1, d2] => { results := [.lit (.bool true)], args := [d1, d2] }
  | _ => none }
def macMakersRow : OpenClaim := { program := "ytgofnkpegfkonaadoor", sum := "f9681ce83132baea35bfdddf1d32499667a823f1cf3aa313b4fb51c95563d78d", func := "scrinium/scriniumlaw03.MacMakers", spec := "macMakers", inPlace := ["internal/abi.NoEscape", "internal/bytealg.MakeNoZero"], unfollowed := true, recurses := true, named := ["scrinium/sha.keys"], apart := false, laid := [("scrinium/sha.keys", laid_scrinium_sha_keys)] }
def MacMakersSaid : Prop := macMakersRow.holds Tryd.pinned (OpenSpec.ofChange macMakersSpec)

/-- ITS FALSE NEIGHBOUR: 'it returns false'. Refute it at one input. -/
def macMakersWrong : ChangeSpec := { name := "macMakers", fn := fun _ => fun
  | [d1, d2] => { results := [.lit (.bool false)], args := [d1, d2] }
  | _ => none }
def MacMakersWrongFalsely : Prop := macMakersRow.holds Tryd.pinned (OpenSpec.ofChange macMakersWrong)

/-- 'scriniumlaw03.MacNil': WHATEVER THE INPUT: true; the input reads as it did. -/
def macNilSpec : ChangeSpec := { name := "macNil", fn := fun _ => fun
  | [d] => { results := [.lit (.bool true)], args := [d] }
  | _ => none }
def macNilRow : OpenClaim := { program := "ytgofnkpegfkonaadoor", sum := "f9681ce83132baea35bfdddf1d32499667a823f1cf3aa313b4fb51c95563d78d", func := "scrinium/scriniumlaw03.MacNil", spec := "macNil", inPlace := ["internal/abi.NoEscape", "internal/bytealg.MakeNoZero"], unfollowed := true, recurses := true, named := ["scrinium/sha.keys"], apart := false, laid := [("scrinium/sha.keys", laid_scrinium_sha_keys)] }
def MacNilSaid : Prop := macNilRow.holds Tryd.pinned (OpenSpec.ofChange macNilSpec)

/-- ITS FALSE NEIGHBOUR: 'it returns false'. Refute it at one input. -/
def macNilWrong : ChangeSpec := { name := "macNil", fn := fun _ => fun
  | [d] => { results := [.lit (.bool false)], args := [d] }
  | _ => none }
def MacNilWrongFalsely : Prop := macNilRow.holds Tryd.pinned (OpenSpec.ofChange macNilWrong)

/- THE SECOND FORM. 'bulk': how many values and letters a reading holds, each counted each time it is reached (what is shared counts as often as it is met; a slice's spare places count too). A statement '..UptoSaid' is the law's where the arguments, and the package variables that the reading takes, are together of bulk at most 1048576: NARROWER than '..Said'. Prove '..Said' where nothing that the law and all that it calls make is longer than what came in: it says more and counts as full. Else prove '..UptoSaid'. A law counts once. -/
mutual
def uptoBulk {H : Type} : DataW H → Nat
  | .lit (.string bytes) => bytes.length + 1
  | .lit _ => 1
  | .nil => 1
  | .ptr d => uptoBulk d + 1
  | .slice elems spare => uptoBulkAll elems + uptoBulkAll spare + 1
  | .agg parts => uptoBulkAll parts + 1
  | .iface _ d => uptoBulk d + 1
  | .map entries => uptoBulkEntries entries + 1
  | .held _ => 1
def uptoBulkAll {H : Type} : List (DataW H) → Nat
  | [] => 0
  | d :: r => uptoBulk d + uptoBulkAll r
def uptoBulkEntries {H : Type} : List (Lit × DataW H) → Nat
  | [] => 0
  | x :: r => uptoBulkEntry x + uptoBulkEntries r
def uptoBulkEntry {H : Type} : Lit × DataW H → Nat
  | (.string bytes, d) => bytes.length + uptoBulk d + 1
  | (_, d) => uptoBulk d + 1
 end
def uptoSmall : (H : Type) → List (DataW H) → Bool := fun _ ds => decide (uptoBulkAll ds ≤ 1048576)
def OpenSpec.upto (s : _root_.Go.ChangeSpec) : _root_.Go.OpenSpec := { _root_.Go.OpenSpec.ofChange s with cond := some uptoSmall }

/-- 'scriniumlaw02.ShaSteps', WHERE WHAT IT READS IS OF BULK AT MOST 1048576: true; the input reads as it did. -/
def shaStepsUptoRow : OpenClaim := { program := "ytgofnkpegfkonaadoor", sum := "f9681ce83132baea35bfdddf1d32499667a823f1cf3aa313b4fb51c95563d78d", func := "scrinium/scriniumlaw02.ShaSteps", spec := "shaSteps", inPlace := ["internal/abi.NoEscape", "internal/bytealg.MakeNoZero"], unfollowed := true, recurses := true, named := ["scrinium/sha.keys"], apart := false, laid := [("scrinium/sha.keys", laid_scrinium_sha_keys)], narrowed := true }
def ShaStepsUptoSaid : Prop := shaStepsUptoRow.holds Tryd.pinned (OpenSpec.upto shaStepsSpec)

/-- 'scriniumlaw02.ShaOne', WHERE WHAT IT READS IS OF BULK AT MOST 1048576: true; the input reads as it did. -/
def shaOneUptoRow : OpenClaim := { program := "ytgofnkpegfkonaadoor", sum := "f9681ce83132baea35bfdddf1d32499667a823f1cf3aa313b4fb51c95563d78d", func := "scrinium/scriniumlaw02.ShaOne", spec := "shaOne", inPlace := ["internal/abi.NoEscape", "internal/bytealg.MakeNoZero"], unfollowed := true, recurses := true, named := ["scrinium/sha.keys"], apart := false, laid := [("scrinium/sha.keys", laid_scrinium_sha_keys)], narrowed := true }
def ShaOneUptoSaid : Prop := shaOneUptoRow.holds Tryd.pinned (OpenSpec.upto shaOneSpec)

/-- 'scriniumlaw02.ShaTwo', WHERE WHAT IT READS IS OF BULK AT MOST 1048576: true; the input reads as it did. -/
def shaTwoUptoRow : OpenClaim := { program := "ytgofnkpegfkonaadoor", sum := "f9681ce83132baea35bfdddf1d32499667a823f1cf3aa313b4fb51c95563d78d", func := "scrinium/scriniumlaw02.ShaTwo", spec := "shaTwo", inPlace := ["internal/abi.NoEscape", "internal/bytealg.MakeNoZero"], unfollowed := true, recurses := true, named := ["scrinium/sha.keys"], apart := false, laid := [("scrinium/sha.keys", laid_scrinium_sha_keys)], narrowed := true }
def ShaTwoUptoSaid : Prop := shaTwoUptoRow.holds Tryd.pinned (OpenSpec.upto shaTwoSpec)

/-- 'scriniumlaw02.ShaHashes', WHERE WHAT IT READS IS OF BULK AT MOST 1048576: true; the input reads as it did. -/
def shaHashesUptoRow : OpenClaim := { program := "ytgofnkpegfkonaadoor", sum := "f9681ce83132baea35bfdddf1d32499667a823f1cf3aa313b4fb51c95563d78d", func := "scrinium/scriniumlaw02.ShaHashes", spec := "shaHashes", inPlace := ["internal/abi.NoEscape", "internal/bytealg.MakeNoZero"], unfollowed := true, recurses := true, named := ["scrinium/sha.keys"], apart := false, laid := [("scrinium/sha.keys", laid_scrinium_sha_keys)], narrowed := true }
def ShaHashesUptoSaid : Prop := shaHashesUptoRow.holds Tryd.pinned (OpenSpec.upto shaHashesSpec)

/-- 'scriniumlaw02.ShaHex', WHERE WHAT IT READS IS OF BULK AT MOST 1048576: true; the input reads as it did. -/
def shaHexUptoRow : OpenClaim := { program := "ytgofnkpegfkonaadoor", sum := "f9681ce83132baea35bfdddf1d32499667a823f1cf3aa313b4fb51c95563d78d", func := "scrinium/scriniumlaw02.ShaHex", spec := "shaHex", inPlace := ["internal/abi.NoEscape", "internal/bytealg.MakeNoZero"], unfollowed := true, recurses := true, named := ["scrinium/sha.keys"], apart := false, laid := [("scrinium/sha.keys", laid_scrinium_sha_keys)], narrowed := true }
def ShaHexUptoSaid : Prop := shaHexUptoRow.holds Tryd.pinned (OpenSpec.upto shaHexSpec)

/-- 'scriniumlaw02.ShaParts', WHERE WHAT IT READS IS OF BULK AT MOST 1048576: true; the input reads as it did. -/
def shaPartsUptoRow : OpenClaim := { program := "ytgofnkpegfkonaadoor", sum := "f9681ce83132baea35bfdddf1d32499667a823f1cf3aa313b4fb51c95563d78d", func := "scrinium/scriniumlaw02.ShaParts", spec := "shaParts", inPlace := ["internal/abi.NoEscape", "internal/bytealg.MakeNoZero"], unfollowed := true, recurses := true, named := ["scrinium/sha.keys"], apart := false, laid := [("scrinium/sha.keys", laid_scrinium_sha_keys)], narrowed := true }
def ShaPartsUptoSaid : Prop := shaPartsUptoRow.holds Tryd.pinned (OpenSpec.upto shaPartsSpec)

/-- 'scriniumlaw02.ShaNil', WHERE WHAT IT READS IS OF BULK AT MOST 1048576: true; the input reads as it did. -/
def shaNilUptoRow : OpenClaim := { program := "ytgofnkpegfkonaadoor", sum := "f9681ce83132baea35bfdddf1d32499667a823f1cf3aa313b4fb51c95563d78d", func := "scrinium/scriniumlaw02.ShaNil", spec := "shaNil", inPlace := ["internal/abi.NoEscape", "internal/bytealg.MakeNoZero"], unfollowed := true, recurses := true, named := ["scrinium/sha.keys"], apart := false, laid := [("scrinium/sha.keys", laid_scrinium_sha_keys)], narrowed := true }
def ShaNilUptoSaid : Prop := shaNilUptoRow.holds Tryd.pinned (OpenSpec.upto shaNilSpec)

/-- 'scriniumlaw03.MacParts', WHERE WHAT IT READS IS OF BULK AT MOST 1048576: true; the input reads as it did. -/
def macPartsUptoRow : OpenClaim := { program := "ytgofnkpegfkonaadoor", sum := "f9681ce83132baea35bfdddf1d32499667a823f1cf3aa313b4fb51c95563d78d", func := "scrinium/scriniumlaw03.MacParts", spec := "macParts", inPlace := ["internal/abi.NoEscape", "internal/bytealg.MakeNoZero"], unfollowed := true, recurses := true, named := ["scrinium/sha.keys"], apart := false, laid := [("scrinium/sha.keys", laid_scrinium_sha_keys)], narrowed := true }
def MacPartsUptoSaid : Prop := macPartsUptoRow.holds Tryd.pinned (OpenSpec.upto macPartsSpec)

/-- 'scriniumlaw03.MacSums', WHERE WHAT IT READS IS OF BULK AT MOST 1048576: true; the input reads as it did. -/
def macSumsUptoRow : OpenClaim := { program := "ytgofnkpegfkonaadoor", sum := "f9681ce83132baea35bfdddf1d32499667a823f1cf3aa313b4fb51c95563d78d", func := "scrinium/scriniumlaw03.MacSums", spec := "macSums", inPlace := ["internal/abi.NoEscape", "internal/bytealg.MakeNoZero"], unfollowed := true, recurses := true, named := ["scrinium/sha.keys"], apart := false, laid := [("scrinium/sha.keys", laid_scrinium_sha_keys)], narrowed := true }
def MacSumsUptoSaid : Prop := macSumsUptoRow.holds Tryd.pinned (OpenSpec.upto macSumsSpec)

/-- 'scriniumlaw03.MacRight', WHERE WHAT IT READS IS OF BULK AT MOST 1048576: true; the input reads as it did. -/
def macRightUptoRow : OpenClaim := { program := "ytgofnkpegfkonaadoor", sum := "f9681ce83132baea35bfdddf1d32499667a823f1cf3aa313b4fb51c95563d78d", func := "scrinium/scriniumlaw03.MacRight", spec := "macRight", inPlace := ["internal/abi.NoEscape", "internal/bytealg.MakeNoZero"], unfollowed := true, recurses := true, named := ["scrinium/sha.keys"], apart := false, laid := [("scrinium/sha.keys", laid_scrinium_sha_keys)], narrowed := true }
def MacRightUptoSaid : Prop := macRightUptoRow.holds Tryd.pinned (OpenSpec.upto macRightSpec)

/-- 'scriniumlaw03.MacMakers', WHERE WHAT IT READS IS OF BULK AT MOST 1048576: true; the input reads as it did. -/
def macMakersUptoRow : OpenClaim := { program := "ytgofnkpegfkonaadoor", sum := "f9681ce83132baea35bfdddf1d32499667a823f1cf3aa313b4fb51c95563d78d", func := "scrinium/scriniumlaw03.MacMakers", spec := "macMakers", inPlace := ["internal/abi.NoEscape", "internal/bytealg.MakeNoZero"], unfollowed := true, recurses := true, named := ["scrinium/sha.keys"], apart := false, laid := [("scrinium/sha.keys", laid_scrinium_sha_keys)], narrowed := true }
def MacMakersUptoSaid : Prop := macMakersUptoRow.holds Tryd.pinned (OpenSpec.upto macMakersSpec)

/-- 'scriniumlaw03.MacNil', WHERE WHAT IT READS IS OF BULK AT MOST 1048576: true; the input reads as it did. -/
def macNilUptoRow : OpenClaim := { program := "ytgofnkpegfkonaadoor", sum := "f9681ce83132baea35bfdddf1d32499667a823f1cf3aa313b4fb51c95563d78d", func := "scrinium/scriniumlaw03.MacNil", spec := "macNil", inPlace := ["internal/abi.NoEscape", "internal/bytealg.MakeNoZero"], unfollowed := true, recurses := true, named := ["scrinium/sha.keys"], apart := false, laid := [("scrinium/sha.keys", laid_scrinium_sha_keys)], narrowed := true }
def MacNilUptoSaid : Prop := macNilUptoRow.holds Tryd.pinned (OpenSpec.upto macNilSpec)

end Rows
end Go.Proofs.YtgofnkpegfkonaaDoor
