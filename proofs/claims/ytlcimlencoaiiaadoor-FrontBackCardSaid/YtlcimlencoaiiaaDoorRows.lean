/-
  NARROWER THAN 'FOR EVERY INPUT', by the rows' own cells (each row's printed sentence says how): LeafHashes: laid · LeafLevels: laid · LeafTops: laid · LeafCounts: laid · LeafApart: laid · LeafRoots: laid · LeafSplits: laid · RecordBytes: laid · FrontGrows: laid · FrontPeaks: laid · FrontNil: laid · FrontReads: laid · FrontFull: laid · FrontBack: laid.
  DERIVED. THE GIVEN ROWS OF THIS SEAT. 14 by the template 'for every input the law returns true; each argument reads behind the call as it read before'; 0 by the template 'total and deterministic' (their statements: YtlcimlencoaiiaaDoorTotals.lean).
  GIVEN WITH THE SEED: the statements are not yours to turn. If you find one false, say at which input.
  Laid BY PROGRAM, IN A SANDBOX (cutbox-rows.mjs): the forced cells as the released guide's own fill.sh prints them over the translation 8243e6822d03e256… (all of the seat's roots in one cut). By AI agents, Wed Nov 11 2026. No macro, syntax, notation, axiom, sorry.
-/
import Derived.Test.YtlcimlencoaiiaaDoorChecked
import GoSem.Claim
import GoSem.ClaimJoined
import GoSem.ClaimMapViews
import Derived.JoinedTies
import Derived.KernelRfl
namespace Go.Proofs.YtlcimlencoaiiaaDoor
/- THE CELL 'sum', in the pinned program and in every row, IS THE sha256 OF THE DUMP (.gsa) THAT YtlcimlencoaiiaaDoorProg.lean LOADS. Nothing in Lean hashes anything: it is a label: what it is worth is what the hold of that sum in a sandbox is worth. -/
noncomputable def Tryd.pinned : Pinned := { name := "ytlcimlencoaiiaadoor", sum := "8243e6822d03e25639f489466db6f6fd29590f961cff5053fecd9986d309f423", checked := Tryd.checked }
namespace Rows
def none {H : Type} : Left H := { results := [], args := [] }

/- WHAT THE LISTED PACKAGE-LEVEL VARIABLES READ AS WHEN THE CALL BEGINS. Each datum BY PROGRAM (the guide's laid-datum.mjs) off the statement by which the dump's own 'gosem.cut.vars' lays the variable. In a bare row this is a premise. The card (YtlcimlencoaiiaaDoorCards.lean) ties it to the program's text. -/
def laid_scrinium_sha_keys {H : Type} : DataW H := .agg [.lit (.int .u32 1116352408), .lit (.int .u32 1899447441), .lit (.int .u32 3049323471), .lit (.int .u32 3921009573), .lit (.int .u32 961987163), .lit (.int .u32 1508970993), .lit (.int .u32 2453635748), .lit (.int .u32 2870763221), .lit (.int .u32 3624381080), .lit (.int .u32 310598401), .lit (.int .u32 607225278), .lit (.int .u32 1426881987), .lit (.int .u32 1925078388), .lit (.int .u32 2162078206), .lit (.int .u32 2614888103), .lit (.int .u32 3248222580), .lit (.int .u32 3835390401), .lit (.int .u32 4022224774), .lit (.int .u32 264347078), .lit (.int .u32 604807628), .lit (.int .u32 770255983), .lit (.int .u32 1249150122), .lit (.int .u32 1555081692), .lit (.int .u32 1996064986), .lit (.int .u32 2554220882), .lit (.int .u32 2821834349), .lit (.int .u32 2952996808), .lit (.int .u32 3210313671), .lit (.int .u32 3336571891), .lit (.int .u32 3584528711), .lit (.int .u32 113926993), .lit (.int .u32 338241895), .lit (.int .u32 666307205), .lit (.int .u32 773529912), .lit (.int .u32 1294757372), .lit (.int .u32 1396182291), .lit (.int .u32 1695183700), .lit (.int .u32 1986661051), .lit (.int .u32 2177026350), .lit (.int .u32 2456956037), .lit (.int .u32 2730485921), .lit (.int .u32 2820302411), .lit (.int .u32 3259730800), .lit (.int .u32 3345764771), .lit (.int .u32 3516065817), .lit (.int .u32 3600352804), .lit (.int .u32 4094571909), .lit (.int .u32 275423344), .lit (.int .u32 430227734), .lit (.int .u32 506948616), .lit (.int .u32 659060556), .lit (.int .u32 883997877), .lit (.int .u32 958139571), .lit (.int .u32 1322822218), .lit (.int .u32 1537002063), .lit (.int .u32 1747873779), .lit (.int .u32 1955562222), .lit (.int .u32 2024104815), .lit (.int .u32 2227730452), .lit (.int .u32 2361852424), .lit (.int .u32 2428436474), .lit (.int .u32 2756734187), .lit (.int .u32 3204031479), .lit (.int .u32 3329325298)]

/-- 'scriniumlaw09.LeafHashes': WHATEVER THE INPUT: true; the input reads as it did. -/
def leafHashesSpec : ChangeSpec := { name := "leafHashes", fn := fun _ => fun
  | [d1, d2, d3] => { results := [.lit (.bool true)], args := [d1, d2, d3] }
  | _ => none }
def leafHashesRow : OpenClaim := { program := "ytlcimlencoaiiaadoor", sum := "8243e6822d03e25639f489466db6f6fd29590f961cff5053fecd9986d309f423", func := "scrinium/scriniumlaw09.LeafHashes", spec := "leafHashes", inPlace := ["internal/abi.NoEscape", "internal/bytealg.MakeNoZero"], unfollowed := true, recurses := true, named := ["scrinium/sha.keys"], apart := false, laid := [("scrinium/sha.keys", laid_scrinium_sha_keys)] }
def LeafHashesSaid : Prop := leafHashesRow.holds Tryd.pinned (OpenSpec.ofChange leafHashesSpec)

/-- ITS FALSE NEIGHBOUR: 'it returns false'. Refute it at one input. -/
def leafHashesWrong : ChangeSpec := { name := "leafHashes", fn := fun _ => fun
  | [d1, d2, d3] => { results := [.lit (.bool false)], args := [d1, d2, d3] }
  | _ => none }
def LeafHashesWrongFalsely : Prop := leafHashesRow.holds Tryd.pinned (OpenSpec.ofChange leafHashesWrong)

/-- 'scriniumlaw09.LeafLevels': WHATEVER THE INPUT: true; the input reads as it did. -/
def leafLevelsSpec : ChangeSpec := { name := "leafLevels", fn := fun _ => fun
  | [d] => { results := [.lit (.bool true)], args := [d] }
  | _ => none }
def leafLevelsRow : OpenClaim := { program := "ytlcimlencoaiiaadoor", sum := "8243e6822d03e25639f489466db6f6fd29590f961cff5053fecd9986d309f423", func := "scrinium/scriniumlaw09.LeafLevels", spec := "leafLevels", inPlace := ["internal/abi.NoEscape", "internal/bytealg.MakeNoZero"], unfollowed := true, recurses := true, named := ["scrinium/sha.keys"], apart := false, laid := [("scrinium/sha.keys", laid_scrinium_sha_keys)] }
def LeafLevelsSaid : Prop := leafLevelsRow.holds Tryd.pinned (OpenSpec.ofChange leafLevelsSpec)

/-- ITS FALSE NEIGHBOUR: 'it returns false'. Refute it at one input. -/
def leafLevelsWrong : ChangeSpec := { name := "leafLevels", fn := fun _ => fun
  | [d] => { results := [.lit (.bool false)], args := [d] }
  | _ => none }
def LeafLevelsWrongFalsely : Prop := leafLevelsRow.holds Tryd.pinned (OpenSpec.ofChange leafLevelsWrong)

/-- 'scriniumlaw09.LeafTops': WHATEVER THE INPUT: true; the input reads as it did. -/
def leafTopsSpec : ChangeSpec := { name := "leafTops", fn := fun _ => fun
  | [d1, d2] => { results := [.lit (.bool true)], args := [d1, d2] }
  | _ => none }
def leafTopsRow : OpenClaim := { program := "ytlcimlencoaiiaadoor", sum := "8243e6822d03e25639f489466db6f6fd29590f961cff5053fecd9986d309f423", func := "scrinium/scriniumlaw09.LeafTops", spec := "leafTops", inPlace := ["internal/abi.NoEscape", "internal/bytealg.MakeNoZero"], unfollowed := true, recurses := true, named := ["scrinium/sha.keys"], apart := false, laid := [("scrinium/sha.keys", laid_scrinium_sha_keys)] }
def LeafTopsSaid : Prop := leafTopsRow.holds Tryd.pinned (OpenSpec.ofChange leafTopsSpec)

/-- ITS FALSE NEIGHBOUR: 'it returns false'. Refute it at one input. -/
def leafTopsWrong : ChangeSpec := { name := "leafTops", fn := fun _ => fun
  | [d1, d2] => { results := [.lit (.bool false)], args := [d1, d2] }
  | _ => none }
def LeafTopsWrongFalsely : Prop := leafTopsRow.holds Tryd.pinned (OpenSpec.ofChange leafTopsWrong)

/-- 'scriniumlaw09.LeafCounts': WHATEVER THE INPUT: true; the input reads as it did. -/
def leafCountsSpec : ChangeSpec := { name := "leafCounts", fn := fun _ => fun
  | [d] => { results := [.lit (.bool true)], args := [d] }
  | _ => none }
def leafCountsRow : OpenClaim := { program := "ytlcimlencoaiiaadoor", sum := "8243e6822d03e25639f489466db6f6fd29590f961cff5053fecd9986d309f423", func := "scrinium/scriniumlaw09.LeafCounts", spec := "leafCounts", inPlace := ["internal/abi.NoEscape", "internal/bytealg.MakeNoZero"], unfollowed := true, recurses := true, named := ["scrinium/sha.keys"], apart := false, laid := [("scrinium/sha.keys", laid_scrinium_sha_keys)] }
def LeafCountsSaid : Prop := leafCountsRow.holds Tryd.pinned (OpenSpec.ofChange leafCountsSpec)

/-- ITS FALSE NEIGHBOUR: 'it returns false'. Refute it at one input. -/
def leafCountsWrong : ChangeSpec := { name := "leafCounts", fn := fun _ => fun
  | [d] => { results := [.lit (.bool false)], args := [d] }
  | _ => none }
def LeafCountsWrongFalsely : Prop := leafCountsRow.holds Tryd.pinned (OpenSpec.ofChange leafCountsWrong)

/-- 'scriniumlaw09.LeafApart': WHATEVER THE INPUT: true; the input reads as it did. -/
def leafApartSpec : ChangeSpec := { name := "leafApart", fn := fun _ => fun
  | [d1, d2] => { results := [.lit (.bool true)], args := [d1, d2] }
  | _ => none }
def leafApartRow : OpenClaim := { program := "ytlcimlencoaiiaadoor", sum := "8243e6822d03e25639f489466db6f6fd29590f961cff5053fecd9986d309f423", func := "scrinium/scriniumlaw09.LeafApart", spec := "leafApart", inPlace := ["internal/abi.NoEscape", "internal/bytealg.MakeNoZero"], unfollowed := true, recurses := true, named := ["scrinium/sha.keys"], apart := false, laid := [("scrinium/sha.keys", laid_scrinium_sha_keys)] }
def LeafApartSaid : Prop := leafApartRow.holds Tryd.pinned (OpenSpec.ofChange leafApartSpec)

/-- ITS FALSE NEIGHBOUR: 'it returns false'. Refute it at one input. -/
def leafApartWrong : ChangeSpec := { name := "leafApart", fn := fun _ => fun
  | [d1, d2] => { results := [.lit (.bool false)], args := [d1, d2] }
  | _ => none }
def LeafApartWrongFalsely : Prop := leafApartRow.holds Tryd.pinned (OpenSpec.ofChange leafApartWrong)

/-- 'scriniumlaw09.LeafRoots': WHATEVER THE INPUT: true; the input reads as it did. -/
def leafRootsSpec : ChangeSpec := { name := "leafRoots", fn := fun _ => fun
  | [d1, d2] => { results := [.lit (.bool true)], args := [d1, d2] }
  | _ => none }
def leafRootsRow : OpenClaim := { program := "ytlcimlencoaiiaadoor", sum := "8243e6822d03e25639f489466db6f6fd29590f961cff5053fecd9986d309f423", func := "scrinium/scriniumlaw09.LeafRoots", spec := "leafRoots", inPlace := ["internal/abi.NoEscape", "internal/bytealg.MakeNoZero"], unfollowed := true, recurses := true, named := ["scrinium/sha.keys"], apart := false, laid := [("scrinium/sha.keys", laid_scrinium_sha_keys)] }
def LeafRootsSaid : Prop := leafRootsRow.holds Tryd.pinned (OpenSpec.ofChange leafRootsSpec)

/-- ITS FALSE NEIGHBOUR: 'it returns false'. Refute it at one input. -/
def leafRootsWrong : ChangeSpec := { name := "leafRoots", fn := fun _ => fun
  | [d1, d2] => { results := [.lit (.bool false)], args := [d1, d2] }
  | _ => none }
def LeafRootsWrongFalsely : Prop := leafRootsRow.holds Tryd.pinned (OpenSpec.ofChange leafRootsWrong)

/-- 'scriniumlaw09.LeafSplits': WHATEVER THE INPUT: true; the input reads as it did. -/
def leafSplitsSpec : ChangeSpec := { name := "leafSplits", fn := fun _ => fun
  | [d] => { results := [.lit (.bool true)], args := [d] }
  | _ => none }
def leafSplitsRow : OpenClaim := { program := "ytlcimlencoaiiaadoor", sum := "8243e6822d03e25639f489466db6f6fd29590f961cff5053fecd9986d309f423", func := "scrinium/scriniumlaw09.LeafSplits", spec := "leafSplits", inPlace := ["internal/abi.NoEscape", "internal/bytealg.MakeNoZero"], unfollowed := true, recurses := true, named := ["scrinium/sha.keys"], apart := false, laid := [("scrinium/sha.keys", laid_scrinium_sha_keys)] }
def LeafSplitsSaid : Prop := leafSplitsRow.holds Tryd.pinned (OpenSpec.ofChange leafSplitsSpec)

/-- ITS FALSE NEIGHBOUR: 'it returns false'. Refute it at one input. -/
def leafSplitsWrong : ChangeSpec := { name := "leafSplits", fn := fun _ => fun
  | [d] => { results := [.lit (.bool false)], args := [d] }
  | _ => none }
def LeafSplitsWrongFalsely : Prop := leafSplitsRow.holds Tryd.pinned (OpenSpec.ofChange leafSplitsWrong)

/-- 'scriniumlaw15.RecordBytes': WHATEVER THE INPUT: true; the input reads as it did. -/
def recordBytesSpec : ChangeSpec := { name := "recordBytes", fn := fun _ => fun
  | [d1, d2] => { results := [.lit (.bool true)], args := [d1, d2] }
  | _ => none }
def recordBytesRow : OpenClaim := { program := "ytlcimlencoaiiaadoor", sum := "8243e6822d03e25639f489466db6f6fd29590f961cff5053fecd9986d309f423", func := "scrinium/scriniumlaw15.RecordBytes", spec := "recordBytes", inPlace := ["internal/abi.NoEscape", "internal/bytealg.MakeNoZero"], unfollowed := true, recurses := true, named := ["scrinium/sha.keys"], apart := false, laid := [("scrinium/sha.keys", laid_scrinium_sha_keys)] }
def RecordBytesSaid : Prop := recordBytesRow.holds Tryd.pinned (OpenSpec.ofChange recordBytesSpec)

/-- ITS FALSE NEIGHBOUR: 'it returns false'. Refute it at one input. -/
def recordBytesWrong : ChangeSpec := { name := "recordBytes", fn := fun _ => fun
  | [d1, d2] => { results := [.lit (.bool false)], args := [d1, d2] }
  | _ => none }
def RecordBytesWrongFalsely : Prop := recordBytesRow.holds Tryd.pinned (OpenSpec.ofChange recordBytesWrong)

/-- 'scriniumlaw11.FrontGrows': WHATEVER THE INPUT: true; the input reads as it did. -/
def frontGrowsSpec : ChangeSpec := { name := "frontGrows", fn := fun _ => fun
  | [d] => { results := [.lit (.bool true)], args := [d] }
  | _ => none }
def frontGrowsRow : OpenClaim := { program := "ytlcimlencoaiiaadoor", sum := "8243e6822d03e25639f489466db6f6fd29590f961cff5053fecd9986d309f423", func := "scrinium/scriniumlaw11.FrontGrows", spec := "frontGrows", inPlace := ["internal/abi.NoEscape", "internal/bytealg.MakeNoZero"], unfollowed := true, recurses := true, named := ["scrinium/sha.keys"], apart := false, laid := [("scrinium/sha.keys", laid_scrinium_sha_keys)] }
def FrontGrowsSaid : Prop := frontGrowsRow.holds Tryd.pinned (OpenSpec.ofChange frontGrowsSpec)

/-- ITS FALSE NEIGHBOUR: 'it returns false'. Refute it at one input. -/
def frontGrowsWrong : ChangeSpec := { name := "frontGrows", fn := fun _ => fun
  | [d] => { results := [.lit (.bool false)], args := [d] }
  | _ => none }
def FrontGrowsWrongFalsely : Prop := frontGrowsRow.holds Tryd.pinned (OpenSpec.ofChange frontGrowsWrong)

/-- 'scriniumlaw11.FrontPeaks': WHATEVER THE INPUT: true; the input reads as it did. -/
def frontPeaksSpec : ChangeSpec := { name := "frontPeaks", fn := fun _ => fun
  | [d1, d2] => { results := [.lit (.bool true)], args := [d1, d2] }
  | _ => none }
def frontPeaksRow : OpenClaim := { program := "ytlcimlencoaiiaadoor", sum := "8243e6822d03e25639f489466db6f6fd29590f961cff5053fecd9986d309f423", func := "scrinium/scriniumlaw11.FrontPeaks", spec := "frontPeaks", inPlace := ["internal/abi.NoEscape", "internal/bytealg.MakeNoZero"], unfollowed := true, recurses := true, named := ["scrinium/sha.keys"], apart := false, laid := [("scrinium/sha.keys", laid_scrinium_sha_keys)] }
def FrontPeaksSaid : Prop := frontPeaksRow.holds Tryd.pinned (OpenSpec.ofChange frontPeaksSpec)

/-- ITS FALSE NEIGHBOUR: 'it returns false'. Refute it at one input. -/
def frontPeaksWrong : ChangeSpec := { name := "frontPeaks", fn := fun _ => fun
  | [d1, d2] => { results := [.lit (.bool false)], args := [d1, d2] }
  | _ => none }
def FrontPeaksWrongFalsely : Prop := frontPeaksRow.holds Tryd.pinned (OpenSpec.ofChange frontPeaksWrong)

/-- 'scriniumlaw11.FrontNil': WHATEVER THE INPUT: true; the input reads as it did. -/
def frontNilSpec : ChangeSpec := { name := "frontNil", fn := fun _ => fun
  | [d] => { results := [.lit (.bool true)], args := [d] }
  | _ => none }
def frontNilRow : OpenClaim := { program := "ytlcimlencoaiiaadoor", sum := "8243e6822d03e25639f489466db6f6fd29590f961cff5053fecd9986d309f423", func := "scrinium/scriniumlaw11.FrontNil", spec := "frontNil", inPlace := ["internal/abi.NoEscape", "internal/bytealg.MakeNoZero"], unfollowed := true, recurses := true, named := ["scrinium/sha.keys"], apart := false, laid := [("scrinium/sha.keys", laid_scrinium_sha_keys)] }
def FrontNilSaid : Prop := frontNilRow.holds Tryd.pinned (OpenSpec.ofChange frontNilSpec)

/-- ITS FALSE NEIGHBOUR: 'it returns false'. Refute it at one input. -/
def frontNilWrong : ChangeSpec := { name := "frontNil", fn := fun _ => fun
  | [d] => { results := [.lit (.bool false)], args := [d] }
  | _ => none }
def FrontNilWrongFalsely : Prop := frontNilRow.holds Tryd.pinned (OpenSpec.ofChange frontNilWrong)

/-- 'scriniumlaw11.FrontReads': WHATEVER THE INPUT: true; the input reads as it did. -/
def frontReadsSpec : ChangeSpec := { name := "frontReads", fn := fun _ => fun
  | [d] => { results := [.lit (.bool true)], args := [d] }
  | _ => none }
def frontReadsRow : OpenClaim := { program := "ytlcimlencoaiiaadoor", sum := "8243e6822d03e25639f489466db6f6fd29590f961cff5053fecd9986d309f423", func := "scrinium/scriniumlaw11.FrontReads", spec := "frontReads", inPlace := ["internal/abi.NoEscape", "internal/bytealg.MakeNoZero"], unfollowed := true, recurses := true, named := ["scrinium/sha.keys"], apart := false, laid := [("scrinium/sha.keys", laid_scrinium_sha_keys)] }
def FrontReadsSaid : Prop := frontReadsRow.holds Tryd.pinned (OpenSpec.ofChange frontReadsSpec)

/-- ITS FALSE NEIGHBOUR: 'it returns false'. Refute it at one input. -/
def frontReadsWrong : ChangeSpec := { name := "frontReads", fn := fun _ => fun
  | [d] => { results := [.lit (.bool false)], args := [d] }
  | _ => none }
def FrontReadsWrongFalsely : Prop := frontReadsRow.holds Tryd.pinned (OpenSpec.ofChange frontReadsWrong)

/-- 'scriniumlaw11.FrontFull': WHATEVER THE INPUT: true; the input reads as it did. -/
def frontFullSpec : ChangeSpec := { name := "frontFull", fn := fun _ => fun
  | [d] => { results := [.lit (.bool true)], args := [d] }
  | _ => none }
def frontFullRow : OpenClaim := { program := "ytlcimlencoaiiaadoor", sum := "8243e6822d03e25639f489466db6f6fd29590f961cff5053fecd9986d309f423", func := "scrinium/scriniumlaw11.FrontFull", spec := "frontFull", inPlace := ["internal/abi.NoEscape", "internal/bytealg.MakeNoZero"], unfollowed := true, recurses := true, named := ["scrinium/sha.keys"], apart := false, laid := [("scrinium/sha.keys", laid_scrinium_sha_keys)] }
def FrontFullSaid : Prop := frontFullRow.holds Tryd.pinned (OpenSpec.ofChange frontFullSpec)

/-- ITS FALSE NEIGHBOUR: 'it returns false'. Refute it at one input. -/
def frontFullWrong : ChangeSpec := { name := "frontFull", fn := fun _ => fun
  | [d] => { results := [.lit (.bool false)], args := [d] }
  | _ => none }
def FrontFullWrongFalsely : Prop := frontFullRow.holds Tryd.pinned (OpenSpec.ofChange frontFullWrong)

/-- 'scriniumlaw11.FrontBack': WHATEVER THE INPUT: true; the input reads as it did. -/
def frontBackSpec : ChangeSpec := { name := "frontBack", fn := fun _ => fun
  | [d1, d2, d3] => { results := [.lit (.bool true)], args := [d1, d2, d3] }
  | _ => none }
def frontBackRow : OpenClaim := { program := "ytlcimlencoaiiaadoor", sum := "8243e6822d03e25639f489466db6f6fd29590f961cff5053fecd9986d309f423", func := "scrinium/scriniumlaw11.FrontBack", spec := "frontBack", inPlace := ["internal/abi.NoEscape", "internal/bytealg.MakeNoZero"], unfollowed := true, recurses := true, named := ["scrinium/sha.keys"], apart := false, laid := [("scrinium/sha.keys", laid_scrinium_sha_keys)] }
def FrontBackSaid : Prop := frontBackRow.holds Tryd.pinned (OpenSpec.ofChange frontBackSpec)

/-- ITS FALSE NEIGHBOUR: 'it returns false'. Refute it at one input. -/
def frontBackWrong : ChangeSpec := { name := "frontBack", fn := fun _ => fun
  | [d1, d2, d3] => { results := [.lit (.bool false)], args := [d1, d2, d3] }
  | _ => none }
def FrontBackWrongFalsely : Prop := frontBackRow.holds Tryd.pinned (OpenSpec.ofChange frontBackWrong)

/- THE SECOND FORM. 'bulk': how many values and letters a reading holds, each counted each time it is reached (what is shared counts as often as it is met; a slice's spare places count too). A statement '..UptoSaid' is the law's where the arguments, and the package variables that the reading takes, are together of bulk at most 1048576: NARROWER than '..Said'. Prove '..Said' where nothing that the law and all that it calls make is longer than what came in: it says more and counts as full. Else prove '..UptoSaid'. A law counts once. -/
mutual
def uptoBulk {H : Type} : DataW H → Nat
  | .lit (.string bytes) => bytes.length + 1
  | .lit _ => 1
  | .nil => 1
  | .ptr d => uptoBulk d + 1
  | .slice elems spare => uptoBulkAll elems + uptoBulkAll spare + 1
  | .agg parts => uptoBulkAll parts + 1
  | .iface _ d => uptoBulk d + 1
  | .map entries => uptoBulkEntries entries + 1
  | .held _ => 1
def uptoBulkAll {H : Type} : List (DataW H) → Nat
  | [] => 0
  | d :: r => uptoBulk d + uptoBulkAll r
def uptoBulkEntries {H : Type} : List (Lit × DataW H) → Nat
  | [] => 0
  | x :: r => uptoBulkEntry x + uptoBulkEntries r
def uptoBulkEntry {H : Type} : Lit × DataW H → Nat
  | (.string bytes, d) => bytes.length + uptoBulk d + 1
  | (_, d) => uptoBulk d + 1
 end
def uptoSmall : (H : Type) → List (DataW H) → Bool := fun _ ds => decide (uptoBulkAll ds ≤ 1048576)
def OpenSpec.upto (s : _root_.Go.ChangeSpec) : _root_.Go.OpenSpec := { _root_.Go.OpenSpec.ofChange s with cond := some uptoSmall }

/-- 'scriniumlaw09.LeafHashes', WHERE WHAT IT READS IS OF BULK AT MOST 1048576: true; the input reads as it did. -/
def leafHashesUptoRow : OpenClaim := { program := "ytlcimlencoaiiaadoor", sum := "8243e6822d03e25639f489466db6f6fd29590f961cff5053fecd9986d309f423", func := "scrinium/scriniumlaw09.LeafHashes", spec := "leafHashes", inPlace := ["internal/abi.NoEscape", "internal/bytealg.MakeNoZero"], unfollowed := true, recurses := true, named := ["scrinium/sha.keys"], apart := false, laid := [("scrinium/sha.keys", laid_scrinium_sha_keys)], narrowed := true }
def LeafHashesUptoSaid : Prop := leafHashesUptoRow.holds Tryd.pinned (OpenSpec.upto leafHashesSpec)

/-- 'scriniumlaw09.LeafLevels', WHERE WHAT IT READS IS OF BULK AT MOST 1048576: true; the input reads as it did. -/
def leafLevelsUptoRow : OpenClaim := { program := "ytlcimlencoaiiaadoor", sum := "8243e6822d03e25639f489466db6f6fd29590f961cff5053fecd9986d309f423", func := "scrinium/scriniumlaw09.LeafLevels", spec := "leafLevels", inPlace := ["internal/abi.NoEscape", "internal/bytealg.MakeNoZero"], unfollowed := true, recurses := true, named := ["scrinium/sha.keys"], apart := false, laid := [("scrinium/sha.keys", laid_scrinium_sha_keys)], narrowed := true }
def LeafLevelsUptoSaid : Prop := leafLevelsUptoRow.holds Tryd.pinned (OpenSpec.upto leafLevelsSpec)

/-- 'scriniumlaw09.LeafTops', WHERE WHAT IT READS IS OF BULK AT MOST 1048576: true; the input reads as it did. -/
def leafTopsUptoRow : OpenClaim := { program := "ytlcimlencoaiiaadoor", sum := "8243e6822d03e25639f489466db6f6fd29590f961cff5053fecd9986d309f423", func := "scrinium/scriniumlaw09.LeafTops", spec := "leafTops", inPlace := ["internal/abi.NoEscape", "internal/bytealg.MakeNoZero"], unfollowed := true, recurses := true, named := ["scrinium/sha.keys"], apart := false, laid := [("scrinium/sha.keys", laid_scrinium_sha_keys)], narrowed := true }
def LeafTopsUptoSaid : Prop := leafTopsUptoRow.holds Tryd.pinned (OpenSpec.upto leafTopsSpec)

/-- 'scriniumlaw09.LeafCounts', WHERE WHAT IT READS IS OF BULK AT MOST 1048576: true; the input reads as it did. -/
def leafCountsUptoRow : OpenClaim := { program := "ytlcimlencoaiiaadoor", sum := "8243e6822d03e25639f489466db6f6fd29590f961cff5053fecd9986d309f423", func := "scrinium/scriniumlaw09.LeafCounts", spec := "leafCounts", inPlace := ["internal/abi.NoEscape", "internal/bytealg.MakeNoZero"], unfollowed := true, recurses := true, named := ["scrinium/sha.keys"], apart := false, laid := [("scrinium/sha.keys", laid_scrinium_sha_keys)], narrowed := true }
def LeafCountsUptoSaid : Prop := leafCountsUptoRow.holds Tryd.pinned (OpenSpec.upto leafCountsSpec)

/-- 'scriniumlaw09.LeafApart', WHERE WHAT IT READS IS OF BULK AT MOST 1048576: true; the input reads as it did. -/
def leafApartUptoRow : OpenClaim := { program := "ytlcimlencoaiiaadoor", sum := "8243e6822d03e25639f489466db6f6fd29590f961cff5053fecd9986d309f423", func := "scrinium/scriniumlaw09.LeafApart", spec := "leafApart", inPlace := ["internal/abi.NoEscape", "internal/bytealg.MakeNoZero"], unfollowed := true, recurses := true, named := ["scrinium/sha.keys"], apart := false, laid := [("scrinium/sha.keys", laid_scrinium_sha_keys)], narrowed := true }
def LeafApartUptoSaid : Prop := leafApartUptoRow.holds Tryd.pinned (OpenSpec.upto leafApartSpec)

/-- 'scriniumlaw09.LeafRoots', WHERE WHAT IT READS IS OF BULK AT MOST 1048576: true; the input reads as it did. -/
def leafRootsUptoRow : OpenClaim := { program := "ytlcimlencoaiiaadoor", sum := "8243e6822d03e25639f489466db6f6fd29590f961cff5053fecd9986d309f423", func := "scrinium/scriniumlaw09.LeafRoots", spec := "leafRoots", inPlace := ["internal/abi.NoEscape", "internal/bytealg.MakeNoZero"], unfollowed := true, recurses := true, named := ["scrinium/sha.keys"], apart := false, laid := [("scrinium/sha.keys", laid_scrinium_sha_keys)], narrowed := true }
def LeafRootsUptoSaid : Prop := leafRootsUptoRow.holds Tryd.pinned (OpenSpec.upto leafRootsSpec)

/-- 'scriniumlaw09.LeafSplits', WHERE WHAT IT READS IS OF BULK AT MOST 1048576: true; the input reads as it did. -/
def leafSplitsUptoRow : OpenClaim := { program := "ytlcimlencoaiiaadoor", sum := "8243e6822d03e25639f489466db6f6fd29590f961cff5053fecd9986d309f423", func := "scrinium/scriniumlaw09.LeafSplits", spec := "leafSplits", inPlace := ["internal/abi.NoEscape", "internal/bytealg.MakeNoZero"], unfollowed := true, recurses := true, named := ["scrinium/sha.keys"], apart := false, laid := [("scrinium/sha.keys", laid_scrinium_sha_keys)], narrowed := true }
def LeafSplitsUptoSaid : Prop := leafSplitsUptoRow.holds Tryd.pinned (OpenSpec.upto leafSplitsSpec)

/-- 'scriniumlaw15.RecordBytes', WHERE WHAT IT READS IS OF BULK AT MOST 1048576: true; the input reads as it did. -/
def recordBytesUptoRow : OpenClaim := { program := "ytlcimlencoaiiaadoor", sum := "8243e6822d03e25639f489466db6f6fd29590f961cff5053fecd9986d309f423", func := "scrinium/scriniumlaw15.RecordBytes", spec := "recordBytes", inPlace := ["internal/abi.NoEscape", "internal/bytealg.MakeNoZero"], unfollowed := true, recurses := true, named := ["scrinium/sha.keys"], apart := false, laid := [("scrinium/sha.keys", laid_scrinium_sha_keys)], narrowed := true }
def RecordBytesUptoSaid : Prop := recordBytesUptoRow.holds Tryd.pinned (OpenSpec.upto recordBytesSpec)

/-- 'scriniumlaw11.FrontGrows', WHERE WHAT IT READS IS OF BULK AT MOST 1048576: true; the input reads as it did. -/
def frontGrowsUptoRow : OpenClaim := { program := "ytlcimlencoaiiaadoor", sum := "8243e6822d03e25639f489466db6f6fd29590f961cff5053fecd9986d309f423", func := "scrinium/scriniumlaw11.FrontGrows", spec := "frontGrows", inPlace := ["internal/abi.NoEscape", "internal/bytealg.MakeNoZero"], unfollowed := true, recurses := true, named := ["scrinium/sha.keys"], apart := false, laid := [("scrinium/sha.keys", laid_scrinium_sha_keys)], narrowed := true }
def FrontGrowsUptoSaid : Prop := frontGrowsUptoRow.holds Tryd.pinned (OpenSpec.upto frontGrowsSpec)

/-- 'scriniumlaw11.FrontPeaks', WHERE WHAT IT READS IS OF BULK AT MOST 1048576: true; the input reads as it did. -/
def frontPeaksUptoRow : OpenClaim := { program := "ytlcimlencoaiiaadoor", sum := "8243e6822d03e25639f489466db6f6fd29590f961cff5053fecd9986d309f423", func := "scrinium/scriniumlaw11.FrontPeaks", spec := "frontPeaks", inPlace := ["internal/abi.NoEscape", "internal/bytealg.MakeNoZero"], unfollowed := true, recurses := true, named := ["scrinium/sha.keys"], apart := false, laid := [("scrinium/sha.keys", laid_scrinium_sha_keys)], narrowed := true }
def FrontPeaksUptoSaid : Prop := frontPeaksUptoRow.holds Tryd.pinned (OpenSpec.upto frontPeaksSpec)

/-- 'scriniumlaw11.FrontNil', WHERE WHAT IT READS IS OF BULK AT MOST 1048576: true; the input reads as it did. -/
def frontNilUptoRow : OpenClaim := { program := "ytlcimlencoaiiaadoor", sum := "8243e6822d03e25639f489466db6f6fd29590f961cff5053fecd9986d309f423", func := "scrinium/scriniumlaw11.FrontNil", spec := "frontNil", inPlace := ["internal/abi.NoEscape", "internal/bytealg.MakeNoZero"], unfollowed := true, recurses := true, named := ["scrinium/sha.keys"], apart := false, laid := [("scrinium/sha.keys", laid_scrinium_sha_keys)], narrowed := true }
def FrontNilUptoSaid : Prop := frontNilUptoRow.holds Tryd.pinned (OpenSpec.upto frontNilSpec)

/-- 'scriniumlaw11.FrontReads', WHERE WHAT IT READS IS OF BULK AT MOST 1048576: true; the input reads as it did. -/
def frontReadsUptoRow : OpenClaim := { program := "ytlcimlencoaiiaadoor", sum := "8243e6822d03e25639f489466db6f6fd29590f961cff5053fecd9986d309f423", func := "scrinium/scriniumlaw11.FrontReads", spec := "frontReads", inPlace := ["internal/abi.NoEscape", "internal/bytealg.MakeNoZero"], unfollowed := true, recurses := true, named := ["scrinium/sha.keys"], apart := false, laid := [("scrinium/sha.keys", laid_scrinium_sha_keys)], narrowed := true }
def FrontReadsUptoSaid : Prop := frontReadsUptoRow.holds Tryd.pinned (OpenSpec.upto frontReadsSpec)

/-- 'scriniumlaw11.FrontFull', WHERE WHAT IT READS IS OF BULK AT MOST 1048576: true; the input reads as it did. -/
def frontFullUptoRow : OpenClaim := { program := "ytlcimlencoaiiaadoor", sum := "8243e6822d03e25639f489466db6f6fd29590f961cff5053fecd9986d309f423", func := "scrinium/scriniumlaw11.FrontFull", spec := "frontFull", inPlace := ["internal/abi.NoEscape", "internal/bytealg.MakeNoZero"], unfollowed := true, recurses := true, named := ["scrinium/sha.keys"], apart := false, laid := [("scrinium/sha.keys", laid_scrinium_sha_keys)], narrowed := true }
def FrontFullUptoSaid : Prop := frontFullUptoRow.holds Tryd.pinned (OpenSpec.upto frontFullSpec)

/-- 'scriniumlaw11.FrontBack', WHERE WHAT IT READS IS OF BULK AT MOST 1048576: true; the input reads as it did. -/
def frontBackUptoRow : OpenClaim := { program := "ytlcimlencoaiiaadoor", sum := "8243e6822d03e25639f489466db6f6fd29590f961cff5053fecd9986d309f423", func := "scrinium/scriniumlaw11.FrontBack", spec := "frontBack", inPlace := ["internal/abi.NoEscape", "internal/bytealg.MakeNoZero"], unfollowed := true, recurses := true, named := ["scrinium/sha.keys"], apart := false, laid := [("scrinium/sha.keys", laid_scrinium_sha_keys)], narrowed := true }
def FrontBackUptoSaid : Prop := frontBackUptoRow.holds Tryd.pinned (OpenSpec.upto frontBackSpec)

end Rows
end Go.Proofs.YtlcimlencoaiiaaDoor
