/-
  No cell of these rows narrows 'for every input' (looked for: loops, veiled, ifaces, maps, wideKeys, modest, calm, conditions, laid).
  DERIVED. THE GIVEN ROWS OF THIS SEAT. 13 by the template 'for every input the law returns true; each argument reads behind the call as it read before'; 0 by the template 'total and deterministic' (their statements: YtnpmojfjoemelaaTotals.lean).
  GIVEN WITH THE SEED: the statements are not yours to turn. If you find one false, say at which input.
  Laid BY PROGRAM, IN A SANDBOX (cutbox-rows.mjs): the forced cells as the released guide's own fill.sh prints them over the translation 752a2fda6b2bf298… (all of the seat's roots in one cut). By AI agents, Wed Nov 11 2026. No macro, syntax, notation, axiom, sorry.
-/
import Derived.Test.YtnpmojfjoemelaaChecked
import GoSem.Claim
import GoSem.ClaimJoined
import GoSem.ClaimMapViews
import Derived.JoinedTies
import Derived.KernelRfl
namespace Go.Proofs.Ytnpmojfjoemelaa
/- THE CELL 'sum', in the pinned program and in every row, IS THE sha256 OF THE DUMP (.gsa) THAT YtnpmojfjoemelaaProg.lean LOADS. Nothing in Lean hashes anything: it is a label: what it is worth is what the hold of that sum in a sandbox is worth. -/
noncomputable def Try.pinned : Pinned := { name := "ytnpmojfjoemelaa", sum := "752a2fda6b2bf298c7cd2c7a1b36f7e22dbe7736517b825f14ba19b6c3a2f0d5", checked := Try.checked }
namespace Rows
def none {H : Type} : Left H := { results := [], args := [] }

/-- 'scriniumlaw01.OctetOrder': WHATEVER THE INPUT: true; the input reads as it did. -/
def octetOrderSpec : ChangeSpec := { name := "octetOrder", fn := fun _ => fun
  | [d1, d2] => { results := [.lit (.bool true)], args := [d1, d2] }
  | _ => none }
def octetOrderRow : OpenClaim := { program := "ytnpmojfjoemelaa", sum := "752a2fda6b2bf298c7cd2c7a1b36f7e22dbe7736517b825f14ba19b6c3a2f0d5", func := "scrinium/scriniumlaw01.OctetOrder", spec := "octetOrder", apart := false }
def OctetOrderSaid : Prop := octetOrderRow.holds Try.pinned (OpenSpec.ofChange octetOrderSpec)

/-- ITS FALSE NEIGHBOUR: 'it returns false'. Refute it at one input. -/
def octetOrderWrong : ChangeSpec := { name := "octetOrder", fn := fun _ => fun
  | [d1, d2] => { results := [.lit (.bool false)], args := [d1, d2] }
  | _ => none }
def OctetOrderWrongFalsely : Prop := octetOrderRow.holds Try.pinned (OpenSpec.ofChange octetOrderWrong)

/-- 'scriniumlaw15.RecordOne': WHATEVER THE INPUT: true; the input reads as it did. -/
def recordOneSpec : ChangeSpec := { name := "recordOne", fn := fun _ => fun
  | [d1, d2] => { results := [.lit (.bool true)], args := [d1, d2] }
  | _ => none }
def recordOneRow : OpenClaim := { program := "ytnpmojfjoemelaa", sum := "752a2fda6b2bf298c7cd2c7a1b36f7e22dbe7736517b825f14ba19b6c3a2f0d5", func := "scrinium/scriniumlaw15.RecordOne", spec := "recordOne", inPlace := ["internal/abi.NoEscape"], unfollowed := true, recurses := true, apart := false }
def RecordOneSaid : Prop := recordOneRow.holds Try.pinned (OpenSpec.ofChange recordOneSpec)

/-- ITS FALSE NEIGHBOUR: 'it returns false'. Refute it at one input. -/
def recordOneWrong : ChangeSpec := { name := "recordOne", fn := fun _ => fun
  | [d1, d2] => { results := [.lit (.bool false)], args := [d1, d2] }
  | _ => none }
def RecordOneWrongFalsely : Prop := recordOneRow.holds Try.pinned (OpenSpec.ofChange recordOneWrong)

/-- 'scriniumlaw15.RecordJoins': WHATEVER THE INPUT: true; the input reads as it did. -/
def recordJoinsSpec : ChangeSpec := { name := "recordJoins", fn := fun _ => fun
  | [d1, d2] => { results := [.lit (.bool true)], args := [d1, d2] }
  | _ => none }
def recordJoinsRow : OpenClaim := { program := "ytnpmojfjoemelaa", sum := "752a2fda6b2bf298c7cd2c7a1b36f7e22dbe7736517b825f14ba19b6c3a2f0d5", func := "scrinium/scriniumlaw15.RecordJoins", spec := "recordJoins", inPlace := ["internal/abi.NoEscape"], unfollowed := true, recurses := true, apart := false }
def RecordJoinsSaid : Prop := recordJoinsRow.holds Try.pinned (OpenSpec.ofChange recordJoinsSpec)

/-- ITS FALSE NEIGHBOUR: 'it returns false'. Refute it at one input. -/
def recordJoinsWrong : ChangeSpec := { name := "recordJoins", fn := fun _ => fun
  | [d1, d2] => { results := [.lit (.bool false)], args := [d1, d2] }
  | _ => none }
def RecordJoinsWrongFalsely : Prop := recordJoinsRow.holds Try.pinned (OpenSpec.ofChange recordJoinsWrong)

/-- 'scriniumlaw01.OctetNums': WHATEVER THE INPUT: true; the input reads as it did. -/
def octetNumsSpec : ChangeSpec := { name := "octetNums", fn := fun _ => fun
  | [d1, d2] => { results := [.lit (.bool true)], args := [d1, d2] }
  | _ => none }
def octetNumsRow : OpenClaim := { program := "ytnpmojfjoemelaa", sum := "752a2fda6b2bf298c7cd2c7a1b36f7e22dbe7736517b825f14ba19b6c3a2f0d5", func := "scrinium/scriniumlaw01.OctetNums", spec := "octetNums", apart := false }
def OctetNumsSaid : Prop := octetNumsRow.holds Try.pinned (OpenSpec.ofChange octetNumsSpec)

/-- ITS FALSE NEIGHBOUR: 'it returns false'. Refute it at one input. -/
def octetNumsWrong : ChangeSpec := { name := "octetNums", fn := fun _ => fun
  | [d1, d2] => { results := [.lit (.bool false)], args := [d1, d2] }
  | _ => none }
def OctetNumsWrongFalsely : Prop := octetNumsRow.holds Try.pinned (OpenSpec.ofChange octetNumsWrong)

/-- 'scriniumlaw01.OctetOne': WHATEVER THE INPUT: true; the input reads as it did. -/
def octetOneSpec : ChangeSpec := { name := "octetOne", fn := fun _ => fun
  | [d1, d2, d3] => { results := [.lit (.bool true)], args := [d1, d2, d3] }
  | _ => none }
def octetOneRow : OpenClaim := { program := "ytnpmojfjoemelaa", sum := "752a2fda6b2bf298c7cd2c7a1b36f7e22dbe7736517b825f14ba19b6c3a2f0d5", func := "scrinium/scriniumlaw01.OctetOne", spec := "octetOne", inPlace := ["internal/abi.NoEscape"], apart := false }
def OctetOneSaid : Prop := octetOneRow.holds Try.pinned (OpenSpec.ofChange octetOneSpec)

/-- ITS FALSE NEIGHBOUR: 'it returns false'. Refute it at one input. -/
def octetOneWrong : ChangeSpec := { name := "octetOne", fn := fun _ => fun
  | [d1, d2, d3] => { results := [.lit (.bool false)], args := [d1, d2, d3] }
  | _ => none }
def OctetOneWrongFalsely : Prop := octetOneRow.holds Try.pinned (OpenSpec.ofChange octetOneWrong)

/-- 'scriniumlaw01.OctetPuts': WHATEVER THE INPUT: true; the input reads as it did. -/
def octetPutsSpec : ChangeSpec := { name := "octetPuts", fn := fun _ => fun
  | [d1, d2, d3] => { results := [.lit (.bool true)], args := [d1, d2, d3] }
  | _ => none }
def octetPutsRow : OpenClaim := { program := "ytnpmojfjoemelaa", sum := "752a2fda6b2bf298c7cd2c7a1b36f7e22dbe7736517b825f14ba19b6c3a2f0d5", func := "scrinium/scriniumlaw01.OctetPuts", spec := "octetPuts", inPlace := ["internal/abi.NoEscape"], apart := false }
def OctetPutsSaid : Prop := octetPutsRow.holds Try.pinned (OpenSpec.ofChange octetPutsSpec)

/-- ITS FALSE NEIGHBOUR: 'it returns false'. Refute it at one input. -/
def octetPutsWrong : ChangeSpec := { name := "octetPuts", fn := fun _ => fun
  | [d1, d2, d3] => { results := [.lit (.bool false)], args := [d1, d2, d3] }
  | _ => none }
def OctetPutsWrongFalsely : Prop := octetPutsRow.holds Try.pinned (OpenSpec.ofChange octetPutsWrong)

/-- 'scriniumlaw01.OctetReads': WHATEVER THE INPUT: true; the input reads as it did. -/
def octetReadsSpec : ChangeSpec := { name := "octetReads", fn := fun _ => fun
  | [d1, d2] => { results := [.lit (.bool true)], args := [d1, d2] }
  | _ => none }
def octetReadsRow : OpenClaim := { program := "ytnpmojfjoemelaa", sum := "752a2fda6b2bf298c7cd2c7a1b36f7e22dbe7736517b825f14ba19b6c3a2f0d5", func := "scrinium/scriniumlaw01.OctetReads", spec := "octetReads", unfollowed := true, recurses := true, apart := false }
def OctetReadsSaid : Prop := octetReadsRow.holds Try.pinned (OpenSpec.ofChange octetReadsSpec)

/-- ITS FALSE NEIGHBOUR: 'it returns false'. Refute it at one input. -/
def octetReadsWrong : ChangeSpec := { name := "octetReads", fn := fun _ => fun
  | [d1, d2] => { results := [.lit (.bool false)], args := [d1, d2] }
  | _ => none }
def OctetReadsWrongFalsely : Prop := octetReadsRow.holds Try.pinned (OpenSpec.ofChange octetReadsWrong)

/-- 'scriniumlaw01.OctetNil': WHATEVER THE INPUT: true; the input reads as it did. -/
def octetNilSpec : ChangeSpec := { name := "octetNil", fn := fun _ => fun
  | [d] => { results := [.lit (.bool true)], args := [d] }
  | _ => none }
def octetNilRow : OpenClaim := { program := "ytnpmojfjoemelaa", sum := "752a2fda6b2bf298c7cd2c7a1b36f7e22dbe7736517b825f14ba19b6c3a2f0d5", func := "scrinium/scriniumlaw01.OctetNil", spec := "octetNil", unfollowed := true, recurses := true, apart := false }
def OctetNilSaid : Prop := octetNilRow.holds Try.pinned (OpenSpec.ofChange octetNilSpec)

/-- ITS FALSE NEIGHBOUR: 'it returns false'. Refute it at one input. -/
def octetNilWrong : ChangeSpec := { name := "octetNil", fn := fun _ => fun
  | [d] => { results := [.lit (.bool false)], args := [d] }
  | _ => none }
def OctetNilWrongFalsely : Prop := octetNilRow.holds Try.pinned (OpenSpec.ofChange octetNilWrong)

/-- 'scriniumlaw01.OctetBack': WHATEVER THE INPUT: true; the input reads as it did. -/
def octetBackSpec : ChangeSpec := { name := "octetBack", fn := fun _ => fun
  | [d1, d2, d3] => { results := [.lit (.bool true)], args := [d1, d2, d3] }
  | _ => none }
def octetBackRow : OpenClaim := { program := "ytnpmojfjoemelaa", sum := "752a2fda6b2bf298c7cd2c7a1b36f7e22dbe7736517b825f14ba19b6c3a2f0d5", func := "scrinium/scriniumlaw01.OctetBack", spec := "octetBack", inPlace := ["internal/abi.NoEscape"], unfollowed := true, recurses := true, apart := false }
def OctetBackSaid : Prop := octetBackRow.holds Try.pinned (OpenSpec.ofChange octetBackSpec)

/-- ITS FALSE NEIGHBOUR: 'it returns false'. Refute it at one input. -/
def octetBackWrong : ChangeSpec := { name := "octetBack", fn := fun _ => fun
  | [d1, d2, d3] => { results := [.lit (.bool false)], args := [d1, d2, d3] }
  | _ => none }
def OctetBackWrongFalsely : Prop := octetBackRow.holds Try.pinned (OpenSpec.ofChange octetBackWrong)

/-- 'scriniumlaw01.OctetCuts': WHATEVER THE INPUT: true; the input reads as it did. -/
def octetCutsSpec : ChangeSpec := { name := "octetCuts", fn := fun _ => fun
  | [d1, d2] => { results := [.lit (.bool true)], args := [d1, d2] }
  | _ => none }
def octetCutsRow : OpenClaim := { program := "ytnpmojfjoemelaa", sum := "752a2fda6b2bf298c7cd2c7a1b36f7e22dbe7736517b825f14ba19b6c3a2f0d5", func := "scrinium/scriniumlaw01.OctetCuts", spec := "octetCuts", inPlace := ["internal/abi.NoEscape"], unfollowed := true, recurses := true, apart := false }
def OctetCutsSaid : Prop := octetCutsRow.holds Try.pinned (OpenSpec.ofChange octetCutsSpec)

/-- ITS FALSE NEIGHBOUR: 'it returns false'. Refute it at one input. -/
def octetCutsWrong : ChangeSpec := { name := "octetCuts", fn := fun _ => fun
  | [d1, d2] => { results := [.lit (.bool false)], args := [d1, d2] }
  | _ => none }
def OctetCutsWrongFalsely : Prop := octetCutsRow.holds Try.pinned (OpenSpec.ofChange octetCutsWrong)

/-- 'scriniumlaw15.RecordRows': WHATEVER THE INPUT: true; the input reads as it did. -/
def recordRowsSpec : ChangeSpec := { name := "recordRows", fn := fun _ => fun
  | [d1, d2] => { results := [.lit (.bool true)], args := [d1, d2] }
  | _ => none }
def recordRowsRow : OpenClaim := { program := "ytnpmojfjoemelaa", sum := "752a2fda6b2bf298c7cd2c7a1b36f7e22dbe7736517b825f14ba19b6c3a2f0d5", func := "scrinium/scriniumlaw15.RecordRows", spec := "recordRows", inPlace := ["internal/abi.NoEscape"], unfollowed := true, recurses := true, apart := false }
def RecordRowsSaid : Prop := recordRowsRow.holds Try.pinned (OpenSpec.ofChange recordRowsSpec)

/-- ITS FALSE NEIGHBOUR: 'it returns false'. Refute it at one input. -/
def recordRowsWrong : ChangeSpec := { name := "recordRows", fn := fun _ => fun
  | [d1, d2] => { results := [.lit (.bool false)], args := [d1, d2] }
  | _ => none }
def RecordRowsWrongFalsely : Prop := recordRowsRow.holds Try.pinned (OpenSpec.ofChange recordRowsWrong)

/-- 'scriniumlaw15.RecordMany': WHATEVER THE INPUT: true; the input reads as it did. -/
def recordManySpec : ChangeSpec := { name := "recordMany", fn := fun _ => fun
  | [d] => { results := [.lit (.bool true)], args := [d] }
  | _ => none }
def recordManyRow : OpenClaim := { program := "ytnpmojfjoemelaa", sum := "752a2fda6b2bf298c7cd2c7a1b36f7e22dbe7736517b825f14ba19b6c3a2f0d5", func := "scrinium/scriniumlaw15.RecordMany", spec := "recordMany", inPlace := ["internal/abi.NoEscape"], unfollowed := true, recurses := true, apart := false }
def RecordManySaid : Prop := recordManyRow.holds Try.pinned (OpenSpec.ofChange recordManySpec)

/-- ITS FALSE NEIGHBOUR: 'it returns false'. Refute it at one input. -/
def recordManyWrong : ChangeSpec := { name := "recordMany", fn := fun _ => fun
  | [d] => { results := [.lit (.bool false)], args := [d] }
  | _ => none }
def RecordManyWrongFalsely : Prop := recordManyRow.holds Try.pinned (OpenSpec.ofChange recordManyWrong)

/-- 'scriniumlaw15.RecordReads': WHATEVER THE INPUT: true; the input reads as it did. -/
def recordReadsSpec : ChangeSpec := { name := "recordReads", fn := fun _ => fun
  | [d1, d2] => { results := [.lit (.bool true)], args := [d1, d2] }
  | _ => none }
def recordReadsRow : OpenClaim := { program := "ytnpmojfjoemelaa", sum := "752a2fda6b2bf298c7cd2c7a1b36f7e22dbe7736517b825f14ba19b6c3a2f0d5", func := "scrinium/scriniumlaw15.RecordReads", spec := "recordReads", inPlace := ["internal/abi.NoEscape"], unfollowed := true, recurses := true, apart := false }
def RecordReadsSaid : Prop := recordReadsRow.holds Try.pinned (OpenSpec.ofChange recordReadsSpec)

/-- ITS FALSE NEIGHBOUR: 'it returns false'. Refute it at one input. -/
def recordReadsWrong : ChangeSpec := { name := "recordReads", fn := fun _ => fun
  | [d1, d2] => { results := [.lit (.bool false)], args := [d1, d2] }
  | _ => none }
def RecordReadsWrongFalsely : Prop := recordReadsRow.holds Try.pinned (OpenSpec.ofChange recordReadsWrong)

/- THE SECOND FORM. 'bulk': how many values and letters a reading holds, each counted each time it is reached (what is shared counts as often as it is met; a slice's spare places count too). A statement '..UptoSaid' is the law's where the arguments, and the package variables that the reading takes, are together of bulk at most 1048576: NARROWER than '..Said'. Prove '..Said' where nothing that the law and all that it calls make is longer than what came in: it says more and counts as full. Else prove '..UptoSaid'. A law counts once. -/
mutual
def uptoBulk {H : Type} : DataW H → Nat
  | .lit (.string bytes) => bytes.length + 1
  | .lit _ => 1
  | .nil => 1
  | .ptr d => uptoBulk d + 1
  | .slice elems spare => uptoBulkAll elems + uptoBulkAll spare + 1
  | .agg parts => uptoBulkAll parts + 1
  | .iface _ d => uptoBulk d + 1
  | .map entries => uptoBulkEntries entries + 1
  | .held _ => 1
def uptoBulkAll {H : Type} : List (DataW H) → Nat
  | [] => 0
  | d :: r => uptoBulk d + uptoBulkAll r
def uptoBulkEntries {H : Type} : List (Lit × DataW H) → Nat
  | [] => 0
  | x :: r => uptoBulkEntry x + uptoBulkEntries r
def uptoBulkEntry {H : Type} : Lit × DataW H → Nat
  | (.string bytes, d) => bytes.length + uptoBulk d + 1
  | (_, d) => uptoBulk d + 1
 end
def uptoSmall : (H : Type) → List (DataW H) → Bool := fun _ ds => decide (uptoBulkAll ds ≤ 1048576)
def OpenSpec.upto (s : _root_.Go.ChangeSpec) : _root_.Go.OpenSpec := { _root_.Go.OpenSpec.ofChange s with cond := some uptoSmall }

/-- 'scriniumlaw01.OctetOrder', WHERE WHAT IT READS IS OF BULK AT MOST 1048576: true; the input reads as it did. -/
def octetOrderUptoRow : OpenClaim := { program := "ytnpmojfjoemelaa", sum := "752a2fda6b2bf298c7cd2c7a1b36f7e22dbe7736517b825f14ba19b6c3a2f0d5", func := "scrinium/scriniumlaw01.OctetOrder", spec := "octetOrder", apart := false, narrowed := true }
def OctetOrderUptoSaid : Prop := octetOrderUptoRow.holds Try.pinned (OpenSpec.upto octetOrderSpec)

/-- 'scriniumlaw15.RecordOne', WHERE WHAT IT READS IS OF BULK AT MOST 1048576: true; the input reads as it did. -/
def recordOneUptoRow : OpenClaim := { program := "ytnpmojfjoemelaa", sum := "752a2fda6b2bf298c7cd2c7a1b36f7e22dbe7736517b825f14ba19b6c3a2f0d5", func := "scrinium/scriniumlaw15.RecordOne", spec := "recordOne", inPlace := ["internal/abi.NoEscape"], unfollowed := true, recurses := true, apart := false, narrowed := true }
def RecordOneUptoSaid : Prop := recordOneUptoRow.holds Try.pinned (OpenSpec.upto recordOneSpec)

/-- 'scriniumlaw15.RecordJoins', WHERE WHAT IT READS IS OF BULK AT MOST 1048576: true; the input reads as it did. -/
def recordJoinsUptoRow : OpenClaim := { program := "ytnpmojfjoemelaa", sum := "752a2fda6b2bf298c7cd2c7a1b36f7e22dbe7736517b825f14ba19b6c3a2f0d5", func := "scrinium/scriniumlaw15.RecordJoins", spec := "recordJoins", inPlace := ["internal/abi.NoEscape"], unfollowed := true, recurses := true, apart := false, narrowed := true }
def RecordJoinsUptoSaid : Prop := recordJoinsUptoRow.holds Try.pinned (OpenSpec.upto recordJoinsSpec)

/-- 'scriniumlaw01.OctetNums', WHERE WHAT IT READS IS OF BULK AT MOST 1048576: true; the input reads as it did. -/
def octetNumsUptoRow : OpenClaim := { program := "ytnpmojfjoemelaa", sum := "752a2fda6b2bf298c7cd2c7a1b36f7e22dbe7736517b825f14ba19b6c3a2f0d5", func := "scrinium/scriniumlaw01.OctetNums", spec := "octetNums", apart := false, narrowed := true }
def OctetNumsUptoSaid : Prop := octetNumsUptoRow.holds Try.pinned (OpenSpec.upto octetNumsSpec)

/-- 'scriniumlaw01.OctetOne', WHERE WHAT IT READS IS OF BULK AT MOST 1048576: true; the input reads as it did. -/
def octetOneUptoRow : OpenClaim := { program := "ytnpmojfjoemelaa", sum := "752a2fda6b2bf298c7cd2c7a1b36f7e22dbe7736517b825f14ba19b6c3a2f0d5", func := "scrinium/scriniumlaw01.OctetOne", spec := "octetOne", inPlace := ["internal/abi.NoEscape"], apart := false, narrowed := true }
def OctetOneUptoSaid : Prop := octetOneUptoRow.holds Try.pinned (OpenSpec.upto octetOneSpec)

/-- 'scriniumlaw01.OctetPuts', WHERE WHAT IT READS IS OF BULK AT MOST 1048576: true; the input reads as it did. -/
def octetPutsUptoRow : OpenClaim := { program := "ytnpmojfjoemelaa", sum := "752a2fda6b2bf298c7cd2c7a1b36f7e22dbe7736517b825f14ba19b6c3a2f0d5", func := "scrinium/scriniumlaw01.OctetPuts", spec := "octetPuts", inPlace := ["internal/abi.NoEscape"], apart := false, narrowed := true }
def OctetPutsUptoSaid : Prop := octetPutsUptoRow.holds Try.pinned (OpenSpec.upto octetPutsSpec)

/-- 'scriniumlaw01.OctetReads', WHERE WHAT IT READS IS OF BULK AT MOST 1048576: true; the input reads as it did. -/
def octetReadsUptoRow : OpenClaim := { program := "ytnpmojfjoemelaa", sum := "752a2fda6b2bf298c7cd2c7a1b36f7e22dbe7736517b825f14ba19b6c3a2f0d5", func := "scrinium/scriniumlaw01.OctetReads", spec := "octetReads", unfollowed := true, recurses := true, apart := false, narrowed := true }
def OctetReadsUptoSaid : Prop := octetReadsUptoRow.holds Try.pinned (OpenSpec.upto octetReadsSpec)

/-- 'scriniumlaw01.OctetNil', WHERE WHAT IT READS IS OF BULK AT MOST 1048576: true; the input reads as it did. -/
def octetNilUptoRow : OpenClaim := { program := "ytnpmojfjoemelaa", sum := "752a2fda6b2bf298c7cd2c7a1b36f7e22dbe7736517b825f14ba19b6c3a2f0d5", func := "scrinium/scriniumlaw01.OctetNil", spec := "octetNil", unfollowed := true, recurses := true, apart := false, narrowed := true }
def OctetNilUptoSaid : Prop := octetNilUptoRow.holds Try.pinned (OpenSpec.upto octetNilSpec)

/-- 'scriniumlaw01.OctetBack', WHERE WHAT IT READS IS OF BULK AT MOST 1048576: true; the input reads as it did. -/
def octetBackUptoRow : OpenClaim := { program := "ytnpmojfjoemelaa", sum := "752a2fda6b2bf298c7cd2c7a1b36f7e22dbe7736517b825f14ba19b6c3a2f0d5", func := "scrinium/scriniumlaw01.OctetBack", spec := "octetBack", inPlace := ["internal/abi.NoEscape"], unfollowed := true, recurses := true, apart := false, narrowed := true }
def OctetBackUptoSaid : Prop := octetBackUptoRow.holds Try.pinned (OpenSpec.upto octetBackSpec)

/-- 'scriniumlaw01.OctetCuts', WHERE WHAT IT READS IS OF BULK AT MOST 1048576: true; the input reads as it did. -/
def octetCutsUptoRow : OpenClaim := { program := "ytnpmojfjoemelaa", sum := "752a2fda6b2bf298c7cd2c7a1b36f7e22dbe7736517b825f14ba19b6c3a2f0d5", func := "scrinium/scriniumlaw01.OctetCuts", spec := "octetCuts", inPlace := ["internal/abi.NoEscape"], unfollowed := true, recurses := true, apart := false, narrowed := true }
def OctetCutsUptoSaid : Prop := octetCutsUptoRow.holds Try.pinned (OpenSpec.upto octetCutsSpec)

/-- 'scriniumlaw15.RecordRows', WHERE WHAT IT READS IS OF BULK AT MOST 1048576: true; the input reads as it did. -/
def recordRowsUptoRow : OpenClaim := { program := "ytnpmojfjoemelaa", sum := "752a2fda6b2bf298c7cd2c7a1b36f7e22dbe7736517b825f14ba19b6c3a2f0d5", func := "scrinium/scriniumlaw15.RecordRows", spec := "recordRows", inPlace := ["internal/abi.NoEscape"], unfollowed := true, recurses := true, apart := false, narrowed := true }
def RecordRowsUptoSaid : Prop := recordRowsUptoRow.holds Try.pinned (OpenSpec.upto recordRowsSpec)

/-- 'scriniumlaw15.RecordMany', WHERE WHAT IT READS IS OF BULK AT MOST 1048576: true; the input reads as it did. -/
def recordManyUptoRow : OpenClaim := { program := "ytnpmojfjoemelaa", sum := "752a2fda6b2bf298c7cd2c7a1b36f7e22dbe7736517b825f14ba19b6c3a2f0d5", func := "scrinium/scriniumlaw15.RecordMany", spec := "recordMany", inPlace := ["internal/abi.NoEscape"], unfollowed := true, recurses := true, apart := false, narrowed := true }
def RecordManyUptoSaid : Prop := recordManyUptoRow.holds Try.pinned (OpenSpec.upto recordManySpec)

/-- 'scriniumlaw15.RecordReads', WHERE WHAT IT READS IS OF BULK AT MOST 1048576: true; the input reads as it did. -/
def recordReadsUptoRow : OpenClaim := { program := "ytnpmojfjoemelaa", sum := "752a2fda6b2bf298c7cd2c7a1b36f7e22dbe7736517b825f14ba19b6c3a2f0d5", func := "scrinium/scriniumlaw15.RecordReads", spec := "recordReads", inPlace := ["internal/abi.NoEscape"], unfollowed := true, recurses := true, apart := false, narrowed := true }
def RecordReadsUptoSaid : Prop := recordReadsUptoRow.holds Try.pinned (OpenSpec.upto recordReadsSpec)

end Rows
end Go.Proofs.Ytnpmojfjoemelaa
