/-
  No cell of these rows narrows 'for every input' (looked for: loops, veiled, ifaces, maps, wideKeys, modest, calm, conditions, laid).
  DERIVED. THE GIVEN ROWS OF THIS SEAT. 13 by the template 'for every input the law returns true; each argument reads behind the call as it read before'; 0 by the template 'total and deterministic' (their statements: YtdiapljnhlonlaaTotals.lean).
  GIVEN WITH THE SEED: the statements are not yours to turn. If you find one false, say at which input.
  Laid BY PROGRAM, IN A SANDBOX (cutbox-rows.mjs): the forced cells as the released guide's own fill.sh prints them over the translation f659636ee9e958b4… (all of the seat's roots in one cut). By AI agents, Wed Nov 11 2026. No macro, syntax, notation, axiom, sorry.
-/
import Derived.Test.YtdiapljnhlonlaaChecked
import GoSem.Claim
import GoSem.ClaimJoined
import GoSem.ClaimMapViews
import Derived.JoinedTies
import Derived.KernelRfl
namespace Go.Proofs.Ytdiapljnhlonlaa
/- THE CELL 'sum', in the pinned program and in every row, IS THE sha256 OF THE DUMP (.gsa) THAT YtdiapljnhlonlaaProg.lean LOADS. Nothing in Lean hashes anything: it is a label: what it is worth is what the hold of that sum in a sandbox is worth. -/
noncomputable def Try.pinned : Pinned := { name := "ytdiapljnhlonlaa", sum := "f659636ee9e958b402596ccc5f47b921a60299f68089e72c4f81bda8c5113381", checked := Try.checked }
namespace Rows
def none {H : Type} : Left H := { results := [], args := [] }

/-- 'wainloadlaw02.CheckTables': WHATEVER THE INPUT: true; the input reads as it did. -/
def checkTablesSpec : ChangeSpec := { name := "checkTables", fn := fun _ => fun
  | [d] => { results := [.lit (.bool true)], args := [d] }
  | _ => none }
def checkTablesRow : OpenClaim := { program := "ytdiapljnhlonlaa", sum := "f659636ee9e958b402596ccc5f47b921a60299f68089e72c4f81bda8c5113381", func := "wainload/wainloadlaw02.CheckTables", spec := "checkTables", apart := false }
def CheckTablesSaid : Prop := checkTablesRow.holds Try.pinned (OpenSpec.ofChange checkTablesSpec)

/-- ITS FALSE NEIGHBOUR: 'it returns false'. Refute it at one input. -/
def checkTablesWrong : ChangeSpec := { name := "checkTables", fn := fun _ => fun
  | [d] => { results := [.lit (.bool false)], args := [d] }
  | _ => none }
def CheckTablesWrongFalsely : Prop := checkTablesRow.holds Try.pinned (OpenSpec.ofChange checkTablesWrong)

/-- 'wainloadlaw02.CheckSums': WHATEVER THE INPUT: true; the input reads as it did. -/
def checkSumsSpec : ChangeSpec := { name := "checkSums", fn := fun _ => fun
  | [d] => { results := [.lit (.bool true)], args := [d] }
  | _ => none }
def checkSumsRow : OpenClaim := { program := "ytdiapljnhlonlaa", sum := "f659636ee9e958b402596ccc5f47b921a60299f68089e72c4f81bda8c5113381", func := "wainload/wainloadlaw02.CheckSums", spec := "checkSums", apart := false }
def CheckSumsSaid : Prop := checkSumsRow.holds Try.pinned (OpenSpec.ofChange checkSumsSpec)

/-- ITS FALSE NEIGHBOUR: 'it returns false'. Refute it at one input. -/
def checkSumsWrong : ChangeSpec := { name := "checkSums", fn := fun _ => fun
  | [d] => { results := [.lit (.bool false)], args := [d] }
  | _ => none }
def CheckSumsWrongFalsely : Prop := checkSumsRow.holds Try.pinned (OpenSpec.ofChange checkSumsWrong)

/-- 'wainloadlaw02.CheckMores': WHATEVER THE INPUT: true; the input reads as it did. -/
def checkMoresSpec : ChangeSpec := { name := "checkMores", fn := fun _ => fun
  | [d1, d2] => { results := [.lit (.bool true)], args := [d1, d2] }
  | _ => none }
def checkMoresRow : OpenClaim := { program := "ytdiapljnhlonlaa", sum := "f659636ee9e958b402596ccc5f47b921a60299f68089e72c4f81bda8c5113381", func := "wainload/wainloadlaw02.CheckMores", spec := "checkMores", apart := false }
def CheckMoresSaid : Prop := checkMoresRow.holds Try.pinned (OpenSpec.ofChange checkMoresSpec)

/-- ITS FALSE NEIGHBOUR: 'it returns false'. Refute it at one input. -/
def checkMoresWrong : ChangeSpec := { name := "checkMores", fn := fun _ => fun
  | [d1, d2] => { results := [.lit (.bool false)], args := [d1, d2] }
  | _ => none }
def CheckMoresWrongFalsely : Prop := checkMoresRow.holds Try.pinned (OpenSpec.ofChange checkMoresWrong)

/-- 'wainloadlaw02.CheckBursts': WHATEVER THE INPUT: true; the input reads as it did. -/
def checkBurstsSpec : ChangeSpec := { name := "checkBursts", fn := fun _ => fun
  | [d1, d2, d3] => { results := [.lit (.bool true)], args := [d1, d2, d3] }
  | _ => none }
def checkBurstsRow : OpenClaim := { program := "ytdiapljnhlonlaa", sum := "f659636ee9e958b402596ccc5f47b921a60299f68089e72c4f81bda8c5113381", func := "wainload/wainloadlaw02.CheckBursts", spec := "checkBursts", apart := false }
def CheckBurstsSaid : Prop := checkBurstsRow.holds Try.pinned (OpenSpec.ofChange checkBurstsSpec)

/-- ITS FALSE NEIGHBOUR: 'it returns false'. Refute it at one input. -/
def checkBurstsWrong : ChangeSpec := { name := "checkBursts", fn := fun _ => fun
  | [d1, d2, d3] => { results := [.lit (.bool false)], args := [d1, d2, d3] }
  | _ => none }
def CheckBurstsWrongFalsely : Prop := checkBurstsRow.holds Try.pinned (OpenSpec.ofChange checkBurstsWrong)

/-- 'wainloadlaw02.CheckXors': WHATEVER THE INPUT: true; the input reads as it did. -/
def checkXorsSpec : ChangeSpec := { name := "checkXors", fn := fun _ => fun
  | [d1, d2, d3] => { results := [.lit (.bool true)], args := [d1, d2, d3] }
  | _ => none }
def checkXorsRow : OpenClaim := { program := "ytdiapljnhlonlaa", sum := "f659636ee9e958b402596ccc5f47b921a60299f68089e72c4f81bda8c5113381", func := "wainload/wainloadlaw02.CheckXors", spec := "checkXors", apart := false }
def CheckXorsSaid : Prop := checkXorsRow.holds Try.pinned (OpenSpec.ofChange checkXorsSpec)

/-- ITS FALSE NEIGHBOUR: 'it returns false'. Refute it at one input. -/
def checkXorsWrong : ChangeSpec := { name := "checkXors", fn := fun _ => fun
  | [d1, d2, d3] => { results := [.lit (.bool false)], args := [d1, d2, d3] }
  | _ => none }
def CheckXorsWrongFalsely : Prop := checkXorsRow.holds Try.pinned (OpenSpec.ofChange checkXorsWrong)

/-- 'wainloadlaw02.CheckJoins': WHATEVER THE INPUT: true; the input reads as it did. -/
def checkJoinsSpec : ChangeSpec := { name := "checkJoins", fn := fun _ => fun
  | [d1, d2] => { results := [.lit (.bool true)], args := [d1, d2] }
  | _ => none }
def checkJoinsRow : OpenClaim := { program := "ytdiapljnhlonlaa", sum := "f659636ee9e958b402596ccc5f47b921a60299f68089e72c4f81bda8c5113381", func := "wainload/wainloadlaw02.CheckJoins", spec := "checkJoins", apart := false }
def CheckJoinsSaid : Prop := checkJoinsRow.holds Try.pinned (OpenSpec.ofChange checkJoinsSpec)

/-- ITS FALSE NEIGHBOUR: 'it returns false'. Refute it at one input. -/
def checkJoinsWrong : ChangeSpec := { name := "checkJoins", fn := fun _ => fun
  | [d1, d2] => { results := [.lit (.bool false)], args := [d1, d2] }
  | _ => none }
def CheckJoinsWrongFalsely : Prop := checkJoinsRow.holds Try.pinned (OpenSpec.ofChange checkJoinsWrong)

/-- 'wainloadlaw02.CheckAny': WHATEVER THE INPUT: true; the input reads as it did. -/
def checkAnySpec : ChangeSpec := { name := "checkAny", fn := fun _ => fun
  | [d1, d2, d3] => { results := [.lit (.bool true)], args := [d1, d2, d3] }
  | _ => none }
def checkAnyRow : OpenClaim := { program := "ytdiapljnhlonlaa", sum := "f659636ee9e958b402596ccc5f47b921a60299f68089e72c4f81bda8c5113381", func := "wainload/wainloadlaw02.CheckAny", spec := "checkAny", apart := false }
def CheckAnySaid : Prop := checkAnyRow.holds Try.pinned (OpenSpec.ofChange checkAnySpec)

/-- ITS FALSE NEIGHBOUR: 'it returns false'. Refute it at one input. -/
def checkAnyWrong : ChangeSpec := { name := "checkAny", fn := fun _ => fun
  | [d1, d2, d3] => { results := [.lit (.bool false)], args := [d1, d2, d3] }
  | _ => none }
def CheckAnyWrongFalsely : Prop := checkAnyRow.holds Try.pinned (OpenSpec.ofChange checkAnyWrong)

/-- 'wainloadlaw01.BitsTurns': WHATEVER THE INPUT: true; the input reads as it did. -/
def bitsTurnsSpec : ChangeSpec := { name := "bitsTurns", fn := fun _ => fun
  | [d1, d2] => { results := [.lit (.bool true)], args := [d1, d2] }
  | _ => none }
def bitsTurnsRow : OpenClaim := { program := "ytdiapljnhlonlaa", sum := "f659636ee9e958b402596ccc5f47b921a60299f68089e72c4f81bda8c5113381", func := "wainload/wainloadlaw01.BitsTurns", spec := "bitsTurns", unfollowed := true, recurses := true, apart := false }
def BitsTurnsSaid : Prop := bitsTurnsRow.holds Try.pinned (OpenSpec.ofChange bitsTurnsSpec)

/-- ITS FALSE NEIGHBOUR: 'it returns false'. Refute it at one input. -/
def bitsTurnsWrong : ChangeSpec := { name := "bitsTurns", fn := fun _ => fun
  | [d1, d2] => { results := [.lit (.bool false)], args := [d1, d2] }
  | _ => none }
def BitsTurnsWrongFalsely : Prop := bitsTurnsRow.holds Try.pinned (OpenSpec.ofChange bitsTurnsWrong)

/-- 'wainloadlaw01.BitsParts': WHATEVER THE INPUT: true; the input reads as it did. -/
def bitsPartsSpec : ChangeSpec := { name := "bitsParts", fn := fun _ => fun
  | [d1, d2, d3] => { results := [.lit (.bool true)], args := [d1, d2, d3] }
  | _ => none }
def bitsPartsRow : OpenClaim := { program := "ytdiapljnhlonlaa", sum := "f659636ee9e958b402596ccc5f47b921a60299f68089e72c4f81bda8c5113381", func := "wainload/wainloadlaw01.BitsParts", spec := "bitsParts", unfollowed := true, recurses := true, apart := false }
def BitsPartsSaid : Prop := bitsPartsRow.holds Try.pinned (OpenSpec.ofChange bitsPartsSpec)

/-- ITS FALSE NEIGHBOUR: 'it returns false'. Refute it at one input. -/
def bitsPartsWrong : ChangeSpec := { name := "bitsParts", fn := fun _ => fun
  | [d1, d2, d3] => { results := [.lit (.bool false)], args := [d1, d2, d3] }
  | _ => none }
def BitsPartsWrongFalsely : Prop := bitsPartsRow.holds Try.pinned (OpenSpec.ofChange bitsPartsWrong)

/-- 'wainloadlaw01.BitsReads': WHATEVER THE INPUT: true; the input reads as it did. -/
def bitsReadsSpec : ChangeSpec := { name := "bitsReads", fn := fun _ => fun
  | [d1, d2] => { results := [.lit (.bool true)], args := [d1, d2] }
  | _ => none }
def bitsReadsRow : OpenClaim := { program := "ytdiapljnhlonlaa", sum := "f659636ee9e958b402596ccc5f47b921a60299f68089e72c4f81bda8c5113381", func := "wainload/wainloadlaw01.BitsReads", spec := "bitsReads", unfollowed := true, recurses := true, apart := false }
def BitsReadsSaid : Prop := bitsReadsRow.holds Try.pinned (OpenSpec.ofChange bitsReadsSpec)

/-- ITS FALSE NEIGHBOUR: 'it returns false'. Refute it at one input. -/
def bitsReadsWrong : ChangeSpec := { name := "bitsReads", fn := fun _ => fun
  | [d1, d2] => { results := [.lit (.bool false)], args := [d1, d2] }
  | _ => none }
def BitsReadsWrongFalsely : Prop := bitsReadsRow.holds Try.pinned (OpenSpec.ofChange bitsReadsWrong)

/-- 'wainloadlaw01.BitsWrites': WHATEVER THE INPUT: true; the input reads as it did. -/
def bitsWritesSpec : ChangeSpec := { name := "bitsWrites", fn := fun _ => fun
  | [d] => { results := [.lit (.bool true)], args := [d] }
  | _ => none }
def bitsWritesRow : OpenClaim := { program := "ytdiapljnhlonlaa", sum := "f659636ee9e958b402596ccc5f47b921a60299f68089e72c4f81bda8c5113381", func := "wainload/wainloadlaw01.BitsWrites", spec := "bitsWrites", unfollowed := true, recurses := true, apart := false }
def BitsWritesSaid : Prop := bitsWritesRow.holds Try.pinned (OpenSpec.ofChange bitsWritesSpec)

/-- ITS FALSE NEIGHBOUR: 'it returns false'. Refute it at one input. -/
def bitsWritesWrong : ChangeSpec := { name := "bitsWrites", fn := fun _ => fun
  | [d] => { results := [.lit (.bool false)], args := [d] }
  | _ => none }
def BitsWritesWrongFalsely : Prop := bitsWritesRow.holds Try.pinned (OpenSpec.ofChange bitsWritesWrong)

/-- 'wainloadlaw01.BitsOwn': WHATEVER THE INPUT: true; the input reads as it did. -/
def bitsOwnSpec : ChangeSpec := { name := "bitsOwn", fn := fun _ => fun
  | [d1, d2] => { results := [.lit (.bool true)], args := [d1, d2] }
  | _ => none }
def bitsOwnRow : OpenClaim := { program := "ytdiapljnhlonlaa", sum := "f659636ee9e958b402596ccc5f47b921a60299f68089e72c4f81bda8c5113381", func := "wainload/wainloadlaw01.BitsOwn", spec := "bitsOwn", unfollowed := true, recurses := true, apart := false }
def BitsOwnSaid : Prop := bitsOwnRow.holds Try.pinned (OpenSpec.ofChange bitsOwnSpec)

/-- ITS FALSE NEIGHBOUR: 'it returns false'. Refute it at one input. -/
def bitsOwnWrong : ChangeSpec := { name := "bitsOwn", fn := fun _ => fun
  | [d1, d2] => { results := [.lit (.bool false)], args := [d1, d2] }
  | _ => none }
def BitsOwnWrongFalsely : Prop := bitsOwnRow.holds Try.pinned (OpenSpec.ofChange bitsOwnWrong)

/-- 'wainloadlaw01.BitsBack': WHATEVER THE INPUT: true; the input reads as it did. -/
def bitsBackSpec : ChangeSpec := { name := "bitsBack", fn := fun _ => fun
  | [d] => { results := [.lit (.bool true)], args := [d] }
  | _ => none }
def bitsBackRow : OpenClaim := { program := "ytdiapljnhlonlaa", sum := "f659636ee9e958b402596ccc5f47b921a60299f68089e72c4f81bda8c5113381", func := "wainload/wainloadlaw01.BitsBack", spec := "bitsBack", unfollowed := true, recurses := true, apart := false }
def BitsBackSaid : Prop := bitsBackRow.holds Try.pinned (OpenSpec.ofChange bitsBackSpec)

/-- ITS FALSE NEIGHBOUR: 'it returns false'. Refute it at one input. -/
def bitsBackWrong : ChangeSpec := { name := "bitsBack", fn := fun _ => fun
  | [d] => { results := [.lit (.bool false)], args := [d] }
  | _ => none }
def BitsBackWrongFalsely : Prop := bitsBackRow.holds Try.pinned (OpenSpec.ofChange bitsBackWrong)

/- THE SECOND FORM. 'bulk': how many values and letters a reading holds, each counted each time it is reached (what is shared counts as often as it is met; a slice's spare places count too). A statement '..UptoSaid' is the law's where the arguments, and the package variables that the reading takes, are together of bulk at most 1048576: NARROWER than '..Said'. Prove '..Said' where nothing that the law and all that it calls make is longer than what came in: it says more and counts as full. Else prove '..UptoSaid'. A law counts once. -/
mutual
def uptoBulk {H : Type} : DataW H → Nat
  | .lit (.string bytes) => bytes.length + 1
  | .lit _ => 1
  | .nil => 1
  | .ptr d => uptoBulk d + 1
  | .slice elems spare => uptoBulkAll elems + uptoBulkAll spare + 1
  | .agg parts => uptoBulkAll parts + 1
  | .iface _ d => uptoBulk d + 1
  | .map entries => uptoBulkEntries entries + 1
  | .held _ => 1
def uptoBulkAll {H : Type} : List (DataW H) → Nat
  | [] => 0
  | d :: r => uptoBulk d + uptoBulkAll r
def uptoBulkEntries {H : Type} : List (Lit × DataW H) → Nat
  | [] => 0
  | x :: r => uptoBulkEntry x + uptoBulkEntries r
def uptoBulkEntry {H : Type} : Lit × DataW H → Nat
  | (.string bytes, d) => bytes.length + uptoBulk d + 1
  | (_, d) => uptoBulk d + 1
 end
def uptoSmall : (H : Type) → List (DataW H) → Bool := fun _ ds => decide (uptoBulkAll ds ≤ 1048576)
def OpenSpec.upto (s : _root_.Go.ChangeSpec) : _root_.Go.OpenSpec := { _root_.Go.OpenSpec.ofChange s with cond := some uptoSmall }

/-- 'wainloadlaw02.CheckTables', WHERE WHAT IT READS IS OF BULK AT MOST 1048576: true; the input reads as it did. -/
def checkTablesUptoRow : OpenClaim := { program := "ytdiapljnhlonlaa", sum := "f659636ee9e958b402596ccc5f47b921a60299f68089e72c4f81bda8c5113381", func := "wainload/wainloadlaw02.CheckTables", spec := "checkTables", apart := false, narrowed := true }
def CheckTablesUptoSaid : Prop := checkTablesUptoRow.holds Try.pinned (OpenSpec.upto checkTablesSpec)

/-- 'wainloadlaw02.CheckSums', WHERE WHAT IT READS IS OF BULK AT MOST 1048576: true; the input reads as it did. -/
def checkSumsUptoRow : OpenClaim := { program := "ytdiapljnhlonlaa", sum := "f659636ee9e958b402596ccc5f47b921a60299f68089e72c4f81bda8c5113381", func := "wainload/wainloadlaw02.CheckSums", spec := "checkSums", apart := false, narrowed := true }
def CheckSumsUptoSaid : Prop := checkSumsUptoRow.holds Try.pinned (OpenSpec.upto checkSumsSpec)

/-- 'wainloadlaw02.CheckMores', WHERE WHAT IT READS IS OF BULK AT MOST 1048576: true; the input reads as it did. -/
def checkMoresUptoRow : OpenClaim := { program := "ytdiapljnhlonlaa", sum := "f659636ee9e958b402596ccc5f47b921a60299f68089e72c4f81bda8c5113381", func := "wainload/wainloadlaw02.CheckMores", spec := "checkMores", apart := false, narrowed := true }
def CheckMoresUptoSaid : Prop := checkMoresUptoRow.holds Try.pinned (OpenSpec.upto checkMoresSpec)

/-- 'wainloadlaw02.CheckBursts', WHERE WHAT IT READS IS OF BULK AT MOST 1048576: true; the input reads as it did. -/
def checkBurstsUptoRow : OpenClaim := { program := "ytdiapljnhlonlaa", sum := "f659636ee9e958b402596ccc5f47b921a60299f68089e72c4f81bda8c5113381", func := "wainload/wainloadlaw02.CheckBursts", spec := "checkBursts", apart := false, narrowed := true }
def CheckBurstsUptoSaid : Prop := checkBurstsUptoRow.holds Try.pinned (OpenSpec.upto checkBurstsSpec)

/-- 'wainloadlaw02.CheckXors', WHERE WHAT IT READS IS OF BULK AT MOST 1048576: true; the input reads as it did. -/
def checkXorsUptoRow : OpenClaim := { program := "ytdiapljnhlonlaa", sum := "f659636ee9e958b402596ccc5f47b921a60299f68089e72c4f81bda8c5113381", func := "wainload/wainloadlaw02.CheckXors", spec := "checkXors", apart := false, narrowed := true }
def CheckXorsUptoSaid : Prop := checkXorsUptoRow.holds Try.pinned (OpenSpec.upto checkXorsSpec)

/-- 'wainloadlaw02.CheckJoins', WHERE WHAT IT READS IS OF BULK AT MOST 1048576: true; the input reads as it did. -/
def checkJoinsUptoRow : OpenClaim := { program := "ytdiapljnhlonlaa", sum := "f659636ee9e958b402596ccc5f47b921a60299f68089e72c4f81bda8c5113381", func := "wainload/wainloadlaw02.CheckJoins", spec := "checkJoins", apart := false, narrowed := true }
def CheckJoinsUptoSaid : Prop := checkJoinsUptoRow.holds Try.pinned (OpenSpec.upto checkJoinsSpec)

/-- 'wainloadlaw02.CheckAny', WHERE WHAT IT READS IS OF BULK AT MOST 1048576: true; the input reads as it did. -/
def checkAnyUptoRow : OpenClaim := { program := "ytdiapljnhlonlaa", sum := "f659636ee9e958b402596ccc5f47b921a60299f68089e72c4f81bda8c5113381", func := "wainload/wainloadlaw02.CheckAny", spec := "checkAny", apart := false, narrowed := true }
def CheckAnyUptoSaid : Prop := checkAnyUptoRow.holds Try.pinned (OpenSpec.upto checkAnySpec)

/-- 'wainloadlaw01.BitsTurns', WHERE WHAT IT READS IS OF BULK AT MOST 1048576: true; the input reads as it did. -/
def bitsTurnsUptoRow : OpenClaim := { program := "ytdiapljnhlonlaa", sum := "f659636ee9e958b402596ccc5f47b921a60299f68089e72c4f81bda8c5113381", func := "wainload/wainloadlaw01.BitsTurns", spec := "bitsTurns", unfollowed := true, recurses := true, apart := false, narrowed := true }
def BitsTurnsUptoSaid : Prop := bitsTurnsUptoRow.holds Try.pinned (OpenSpec.upto bitsTurnsSpec)

/-- 'wainloadlaw01.BitsParts', WHERE WHAT IT READS IS OF BULK AT MOST 1048576: true; the input reads as it did. -/
def bitsPartsUptoRow : OpenClaim := { program := "ytdiapljnhlonlaa", sum := "f659636ee9e958b402596ccc5f47b921a60299f68089e72c4f81bda8c5113381", func := "wainload/wainloadlaw01.BitsParts", spec := "bitsParts", unfollowed := true, recurses := true, apart := false, narrowed := true }
def BitsPartsUptoSaid : Prop := bitsPartsUptoRow.holds Try.pinned (OpenSpec.upto bitsPartsSpec)

/-- 'wainloadlaw01.BitsReads', WHERE WHAT IT READS IS OF BULK AT MOST 1048576: true; the input reads as it did. -/
def bitsReadsUptoRow : OpenClaim := { program := "ytdiapljnhlonlaa", sum := "f659636ee9e958b402596ccc5f47b921a60299f68089e72c4f81bda8c5113381", func := "wainload/wainloadlaw01.BitsReads", spec := "bitsReads", unfollowed := true, recurses := true, apart := false, narrowed := true }
def BitsReadsUptoSaid : Prop := bitsReadsUptoRow.holds Try.pinned (OpenSpec.upto bitsReadsSpec)

/-- 'wainloadlaw01.BitsWrites', WHERE WHAT IT READS IS OF BULK AT MOST 1048576: true; the input reads as it did. -/
def bitsWritesUptoRow : OpenClaim := { program := "ytdiapljnhlonlaa", sum := "f659636ee9e958b402596ccc5f47b921a60299f68089e72c4f81bda8c5113381", func := "wainload/wainloadlaw01.BitsWrites", spec := "bitsWrites", unfollowed := true, recurses := true, apart := false, narrowed := true }
def BitsWritesUptoSaid : Prop := bitsWritesUptoRow.holds Try.pinned (OpenSpec.upto bitsWritesSpec)

/-- 'wainloadlaw01.BitsOwn', WHERE WHAT IT READS IS OF BULK AT MOST 1048576: true; the input reads as it did. -/
def bitsOwnUptoRow : OpenClaim := { program := "ytdiapljnhlonlaa", sum := "f659636ee9e958b402596ccc5f47b921a60299f68089e72c4f81bda8c5113381", func := "wainload/wainloadlaw01.BitsOwn", spec := "bitsOwn", unfollowed := true, recurses := true, apart := false, narrowed := true }
def BitsOwnUptoSaid : Prop := bitsOwnUptoRow.holds Try.pinned (OpenSpec.upto bitsOwnSpec)

/-- 'wainloadlaw01.BitsBack', WHERE WHAT IT READS IS OF BULK AT MOST 1048576: true; the input reads as it did. -/
def bitsBackUptoRow : OpenClaim := { program := "ytdiapljnhlonlaa", sum := "f659636ee9e958b402596ccc5f47b921a60299f68089e72c4f81bda8c5113381", func := "wainload/wainloadlaw01.BitsBack", spec := "bitsBack", unfollowed := true, recurses := true, apart := false, narrowed := true }
def BitsBackUptoSaid : Prop := bitsBackUptoRow.holds Try.pinned (OpenSpec.upto bitsBackSpec)

end Rows
end Go.Proofs.Ytdiapljnhlonlaa
