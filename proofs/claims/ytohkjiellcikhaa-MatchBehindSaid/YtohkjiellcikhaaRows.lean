/-
  No cell of these rows narrows 'for every input' (looked for: loops, veiled, ifaces, maps, wideKeys, modest, calm, conditions, laid).
  DERIVED. THE GIVEN ROWS OF THIS SEAT. 8 by the template 'for every input the law returns true; each argument reads behind the call as it read before'; 0 by the template 'total and deterministic' (their statements: YtohkjiellcikhaaTotals.lean).
  GIVEN WITH THE SEED: the statements are not yours to turn. If you find one false, say at which input.
  Laid BY PROGRAM, IN A SANDBOX (cutbox-rows.mjs): the forced cells as the released guide's own fill.sh prints them over the translation 2dead9cc4a70dfc8… (all of the seat's roots in one cut). By AI agents, Wed Nov 11 2026. No macro, syntax, notation, axiom, sorry.
-/
import Derived.Test.YtohkjiellcikhaaChecked
import GoSem.Claim
import GoSem.ClaimJoined
import GoSem.ClaimMapViews
import Derived.JoinedTies
import Derived.KernelRfl
namespace Go.Proofs.Ytohkjiellcikhaa
/- THE CELL 'sum', in the pinned program and in every row, IS THE sha256 OF THE DUMP (.gsa) THAT YtohkjiellcikhaaProg.lean LOADS. Nothing in Lean hashes anything: it is a label: what it is worth is what the hold of that sum in a sandbox is worth. -/
noncomputable def Try.pinned : Pinned := { name := "ytohkjiellcikhaa", sum := "2dead9cc4a70dfc89781f1978053962a7a5fb03c6a63502dcfa3237f9c125e1b", checked := Try.checked }
namespace Rows
def none {H : Type} : Left H := { results := [], args := [] }

/-- 'wainloadlaw07.MatchTells': WHATEVER THE INPUT: true; the input reads as it did. -/
def matchTellsSpec : ChangeSpec := { name := "matchTells", fn := fun _ => fun
  | [d] => { results := [.lit (.bool true)], args := [d] }
  | _ => none }
def matchTellsRow : OpenClaim := { program := "ytohkjiellcikhaa", sum := "2dead9cc4a70dfc89781f1978053962a7a5fb03c6a63502dcfa3237f9c125e1b", func := "wainload/wainloadlaw07.MatchTells", spec := "matchTells", apart := false }
def MatchTellsSaid : Prop := matchTellsRow.holds Try.pinned (OpenSpec.ofChange matchTellsSpec)

/-- ITS FALSE NEIGHBOUR: 'it returns false'. Refute it at one input. -/
def matchTellsWrong : ChangeSpec := { name := "matchTells", fn := fun _ => fun
  | [d] => { results := [.lit (.bool false)], args := [d] }
  | _ => none }
def MatchTellsWrongFalsely : Prop := matchTellsRow.holds Try.pinned (OpenSpec.ofChange matchTellsWrong)

/-- 'wainloadlaw07.MatchFinds': WHATEVER THE INPUT: true; the input reads as it did. -/
def matchFindsSpec : ChangeSpec := { name := "matchFinds", fn := fun _ => fun
  | [d1, d2] => { results := [.lit (.bool true)], args := [d1, d2] }
  | _ => none }
def matchFindsRow : OpenClaim := { program := "ytohkjiellcikhaa", sum := "2dead9cc4a70dfc89781f1978053962a7a5fb03c6a63502dcfa3237f9c125e1b", func := "wainload/wainloadlaw07.MatchFinds", spec := "matchFinds", apart := false }
def MatchFindsSaid : Prop := matchFindsRow.holds Try.pinned (OpenSpec.ofChange matchFindsSpec)

/-- ITS FALSE NEIGHBOUR: 'it returns false'. Refute it at one input. -/
def matchFindsWrong : ChangeSpec := { name := "matchFinds", fn := fun _ => fun
  | [d1, d2] => { results := [.lit (.bool false)], args := [d1, d2] }
  | _ => none }
def MatchFindsWrongFalsely : Prop := matchFindsRow.holds Try.pinned (OpenSpec.ofChange matchFindsWrong)

/-- 'wainloadlaw07.MatchBytes': WHATEVER THE INPUT: true; the input reads as it did. -/
def matchBytesSpec : ChangeSpec := { name := "matchBytes", fn := fun _ => fun
  | [d1, d2] => { results := [.lit (.bool true)], args := [d1, d2] }
  | _ => none }
def matchBytesRow : OpenClaim := { program := "ytohkjiellcikhaa", sum := "2dead9cc4a70dfc89781f1978053962a7a5fb03c6a63502dcfa3237f9c125e1b", func := "wainload/wainloadlaw07.MatchBytes", spec := "matchBytes", apart := false }
def MatchBytesSaid : Prop := matchBytesRow.holds Try.pinned (OpenSpec.ofChange matchBytesSpec)

/-- ITS FALSE NEIGHBOUR: 'it returns false'. Refute it at one input. -/
def matchBytesWrong : ChangeSpec := { name := "matchBytes", fn := fun _ => fun
  | [d1, d2] => { results := [.lit (.bool false)], args := [d1, d2] }
  | _ => none }
def MatchBytesWrongFalsely : Prop := matchBytesRow.holds Try.pinned (OpenSpec.ofChange matchBytesWrong)

/-- 'wainloadlaw07.MatchNears': WHATEVER THE INPUT: true; the input reads as it did. -/
def matchNearsSpec : ChangeSpec := { name := "matchNears", fn := fun _ => fun
  | [d1, d2] => { results := [.lit (.bool true)], args := [d1, d2] }
  | _ => none }
def matchNearsRow : OpenClaim := { program := "ytohkjiellcikhaa", sum := "2dead9cc4a70dfc89781f1978053962a7a5fb03c6a63502dcfa3237f9c125e1b", func := "wainload/wainloadlaw07.MatchNears", spec := "matchNears", apart := false }
def MatchNearsSaid : Prop := matchNearsRow.holds Try.pinned (OpenSpec.ofChange matchNearsSpec)

/-- ITS FALSE NEIGHBOUR: 'it returns false'. Refute it at one input. -/
def matchNearsWrong : ChangeSpec := { name := "matchNears", fn := fun _ => fun
  | [d1, d2] => { results := [.lit (.bool false)], args := [d1, d2] }
  | _ => none }
def MatchNearsWrongFalsely : Prop := matchNearsRow.holds Try.pinned (OpenSpec.ofChange matchNearsWrong)

/-- 'wainloadlaw07.MatchLike': WHATEVER THE INPUT: true; the input reads as it did. -/
def matchLikeSpec : ChangeSpec := { name := "matchLike", fn := fun _ => fun
  | [d1, d2, d3] => { results := [.lit (.bool true)], args := [d1, d2, d3] }
  | _ => none }
def matchLikeRow : OpenClaim := { program := "ytohkjiellcikhaa", sum := "2dead9cc4a70dfc89781f1978053962a7a5fb03c6a63502dcfa3237f9c125e1b", func := "wainload/wainloadlaw07.MatchLike", spec := "matchLike", apart := false }
def MatchLikeSaid : Prop := matchLikeRow.holds Try.pinned (OpenSpec.ofChange matchLikeSpec)

/-- ITS FALSE NEIGHBOUR: 'it returns false'. Refute it at one input. -/
def matchLikeWrong : ChangeSpec := { name := "matchLike", fn := fun _ => fun
  | [d1, d2, d3] => { results := [.lit (.bool false)], args := [d1, d2, d3] }
  | _ => none }
def MatchLikeWrongFalsely : Prop := matchLikeRow.holds Try.pinned (OpenSpec.ofChange matchLikeWrong)

/-- 'wainloadlaw07.MatchBehind': WHATEVER THE INPUT: true; the input reads as it did. -/
def matchBehindSpec : ChangeSpec := { name := "matchBehind", fn := fun _ => fun
  | [d1, d2] => { results := [.lit (.bool true)], args := [d1, d2] }
  | _ => none }
def matchBehindRow : OpenClaim := { program := "ytohkjiellcikhaa", sum := "2dead9cc4a70dfc89781f1978053962a7a5fb03c6a63502dcfa3237f9c125e1b", func := "wainload/wainloadlaw07.MatchBehind", spec := "matchBehind", apart := false }
def MatchBehindSaid : Prop := matchBehindRow.holds Try.pinned (OpenSpec.ofChange matchBehindSpec)

/-- ITS FALSE NEIGHBOUR: 'it returns false'. Refute it at one input. -/
def matchBehindWrong : ChangeSpec := { name := "matchBehind", fn := fun _ => fun
  | [d1, d2] => { results := [.lit (.bool false)], args := [d1, d2] }
  | _ => none }
def MatchBehindWrongFalsely : Prop := matchBehindRow.holds Try.pinned (OpenSpec.ofChange matchBehindWrong)

/-- 'wainloadlaw07.MatchCuts': WHATEVER THE INPUT: true; the input reads as it did. -/
def matchCutsSpec : ChangeSpec := { name := "matchCuts", fn := fun _ => fun
  | [d1, d2] => { results := [.lit (.bool true)], args := [d1, d2] }
  | _ => none }
def matchCutsRow : OpenClaim := { program := "ytohkjiellcikhaa", sum := "2dead9cc4a70dfc89781f1978053962a7a5fb03c6a63502dcfa3237f9c125e1b", func := "wainload/wainloadlaw07.MatchCuts", spec := "matchCuts", apart := false }
def MatchCutsSaid : Prop := matchCutsRow.holds Try.pinned (OpenSpec.ofChange matchCutsSpec)

/-- ITS FALSE NEIGHBOUR: 'it returns false'. Refute it at one input. -/
def matchCutsWrong : ChangeSpec := { name := "matchCuts", fn := fun _ => fun
  | [d1, d2] => { results := [.lit (.bool false)], args := [d1, d2] }
  | _ => none }
def MatchCutsWrongFalsely : Prop := matchCutsRow.holds Try.pinned (OpenSpec.ofChange matchCutsWrong)

/-- 'wainloadlaw07.MatchKeeps': WHATEVER THE INPUT: true; the input reads as it did. -/
def matchKeepsSpec : ChangeSpec := { name := "matchKeeps", fn := fun _ => fun
  | [d1, d2, d3] => { results := [.lit (.bool true)], args := [d1, d2, d3] }
  | _ => none }
def matchKeepsRow : OpenClaim := { program := "ytohkjiellcikhaa", sum := "2dead9cc4a70dfc89781f1978053962a7a5fb03c6a63502dcfa3237f9c125e1b", func := "wainload/wainloadlaw07.MatchKeeps", spec := "matchKeeps", apart := false }
def MatchKeepsSaid : Prop := matchKeepsRow.holds Try.pinned (OpenSpec.ofChange matchKeepsSpec)

/-- ITS FALSE NEIGHBOUR: 'it returns false'. Refute it at one input. -/
def matchKeepsWrong : ChangeSpec := { name := "matchKeeps", fn := fun _ => fun
  | [d1, d2, d3] => { results := [.lit (.bool false)], args := [d1, d2, d3] }
  | _ => none }
def MatchKeepsWrongFalsely : Prop := matchKeepsRow.holds Try.pinned (OpenSpec.ofChange matchKeepsWrong)

/- THE SECOND FORM. 'bulk': how many values and letters a reading holds, each counted each time it is reached (what is shared counts as often as it is met; a slice's spare places count too). A statement '..UptoSaid' is the law's where the arguments, and the package variables that the reading takes, are together of bulk at most 1048576: NARROWER than '..Said'. Prove '..Said' where nothing that the law and all that it calls make is longer than what came in: it says more and counts as full. Else prove '..UptoSaid'. A law counts once. -/
mutual
def uptoBulk {H : Type} : DataW H → Nat
  | .lit (.string bytes) => bytes.length + 1
  | .lit _ => 1
  | .nil => 1
  | .ptr d => uptoBulk d + 1
  | .slice elems spare => uptoBulkAll elems + uptoBulkAll spare + 1
  | .agg parts => uptoBulkAll parts + 1
  | .iface _ d => uptoBulk d + 1
  | .map entries => uptoBulkEntries entries + 1
  | .held _ => 1
def uptoBulkAll {H : Type} : List (DataW H) → Nat
  | [] => 0
  | d :: r => uptoBulk d + uptoBulkAll r
def uptoBulkEntries {H : Type} : List (Lit × DataW H) → Nat
  | [] => 0
  | x :: r => uptoBulkEntry x + uptoBulkEntries r
def uptoBulkEntry {H : Type} : Lit × DataW H → Nat
  | (.string bytes, d) => bytes.length + uptoBulk d + 1
  | (_, d) => uptoBulk d + 1
 end
def uptoSmall : (H : Type) → List (DataW H) → Bool := fun _ ds => decide (uptoBulkAll ds ≤ 1048576)
def OpenSpec.upto (s : _root_.Go.ChangeSpec) : _root_.Go.OpenSpec := { _root_.Go.OpenSpec.ofChange s with cond := some uptoSmall }

/-- 'wainloadlaw07.MatchTells', WHERE WHAT IT READS IS OF BULK AT MOST 1048576: true; the input reads as it did. -/
def matchTellsUptoRow : OpenClaim := { program := "ytohkjiellcikhaa", sum := "2dead9cc4a70dfc89781f1978053962a7a5fb03c6a63502dcfa3237f9c125e1b", func := "wainload/wainloadlaw07.MatchTells", spec := "matchTells", apart := false, narrowed := true }
def MatchTellsUptoSaid : Prop := matchTellsUptoRow.holds Try.pinned (OpenSpec.upto matchTellsSpec)

/-- 'wainloadlaw07.MatchFinds', WHERE WHAT IT READS IS OF BULK AT MOST 1048576: true; the input reads as it did. -/
def matchFindsUptoRow : OpenClaim := { program := "ytohkjiellcikhaa", sum := "2dead9cc4a70dfc89781f1978053962a7a5fb03c6a63502dcfa3237f9c125e1b", func := "wainload/wainloadlaw07.MatchFinds", spec := "matchFinds", apart := false, narrowed := true }
def MatchFindsUptoSaid : Prop := matchFindsUptoRow.holds Try.pinned (OpenSpec.upto matchFindsSpec)

/-- 'wainloadlaw07.MatchBytes', WHERE WHAT IT READS IS OF BULK AT MOST 1048576: true; the input reads as it did. -/
def matchBytesUptoRow : OpenClaim := { program := "ytohkjiellcikhaa", sum := "2dead9cc4a70dfc89781f1978053962a7a5fb03c6a63502dcfa3237f9c125e1b", func := "wainload/wainloadlaw07.MatchBytes", spec := "matchBytes", apart := false, narrowed := true }
def MatchBytesUptoSaid : Prop := matchBytesUptoRow.holds Try.pinned (OpenSpec.upto matchBytesSpec)

/-- 'wainloadlaw07.MatchNears', WHERE WHAT IT READS IS OF BULK AT MOST 1048576: true; the input reads as it did. -/
def matchNearsUptoRow : OpenClaim := { program := "ytohkjiellcikhaa", sum := "2dead9cc4a70dfc89781f1978053962a7a5fb03c6a63502dcfa3237f9c125e1b", func := "wainload/wainloadlaw07.MatchNears", spec := "matchNears", apart := false, narrowed := true }
def MatchNearsUptoSaid : Prop := matchNearsUptoRow.holds Try.pinned (OpenSpec.upto matchNearsSpec)

/-- 'wainloadlaw07.MatchLike', WHERE WHAT IT READS IS OF BULK AT MOST 1048576: true; the input reads as it did. -/
def matchLikeUptoRow : OpenClaim := { program := "ytohkjiellcikhaa", sum := "2dead9cc4a70dfc89781f1978053962a7a5fb03c6a63502dcfa3237f9c125e1b", func := "wainload/wainloadlaw07.MatchLike", spec := "matchLike", apart := false, narrowed := true }
def MatchLikeUptoSaid : Prop := matchLikeUptoRow.holds Try.pinned (OpenSpec.upto matchLikeSpec)

/-- 'wainloadlaw07.MatchBehind', WHERE WHAT IT READS IS OF BULK AT MOST 1048576: true; the input reads as it did. -/
def matchBehindUptoRow : OpenClaim := { program := "ytohkjiellcikhaa", sum := "2dead9cc4a70dfc89781f1978053962a7a5fb03c6a63502dcfa3237f9c125e1b", func := "wainload/wainloadlaw07.MatchBehind", spec := "matchBehind", apart := false, narrowed := true }
def MatchBehindUptoSaid : Prop := matchBehindUptoRow.holds Try.pinned (OpenSpec.upto matchBehindSpec)

/-- 'wainloadlaw07.MatchCuts', WHERE WHAT IT READS IS OF BULK AT MOST 1048576: true; the input reads as it did. -/
def matchCutsUptoRow : OpenClaim := { program := "ytohkjiellcikhaa", sum := "2dead9cc4a70dfc89781f1978053962a7a5fb03c6a63502dcfa3237f9c125e1b", func := "wainload/wainloadlaw07.MatchCuts", spec := "matchCuts", apart := false, narrowed := true }
def MatchCutsUptoSaid : Prop := matchCutsUptoRow.holds Try.pinned (OpenSpec.upto matchCutsSpec)

/-- 'wainloadlaw07.MatchKeeps', WHERE WHAT IT READS IS OF BULK AT MOST 1048576: true; the input reads as it did. -/
def matchKeepsUptoRow : OpenClaim := { program := "ytohkjiellcikhaa", sum := "2dead9cc4a70dfc89781f1978053962a7a5fb03c6a63502dcfa3237f9c125e1b", func := "wainload/wainloadlaw07.MatchKeeps", spec := "matchKeeps", apart := false, narrowed := true }
def MatchKeepsUptoSaid : Prop := matchKeepsUptoRow.holds Try.pinned (OpenSpec.upto matchKeepsSpec)

end Rows
end Go.Proofs.Ytohkjiellcikhaa
