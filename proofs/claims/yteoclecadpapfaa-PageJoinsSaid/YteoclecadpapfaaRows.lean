/-
  No cell of these rows narrows 'for every input' (looked for: loops, veiled, ifaces, maps, wideKeys, modest, calm, conditions, laid).
  DERIVED. THE GIVEN ROWS OF THIS SEAT. 19 by the template 'for every input the law returns true; each argument reads behind the call as it read before'; 0 by the template 'total and deterministic' (their statements: YteoclecadpapfaaTotals.lean).
  GIVEN WITH THE SEED: the statements are not yours to turn. If you find one false, say at which input.
  Laid BY PROGRAM, IN A SANDBOX (cutbox-rows.mjs): the forced cells as the released guide's own fill.sh prints them over the translation 7090a2a09047829b… (all of the seat's roots in one cut). By AI agents, Wed Nov 11 2026. No macro, syntax, notation, axiom, sorry.
-/
import Derived.Test.YteoclecadpapfaaChecked
import GoSem.Claim
import GoSem.ClaimJoined
import GoSem.ClaimMapViews
import Derived.JoinedTies
import Derived.KernelRfl
namespace Go.Proofs.Yteoclecadpapfaa
/- THE CELL 'sum', in the pinned program and in every row, IS THE sha256 OF THE DUMP (.gsa) THAT YteoclecadpapfaaProg.lean LOADS. Nothing in Lean hashes anything: it is a label: what it is worth is what the hold of that sum in a sandbox is worth. -/
noncomputable def Try.pinned : Pinned := { name := "yteoclecadpapfaa", sum := "7090a2a09047829b70a638575bb8103dc73547b810a908bd01798cb0215ff5bd", checked := Try.checked }
namespace Rows
def none {H : Type} : Left H := { results := [], args := [] }

/-- 'psalterylaw02.SumTables': WHATEVER THE INPUT: true; the input reads as it did. -/
def sumTablesSpec : ChangeSpec := { name := "sumTables", fn := fun _ => fun
  | [d] => { results := [.lit (.bool true)], args := [d] }
  | _ => none }
def sumTablesRow : OpenClaim := { program := "yteoclecadpapfaa", sum := "7090a2a09047829b70a638575bb8103dc73547b810a908bd01798cb0215ff5bd", func := "psaltery/psalterylaw02.SumTables", spec := "sumTables", unfollowed := true, recurses := true, apart := false }
def SumTablesSaid : Prop := sumTablesRow.holds Try.pinned (OpenSpec.ofChange sumTablesSpec)

/-- ITS FALSE NEIGHBOUR: 'it returns false'. Refute it at one input. -/
def sumTablesWrong : ChangeSpec := { name := "sumTables", fn := fun _ => fun
  | [d] => { results := [.lit (.bool false)], args := [d] }
  | _ => none }
def SumTablesWrongFalsely : Prop := sumTablesRow.holds Try.pinned (OpenSpec.ofChange sumTablesWrong)

/-- 'psalterylaw02.SumSums': WHATEVER THE INPUT: true; the input reads as it did. -/
def sumSumsSpec : ChangeSpec := { name := "sumSums", fn := fun _ => fun
  | [d] => { results := [.lit (.bool true)], args := [d] }
  | _ => none }
def sumSumsRow : OpenClaim := { program := "yteoclecadpapfaa", sum := "7090a2a09047829b70a638575bb8103dc73547b810a908bd01798cb0215ff5bd", func := "psaltery/psalterylaw02.SumSums", spec := "sumSums", unfollowed := true, recurses := true, apart := false }
def SumSumsSaid : Prop := sumSumsRow.holds Try.pinned (OpenSpec.ofChange sumSumsSpec)

/-- ITS FALSE NEIGHBOUR: 'it returns false'. Refute it at one input. -/
def sumSumsWrong : ChangeSpec := { name := "sumSums", fn := fun _ => fun
  | [d] => { results := [.lit (.bool false)], args := [d] }
  | _ => none }
def SumSumsWrongFalsely : Prop := sumSumsRow.holds Try.pinned (OpenSpec.ofChange sumSumsWrong)

/-- 'psalterylaw02.SumAdds': WHATEVER THE INPUT: true; the input reads as it did. -/
def sumAddsSpec : ChangeSpec := { name := "sumAdds", fn := fun _ => fun
  | [d1, d2, d3] => { results := [.lit (.bool true)], args := [d1, d2, d3] }
  | _ => none }
def sumAddsRow : OpenClaim := { program := "yteoclecadpapfaa", sum := "7090a2a09047829b70a638575bb8103dc73547b810a908bd01798cb0215ff5bd", func := "psaltery/psalterylaw02.SumAdds", spec := "sumAdds", unfollowed := true, recurses := true, apart := false }
def SumAddsSaid : Prop := sumAddsRow.holds Try.pinned (OpenSpec.ofChange sumAddsSpec)

/-- ITS FALSE NEIGHBOUR: 'it returns false'. Refute it at one input. -/
def sumAddsWrong : ChangeSpec := { name := "sumAdds", fn := fun _ => fun
  | [d1, d2, d3] => { results := [.lit (.bool false)], args := [d1, d2, d3] }
  | _ => none }
def SumAddsWrongFalsely : Prop := sumAddsRow.holds Try.pinned (OpenSpec.ofChange sumAddsWrong)

/-- 'psalterylaw02.SumParts': WHATEVER THE INPUT: true; the input reads as it did. -/
def sumPartsSpec : ChangeSpec := { name := "sumParts", fn := fun _ => fun
  | [d1, d2] => { results := [.lit (.bool true)], args := [d1, d2] }
  | _ => none }
def sumPartsRow : OpenClaim := { program := "yteoclecadpapfaa", sum := "7090a2a09047829b70a638575bb8103dc73547b810a908bd01798cb0215ff5bd", func := "psaltery/psalterylaw02.SumParts", spec := "sumParts", unfollowed := true, recurses := true, apart := false }
def SumPartsSaid : Prop := sumPartsRow.holds Try.pinned (OpenSpec.ofChange sumPartsSpec)

/-- ITS FALSE NEIGHBOUR: 'it returns false'. Refute it at one input. -/
def sumPartsWrong : ChangeSpec := { name := "sumParts", fn := fun _ => fun
  | [d1, d2] => { results := [.lit (.bool false)], args := [d1, d2] }
  | _ => none }
def SumPartsWrongFalsely : Prop := sumPartsRow.holds Try.pinned (OpenSpec.ofChange sumPartsWrong)

/-- 'psalterylaw18.PageTurned': WHATEVER THE INPUT: true; the input reads as it did. -/
def pageTurnedSpec : ChangeSpec := { name := "pageTurned", fn := fun _ => fun
  | [d1, d2, d3] => { results := [.lit (.bool true)], args := [d1, d2, d3] }
  | _ => none }
def pageTurnedRow : OpenClaim := { program := "yteoclecadpapfaa", sum := "7090a2a09047829b70a638575bb8103dc73547b810a908bd01798cb0215ff5bd", func := "psaltery/psalterylaw18.PageTurned", spec := "pageTurned", unfollowed := true, recurses := true, apart := false }
def PageTurnedSaid : Prop := pageTurnedRow.holds Try.pinned (OpenSpec.ofChange pageTurnedSpec)

/-- ITS FALSE NEIGHBOUR: 'it returns false'. Refute it at one input. -/
def pageTurnedWrong : ChangeSpec := { name := "pageTurned", fn := fun _ => fun
  | [d1, d2, d3] => { results := [.lit (.bool false)], args := [d1, d2, d3] }
  | _ => none }
def PageTurnedWrongFalsely : Prop := pageTurnedRow.holds Try.pinned (OpenSpec.ofChange pageTurnedWrong)

/-- 'psalterylaw02.SumBursts': WHATEVER THE INPUT: true; the input reads as it did. -/
def sumBurstsSpec : ChangeSpec := { name := "sumBursts", fn := fun _ => fun
  | [d1, d2, d3] => { results := [.lit (.bool true)], args := [d1, d2, d3] }
  | _ => none }
def sumBurstsRow : OpenClaim := { program := "yteoclecadpapfaa", sum := "7090a2a09047829b70a638575bb8103dc73547b810a908bd01798cb0215ff5bd", func := "psaltery/psalterylaw02.SumBursts", spec := "sumBursts", unfollowed := true, recurses := true, apart := false }
def SumBurstsSaid : Prop := sumBurstsRow.holds Try.pinned (OpenSpec.ofChange sumBurstsSpec)

/-- ITS FALSE NEIGHBOUR: 'it returns false'. Refute it at one input. -/
def sumBurstsWrong : ChangeSpec := { name := "sumBursts", fn := fun _ => fun
  | [d1, d2, d3] => { results := [.lit (.bool false)], args := [d1, d2, d3] }
  | _ => none }
def SumBurstsWrongFalsely : Prop := sumBurstsRow.holds Try.pinned (OpenSpec.ofChange sumBurstsWrong)

/-- 'psalterylaw18.PageWhole': WHATEVER THE INPUT: true; the input reads as it did. -/
def pageWholeSpec : ChangeSpec := { name := "pageWhole", fn := fun _ => fun
  | [d] => { results := [.lit (.bool true)], args := [d] }
  | _ => none }
def pageWholeRow : OpenClaim := { program := "yteoclecadpapfaa", sum := "7090a2a09047829b70a638575bb8103dc73547b810a908bd01798cb0215ff5bd", func := "psaltery/psalterylaw18.PageWhole", spec := "pageWhole", unfollowed := true, recurses := true, apart := false }
def PageWholeSaid : Prop := pageWholeRow.holds Try.pinned (OpenSpec.ofChange pageWholeSpec)

/-- ITS FALSE NEIGHBOUR: 'it returns false'. Refute it at one input. -/
def pageWholeWrong : ChangeSpec := { name := "pageWhole", fn := fun _ => fun
  | [d] => { results := [.lit (.bool false)], args := [d] }
  | _ => none }
def PageWholeWrongFalsely : Prop := pageWholeRow.holds Try.pinned (OpenSpec.ofChange pageWholeWrong)

/-- 'psalterylaw19.GramWrites': WHATEVER THE INPUT: true; the input reads as it did. -/
def gramWritesSpec : ChangeSpec := { name := "gramWrites", fn := fun _ => fun
  | [d1, d2] => { results := [.lit (.bool true)], args := [d1, d2] }
  | _ => none }
def gramWritesRow : OpenClaim := { program := "yteoclecadpapfaa", sum := "7090a2a09047829b70a638575bb8103dc73547b810a908bd01798cb0215ff5bd", func := "psaltery/psalterylaw19.GramWrites", spec := "gramWrites", unfollowed := true, recurses := true, apart := false }
def GramWritesSaid : Prop := gramWritesRow.holds Try.pinned (OpenSpec.ofChange gramWritesSpec)

/-- ITS FALSE NEIGHBOUR: 'it returns false'. Refute it at one input. -/
def gramWritesWrong : ChangeSpec := { name := "gramWrites", fn := fun _ => fun
  | [d1, d2] => { results := [.lit (.bool false)], args := [d1, d2] }
  | _ => none }
def GramWritesWrongFalsely : Prop := gramWritesRow.holds Try.pinned (OpenSpec.ofChange gramWritesWrong)

/-- 'psalterylaw19.GramReads': WHATEVER THE INPUT: true; the input reads as it did. -/
def gramReadsSpec : ChangeSpec := { name := "gramReads", fn := fun _ => fun
  | [d1, d2] => { results := [.lit (.bool true)], args := [d1, d2] }
  | _ => none }
def gramReadsRow : OpenClaim := { program := "yteoclecadpapfaa", sum := "7090a2a09047829b70a638575bb8103dc73547b810a908bd01798cb0215ff5bd", func := "psaltery/psalterylaw19.GramReads", spec := "gramReads", unfollowed := true, recurses := true, apart := false }
def GramReadsSaid : Prop := gramReadsRow.holds Try.pinned (OpenSpec.ofChange gramReadsSpec)

/-- ITS FALSE NEIGHBOUR: 'it returns false'. Refute it at one input. -/
def gramReadsWrong : ChangeSpec := { name := "gramReads", fn := fun _ => fun
  | [d1, d2] => { results := [.lit (.bool false)], args := [d1, d2] }
  | _ => none }
def GramReadsWrongFalsely : Prop := gramReadsRow.holds Try.pinned (OpenSpec.ofChange gramReadsWrong)

/-- 'psalterylaw19.GramWholes': WHATEVER THE INPUT: true; the input reads as it did. -/
def gramWholesSpec : ChangeSpec := { name := "gramWholes", fn := fun _ => fun
  | [d1, d2, d3] => { results := [.lit (.bool true)], args := [d1, d2, d3] }
  | _ => none }
def gramWholesRow : OpenClaim := { program := "yteoclecadpapfaa", sum := "7090a2a09047829b70a638575bb8103dc73547b810a908bd01798cb0215ff5bd", func := "psaltery/psalterylaw19.GramWholes", spec := "gramWholes", unfollowed := true, recurses := true, apart := false }
def GramWholesSaid : Prop := gramWholesRow.holds Try.pinned (OpenSpec.ofChange gramWholesSpec)

/-- ITS FALSE NEIGHBOUR: 'it returns false'. Refute it at one input. -/
def gramWholesWrong : ChangeSpec := { name := "gramWholes", fn := fun _ => fun
  | [d1, d2, d3] => { results := [.lit (.bool false)], args := [d1, d2, d3] }
  | _ => none }
def GramWholesWrongFalsely : Prop := gramWholesRow.holds Try.pinned (OpenSpec.ofChange gramWholesWrong)

/-- 'psalterylaw19.GramBack': WHATEVER THE INPUT: true; the input reads as it did. -/
def gramBackSpec : ChangeSpec := { name := "gramBack", fn := fun _ => fun
  | [d] => { results := [.lit (.bool true)], args := [d] }
  | _ => none }
def gramBackRow : OpenClaim := { program := "yteoclecadpapfaa", sum := "7090a2a09047829b70a638575bb8103dc73547b810a908bd01798cb0215ff5bd", func := "psaltery/psalterylaw19.GramBack", spec := "gramBack", unfollowed := true, recurses := true, apart := false }
def GramBackSaid : Prop := gramBackRow.holds Try.pinned (OpenSpec.ofChange gramBackSpec)

/-- ITS FALSE NEIGHBOUR: 'it returns false'. Refute it at one input. -/
def gramBackWrong : ChangeSpec := { name := "gramBack", fn := fun _ => fun
  | [d] => { results := [.lit (.bool false)], args := [d] }
  | _ => none }
def GramBackWrongFalsely : Prop := gramBackRow.holds Try.pinned (OpenSpec.ofChange gramBackWrong)

/-- 'psalterylaw19.GramOnly': WHATEVER THE INPUT: true; the input reads as it did. -/
def gramOnlySpec : ChangeSpec := { name := "gramOnly", fn := fun _ => fun
  | [d] => { results := [.lit (.bool true)], args := [d] }
  | _ => none }
def gramOnlyRow : OpenClaim := { program := "yteoclecadpapfaa", sum := "7090a2a09047829b70a638575bb8103dc73547b810a908bd01798cb0215ff5bd", func := "psaltery/psalterylaw19.GramOnly", spec := "gramOnly", unfollowed := true, recurses := true, apart := false }
def GramOnlySaid : Prop := gramOnlyRow.holds Try.pinned (OpenSpec.ofChange gramOnlySpec)

/-- ITS FALSE NEIGHBOUR: 'it returns false'. Refute it at one input. -/
def gramOnlyWrong : ChangeSpec := { name := "gramOnly", fn := fun _ => fun
  | [d] => { results := [.lit (.bool false)], args := [d] }
  | _ => none }
def GramOnlyWrongFalsely : Prop := gramOnlyRow.holds Try.pinned (OpenSpec.ofChange gramOnlyWrong)

/-- 'psalterylaw19.GramFinds': WHATEVER THE INPUT: true; the input reads as it did. -/
def gramFindsSpec : ChangeSpec := { name := "gramFinds", fn := fun _ => fun
  | [d1, d2, d3] => { results := [.lit (.bool true)], args := [d1, d2, d3] }
  | _ => none }
def gramFindsRow : OpenClaim := { program := "yteoclecadpapfaa", sum := "7090a2a09047829b70a638575bb8103dc73547b810a908bd01798cb0215ff5bd", func := "psaltery/psalterylaw19.GramFinds", spec := "gramFinds", unfollowed := true, recurses := true, apart := false }
def GramFindsSaid : Prop := gramFindsRow.holds Try.pinned (OpenSpec.ofChange gramFindsSpec)

/-- ITS FALSE NEIGHBOUR: 'it returns false'. Refute it at one input. -/
def gramFindsWrong : ChangeSpec := { name := "gramFinds", fn := fun _ => fun
  | [d1, d2, d3] => { results := [.lit (.bool false)], args := [d1, d2, d3] }
  | _ => none }
def GramFindsWrongFalsely : Prop := gramFindsRow.holds Try.pinned (OpenSpec.ofChange gramFindsWrong)

/-- 'psalterylaw19.GramTurned': WHATEVER THE INPUT: true; the input reads as it did. -/
def gramTurnedSpec : ChangeSpec := { name := "gramTurned", fn := fun _ => fun
  | [d1, d2, d3] => { results := [.lit (.bool true)], args := [d1, d2, d3] }
  | _ => none }
def gramTurnedRow : OpenClaim := { program := "yteoclecadpapfaa", sum := "7090a2a09047829b70a638575bb8103dc73547b810a908bd01798cb0215ff5bd", func := "psaltery/psalterylaw19.GramTurned", spec := "gramTurned", unfollowed := true, recurses := true, apart := false }
def GramTurnedSaid : Prop := gramTurnedRow.holds Try.pinned (OpenSpec.ofChange gramTurnedSpec)

/-- ITS FALSE NEIGHBOUR: 'it returns false'. Refute it at one input. -/
def gramTurnedWrong : ChangeSpec := { name := "gramTurned", fn := fun _ => fun
  | [d1, d2, d3] => { results := [.lit (.bool false)], args := [d1, d2, d3] }
  | _ => none }
def GramTurnedWrongFalsely : Prop := gramTurnedRow.holds Try.pinned (OpenSpec.ofChange gramTurnedWrong)

/-- 'psalterylaw18.PageRights': WHATEVER THE INPUT: true; the input reads as it did. -/
def pageRightsSpec : ChangeSpec := { name := "pageRights", fn := fun _ => fun
  | [d] => { results := [.lit (.bool true)], args := [d] }
  | _ => none }
def pageRightsRow : OpenClaim := { program := "yteoclecadpapfaa", sum := "7090a2a09047829b70a638575bb8103dc73547b810a908bd01798cb0215ff5bd", func := "psaltery/psalterylaw18.PageRights", spec := "pageRights", unfollowed := true, recurses := true, apart := false }
def PageRightsSaid : Prop := pageRightsRow.holds Try.pinned (OpenSpec.ofChange pageRightsSpec)

/-- ITS FALSE NEIGHBOUR: 'it returns false'. Refute it at one input. -/
def pageRightsWrong : ChangeSpec := { name := "pageRights", fn := fun _ => fun
  | [d] => { results := [.lit (.bool false)], args := [d] }
  | _ => none }
def PageRightsWrongFalsely : Prop := pageRightsRow.holds Try.pinned (OpenSpec.ofChange pageRightsWrong)

/-- 'psalterylaw18.PageWrites': WHATEVER THE INPUT: true; the input reads as it did. -/
def pageWritesSpec : ChangeSpec := { name := "pageWrites", fn := fun _ => fun
  | [d1, d2] => { results := [.lit (.bool true)], args := [d1, d2] }
  | _ => none }
def pageWritesRow : OpenClaim := { program := "yteoclecadpapfaa", sum := "7090a2a09047829b70a638575bb8103dc73547b810a908bd01798cb0215ff5bd", func := "psaltery/psalterylaw18.PageWrites", spec := "pageWrites", unfollowed := true, recurses := true, apart := false }
def PageWritesSaid : Prop := pageWritesRow.holds Try.pinned (OpenSpec.ofChange pageWritesSpec)

/-- ITS FALSE NEIGHBOUR: 'it returns false'. Refute it at one input. -/
def pageWritesWrong : ChangeSpec := { name := "pageWrites", fn := fun _ => fun
  | [d1, d2] => { results := [.lit (.bool false)], args := [d1, d2] }
  | _ => none }
def PageWritesWrongFalsely : Prop := pageWritesRow.holds Try.pinned (OpenSpec.ofChange pageWritesWrong)

/-- 'psalterylaw18.PageReads': WHATEVER THE INPUT: true; the input reads as it did. -/
def pageReadsSpec : ChangeSpec := { name := "pageReads", fn := fun _ => fun
  | [d1, d2] => { results := [.lit (.bool true)], args := [d1, d2] }
  | _ => none }
def pageReadsRow : OpenClaim := { program := "yteoclecadpapfaa", sum := "7090a2a09047829b70a638575bb8103dc73547b810a908bd01798cb0215ff5bd", func := "psaltery/psalterylaw18.PageReads", spec := "pageReads", unfollowed := true, recurses := true, apart := false }
def PageReadsSaid : Prop := pageReadsRow.holds Try.pinned (OpenSpec.ofChange pageReadsSpec)

/-- ITS FALSE NEIGHBOUR: 'it returns false'. Refute it at one input. -/
def pageReadsWrong : ChangeSpec := { name := "pageReads", fn := fun _ => fun
  | [d1, d2] => { results := [.lit (.bool false)], args := [d1, d2] }
  | _ => none }
def PageReadsWrongFalsely : Prop := pageReadsRow.holds Try.pinned (OpenSpec.ofChange pageReadsWrong)

/-- 'psalterylaw18.PageJoins': WHATEVER THE INPUT: true; the input reads as it did. -/
def pageJoinsSpec : ChangeSpec := { name := "pageJoins", fn := fun _ => fun
  | [d] => { results := [.lit (.bool true)], args := [d] }
  | _ => none }
def pageJoinsRow : OpenClaim := { program := "yteoclecadpapfaa", sum := "7090a2a09047829b70a638575bb8103dc73547b810a908bd01798cb0215ff5bd", func := "psaltery/psalterylaw18.PageJoins", spec := "pageJoins", unfollowed := true, recurses := true, apart := false }
def PageJoinsSaid : Prop := pageJoinsRow.holds Try.pinned (OpenSpec.ofChange pageJoinsSpec)

/-- ITS FALSE NEIGHBOUR: 'it returns false'. Refute it at one input. -/
def pageJoinsWrong : ChangeSpec := { name := "pageJoins", fn := fun _ => fun
  | [d] => { results := [.lit (.bool false)], args := [d] }
  | _ => none }
def PageJoinsWrongFalsely : Prop := pageJoinsRow.holds Try.pinned (OpenSpec.ofChange pageJoinsWrong)

/-- 'psalterylaw18.PageBack': WHATEVER THE INPUT: true; the input reads as it did. -/
def pageBackSpec : ChangeSpec := { name := "pageBack", fn := fun _ => fun
  | [d1, d2] => { results := [.lit (.bool true)], args := [d1, d2] }
  | _ => none }
def pageBackRow : OpenClaim := { program := "yteoclecadpapfaa", sum := "7090a2a09047829b70a638575bb8103dc73547b810a908bd01798cb0215ff5bd", func := "psaltery/psalterylaw18.PageBack", spec := "pageBack", unfollowed := true, recurses := true, apart := false }
def PageBackSaid : Prop := pageBackRow.holds Try.pinned (OpenSpec.ofChange pageBackSpec)

/-- ITS FALSE NEIGHBOUR: 'it returns false'. Refute it at one input. -/
def pageBackWrong : ChangeSpec := { name := "pageBack", fn := fun _ => fun
  | [d1, d2] => { results := [.lit (.bool false)], args := [d1, d2] }
  | _ => none }
def PageBackWrongFalsely : Prop := pageBackRow.holds Try.pinned (OpenSpec.ofChange pageBackWrong)

/- THE SECOND FORM. 'bulk': how many values and letters a reading holds, each counted each time it is reached (what is shared counts as often as it is met; a slice's spare places count too). A statement '..UptoSaid' is the law's where the arguments, and the package variables that the reading takes, are together of bulk at most 1048576: NARROWER than '..Said'. Prove '..Said' where nothing that the law and all that it calls make is longer than what came in: it says more and counts as full. Else prove '..UptoSaid'. A law counts once. -/
mutual
def uptoBulk {H : Type} : DataW H → Nat
  | .lit (.string bytes) => bytes.length + 1
  | .lit _ => 1
  | .nil => 1
  | .ptr d => uptoBulk d + 1
  | .slice elems spare => uptoBulkAll elems + uptoBulkAll spare + 1
  | .agg parts => uptoBulkAll parts + 1
  | .iface _ d => uptoBulk d + 1
  | .map entries => uptoBulkEntries entries + 1
  | .held _ => 1
def uptoBulkAll {H : Type} : List (DataW H) → Nat
  | [] => 0
  | d :: r => uptoBulk d + uptoBulkAll r
def uptoBulkEntries {H : Type} : List (Lit × DataW H) → Nat
  | [] => 0
  | x :: r => uptoBulkEntry x + uptoBulkEntries r
def uptoBulkEntry {H : Type} : Lit × DataW H → Nat
  | (.string bytes, d) => bytes.length + uptoBulk d + 1
  | (_, d) => uptoBulk d + 1
 end
def uptoSmall : (H : Type) → List (DataW H) → Bool := fun _ ds => decide (uptoBulkAll ds ≤ 1048576)
def OpenSpec.upto (s : _root_.Go.ChangeSpec) : _root_.Go.OpenSpec := { _root_.Go.OpenSpec.ofChange s with cond := some uptoSmall }

/-- 'psalterylaw02.SumTables', WHERE WHAT IT READS IS OF BULK AT MOST 1048576: true; the input reads as it did. -/
def sumTablesUptoRow : OpenClaim := { program := "yteoclecadpapfaa", sum := "7090a2a09047829b70a638575bb8103dc73547b810a908bd01798cb0215ff5bd", func := "psaltery/psalterylaw02.SumTables", spec := "sumTables", unfollowed := true, recurses := true, apart := false, narrowed := true }
def SumTablesUptoSaid : Prop := sumTablesUptoRow.holds Try.pinned (OpenSpec.upto sumTablesSpec)

/-- 'psalterylaw02.SumSums', WHERE WHAT IT READS IS OF BULK AT MOST 1048576: true; the input reads as it did. -/
def sumSumsUptoRow : OpenClaim := { program := "yteoclecadpapfaa", sum := "7090a2a09047829b70a638575bb8103dc73547b810a908bd01798cb0215ff5bd", func := "psaltery/psalterylaw02.SumSums", spec := "sumSums", unfollowed := true, recurses := true, apart := false, narrowed := true }
def SumSumsUptoSaid : Prop := sumSumsUptoRow.holds Try.pinned (OpenSpec.upto sumSumsSpec)

/-- 'psalterylaw02.SumAdds', WHERE WHAT IT READS IS OF BULK AT MOST 1048576: true; the input reads as it did. -/
def sumAddsUptoRow : OpenClaim := { program := "yteoclecadpapfaa", sum := "7090a2a09047829b70a638575bb8103dc73547b810a908bd01798cb0215ff5bd", func := "psaltery/psalterylaw02.SumAdds", spec := "sumAdds", unfollowed := true, recurses := true, apart := false, narrowed := true }
def SumAddsUptoSaid : Prop := sumAddsUptoRow.holds Try.pinned (OpenSpec.upto sumAddsSpec)

/-- 'psalterylaw02.SumParts', WHERE WHAT IT READS IS OF BULK AT MOST 1048576: true; the input reads as it did. -/
def sumPartsUptoRow : OpenClaim := { program := "yteoclecadpapfaa", sum := "7090a2a09047829b70a638575bb8103dc73547b810a908bd01798cb0215ff5bd", func := "psaltery/psalterylaw02.SumParts", spec := "sumParts", unfollowed := true, recurses := true, apart := false, narrowed := true }
def SumPartsUptoSaid : Prop := sumPartsUptoRow.holds Try.pinned (OpenSpec.upto sumPartsSpec)

/-- 'psalterylaw18.PageTurned', WHERE WHAT IT READS IS OF BULK AT MOST 1048576: true; the input reads as it did. -/
def pageTurnedUptoRow : OpenClaim := { program := "yteoclecadpapfaa", sum := "7090a2a09047829b70a638575bb8103dc73547b810a908bd01798cb0215ff5bd", func := "psaltery/psalterylaw18.PageTurned", spec := "pageTurned", unfollowed := true, recurses := true, apart := false, narrowed := true }
def PageTurnedUptoSaid : Prop := pageTurnedUptoRow.holds Try.pinned (OpenSpec.upto pageTurnedSpec)

/-- 'psalterylaw02.SumBursts', WHERE WHAT IT READS IS OF BULK AT MOST 1048576: true; the input reads as it did. -/
def sumBurstsUptoRow : OpenClaim := { program := "yteoclecadpapfaa", sum := "7090a2a09047829b70a638575bb8103dc73547b810a908bd01798cb0215ff5bd", func := "psaltery/psalterylaw02.SumBursts", spec := "sumBursts", unfollowed := true, recurses := true, apart := false, narrowed := true }
def SumBurstsUptoSaid : Prop := sumBurstsUptoRow.holds Try.pinned (OpenSpec.upto sumBurstsSpec)

/-- 'psalterylaw18.PageWhole', WHERE WHAT IT READS IS OF BULK AT MOST 1048576: true; the input reads as it did. -/
def pageWholeUptoRow : OpenClaim := { program := "yteoclecadpapfaa", sum := "7090a2a09047829b70a638575bb8103dc73547b810a908bd01798cb0215ff5bd", func := "psaltery/psalterylaw18.PageWhole", spec := "pageWhole", unfollowed := true, recurses := true, apart := false, narrowed := true }
def PageWholeUptoSaid : Prop := pageWholeUptoRow.holds Try.pinned (OpenSpec.upto pageWholeSpec)

/-- 'psalterylaw19.GramWrites', WHERE WHAT IT READS IS OF BULK AT MOST 1048576: true; the input reads as it did. -/
def gramWritesUptoRow : OpenClaim := { program := "yteoclecadpapfaa", sum := "7090a2a09047829b70a638575bb8103dc73547b810a908bd01798cb0215ff5bd", func := "psaltery/psalterylaw19.GramWrites", spec := "gramWrites", unfollowed := true, recurses := true, apart := false, narrowed := true }
def GramWritesUptoSaid : Prop := gramWritesUptoRow.holds Try.pinned (OpenSpec.upto gramWritesSpec)

/-- 'psalterylaw19.GramReads', WHERE WHAT IT READS IS OF BULK AT MOST 1048576: true; the input reads as it did. -/
def gramReadsUptoRow : OpenClaim := { program := "yteoclecadpapfaa", sum := "7090a2a09047829b70a638575bb8103dc73547b810a908bd01798cb0215ff5bd", func := "psaltery/psalterylaw19.GramReads", spec := "gramReads", unfollowed := true, recurses := true, apart := false, narrowed := true }
def GramReadsUptoSaid : Prop := gramReadsUptoRow.holds Try.pinned (OpenSpec.upto gramReadsSpec)

/-- 'psalterylaw19.GramWholes', WHERE WHAT IT READS IS OF BULK AT MOST 1048576: true; the input reads as it did. -/
def gramWholesUptoRow : OpenClaim := { program := "yteoclecadpapfaa", sum := "7090a2a09047829b70a638575bb8103dc73547b810a908bd01798cb0215ff5bd", func := "psaltery/psalterylaw19.GramWholes", spec := "gramWholes", unfollowed := true, recurses := true, apart := false, narrowed := true }
def GramWholesUptoSaid : Prop := gramWholesUptoRow.holds Try.pinned (OpenSpec.upto gramWholesSpec)

/-- 'psalterylaw19.GramBack', WHERE WHAT IT READS IS OF BULK AT MOST 1048576: true; the input reads as it did. -/
def gramBackUptoRow : OpenClaim := { program := "yteoclecadpapfaa", sum := "7090a2a09047829b70a638575bb8103dc73547b810a908bd01798cb0215ff5bd", func := "psaltery/psalterylaw19.GramBack", spec := "gramBack", unfollowed := true, recurses := true, apart := false, narrowed := true }
def GramBackUptoSaid : Prop := gramBackUptoRow.holds Try.pinned (OpenSpec.upto gramBackSpec)

/-- 'psalterylaw19.GramOnly', WHERE WHAT IT READS IS OF BULK AT MOST 1048576: true; the input reads as it did. -/
def gramOnlyUptoRow : OpenClaim := { program := "yteoclecadpapfaa", sum := "7090a2a09047829b70a638575bb8103dc73547b810a908bd01798cb0215ff5bd", func := "psaltery/psalterylaw19.GramOnly", spec := "gramOnly", unfollowed := true, recurses := true, apart := false, narrowed := true }
def GramOnlyUptoSaid : Prop := gramOnlyUptoRow.holds Try.pinned (OpenSpec.upto gramOnlySpec)

/-- 'psalterylaw19.GramFinds', WHERE WHAT IT READS IS OF BULK AT MOST 1048576: true; the input reads as it did. -/
def gramFindsUptoRow : OpenClaim := { program := "yteoclecadpapfaa", sum := "7090a2a09047829b70a638575bb8103dc73547b810a908bd01798cb0215ff5bd", func := "psaltery/psalterylaw19.GramFinds", spec := "gramFinds", unfollowed := true, recurses := true, apart := false, narrowed := true }
def GramFindsUptoSaid : Prop := gramFindsUptoRow.holds Try.pinned (OpenSpec.upto gramFindsSpec)

/-- 'psalterylaw19.GramTurned', WHERE WHAT IT READS IS OF BULK AT MOST 1048576: true; the input reads as it did. -/
def gramTurnedUptoRow : OpenClaim := { program := "yteoclecadpapfaa", sum := "7090a2a09047829b70a638575bb8103dc73547b810a908bd01798cb0215ff5bd", func := "psaltery/psalterylaw19.GramTurned", spec := "gramTurned", unfollowed := true, recurses := true, apart := false, narrowed := true }
def GramTurnedUptoSaid : Prop := gramTurnedUptoRow.holds Try.pinned (OpenSpec.upto gramTurnedSpec)

/-- 'psalterylaw18.PageRights', WHERE WHAT IT READS IS OF BULK AT MOST 1048576: true; the input reads as it did. -/
def pageRightsUptoRow : OpenClaim := { program := "yteoclecadpapfaa", sum := "7090a2a09047829b70a638575bb8103dc73547b810a908bd01798cb0215ff5bd", func := "psaltery/psalterylaw18.PageRights", spec := "pageRights", unfollowed := true, recurses := true, apart := false, narrowed := true }
def PageRightsUptoSaid : Prop := pageRightsUptoRow.holds Try.pinned (OpenSpec.upto pageRightsSpec)

/-- 'psalterylaw18.PageWrites', WHERE WHAT IT READS IS OF BULK AT MOST 1048576: true; the input reads as it did. -/
def pageWritesUptoRow : OpenClaim := { program := "yteoclecadpapfaa", sum := "7090a2a09047829b70a638575bb8103dc73547b810a908bd01798cb0215ff5bd", func := "psaltery/psalterylaw18.PageWrites", spec := "pageWrites", unfollowed := true, recurses := true, apart := false, narrowed := true }
def PageWritesUptoSaid : Prop := pageWritesUptoRow.holds Try.pinned (OpenSpec.upto pageWritesSpec)

/-- 'psalterylaw18.PageReads', WHERE WHAT IT READS IS OF BULK AT MOST 1048576: true; the input reads as it did. -/
def pageReadsUptoRow : OpenClaim := { program := "yteoclecadpapfaa", sum := "7090a2a09047829b70a638575bb8103dc73547b810a908bd01798cb0215ff5bd", func := "psaltery/psalterylaw18.PageReads", spec := "pageReads", unfollowed := true, recurses := true, apart := false, narrowed := true }
def PageReadsUptoSaid : Prop := pageReadsUptoRow.holds Try.pinned (OpenSpec.upto pageReadsSpec)

/-- 'psalterylaw18.PageJoins', WHERE WHAT IT READS IS OF BULK AT MOST 1048576: true; the input reads as it did. -/
def pageJoinsUptoRow : OpenClaim := { program := "yteoclecadpapfaa", sum := "7090a2a09047829b70a638575bb8103dc73547b810a908bd01798cb0215ff5bd", func := "psaltery/psalterylaw18.PageJoins", spec := "pageJoins", unfollowed := true, recurses := true, apart := false, narrowed := true }
def PageJoinsUptoSaid : Prop := pageJoinsUptoRow.holds Try.pinned (OpenSpec.upto pageJoinsSpec)

/-- 'psalterylaw18.PageBack', WHERE WHAT IT READS IS OF BULK AT MOST 1048576: true; the input reads as it did. -/
def pageBackUptoRow : OpenClaim := { program := "yteoclecadpapfaa", sum := "7090a2a09047829b70a638575bb8103dc73547b810a908bd01798cb0215ff5bd", func := "psaltery/psalterylaw18.PageBack", spec := "pageBack", unfollowed := true, recurses := true, apart := false, narrowed := true }
def PageBackUptoSaid : Prop := pageBackUptoRow.holds Try.pinned (OpenSpec.upto pageBackSpec)

end Rows
end Go.Proofs.Yteoclecadpapfaa
