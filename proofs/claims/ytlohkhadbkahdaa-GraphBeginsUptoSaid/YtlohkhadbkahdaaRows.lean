/-
  No cell of these rows narrows 'for every input' (looked for: loops, veiled, ifaces, maps, wideKeys, modest, calm, conditions, laid).
  DERIVED. THE GIVEN ROWS OF THIS SEAT. 10 by the template 'for every input the law returns true; each argument reads behind the call as it read before'; 0 by the template 'total and deterministic' (their statements: YtlohkhadbkahdaaTotals.lean).
  GIVEN WITH THE SEED: the statements are not yours to turn. If you find one false, say at which input.
  Laid BY PROGRAM, IN A SANDBOX (cutbox-rows.mjs): the forced cells as the released guide's own fill.sh prints them over the translation a2a0732d1d3f9356… (all of the seat's roots in one cut). By AI agents, Wed Nov 11 2026. No macro, syntax, notation, axiom, sorry.
-/
import Derived.Test.YtlohkhadbkahdaaChecked
import GoSem.Claim
import GoSem.ClaimJoined
import GoSem.ClaimMapViews
import Derived.JoinedTies
import Derived.KernelRfl
namespace Go.Proofs.Ytlohkhadbkahdaa
/- THE CELL 'sum', in the pinned program and in every row, IS THE sha256 OF THE DUMP (.gsa) THAT YtlohkhadbkahdaaProg.lean LOADS. Nothing in Lean hashes anything: it is a label: what it is worth is what the hold of that sum in a sandbox is worth. -/
noncomputable def Try.pinned : Pinned := { name := "ytlohkhadbkahdaa", sum := "a2a0732d1d3f9356070c5c1629eec61d50d285f63382c169be0572ef47990221", checked := Try.checked }
namespace Rows
def none {H : Type} : Left H := { results := [], args := [] }

/-- 'shacklelaw06.SymsTexts': WHATEVER THE INPUT: true; the input reads as it did. -/
def symsTextsSpec : ChangeSpec := { name := "symsTexts", fn := fun _ => fun
  | [d1, d2] => { results := [.lit (.bool true)], args := [d1, d2] }
  | _ => none }
def symsTextsRow : OpenClaim := { program := "ytlohkhadbkahdaa", sum := "a2a0732d1d3f9356070c5c1629eec61d50d285f63382c169be0572ef47990221", func := "shackle/shacklelaw06.SymsTexts", spec := "symsTexts", inPlace := ["internal/bytealg.IndexByte"], apart := false }
def SymsTextsSaid : Prop := symsTextsRow.holds Try.pinned (OpenSpec.ofChange symsTextsSpec)

/-- ITS FALSE NEIGHBOUR: 'it returns false'. Refute it at one input. -/
def symsTextsWrong : ChangeSpec := { name := "symsTexts", fn := fun _ => fun
  | [d1, d2] => { results := [.lit (.bool false)], args := [d1, d2] }
  | _ => none }
def SymsTextsWrongFalsely : Prop := symsTextsRow.holds Try.pinned (OpenSpec.ofChange symsTextsWrong)

/-- 'shacklelaw06.SymsWhole': WHATEVER THE INPUT: true; the input reads as it did. -/
def symsWholeSpec : ChangeSpec := { name := "symsWhole", fn := fun _ => fun
  | [d1, d2] => { results := [.lit (.bool true)], args := [d1, d2] }
  | _ => none }
def symsWholeRow : OpenClaim := { program := "ytlohkhadbkahdaa", sum := "a2a0732d1d3f9356070c5c1629eec61d50d285f63382c169be0572ef47990221", func := "shackle/shacklelaw06.SymsWhole", spec := "symsWhole", inPlace := ["internal/bytealg.IndexByte"], apart := false }
def SymsWholeSaid : Prop := symsWholeRow.holds Try.pinned (OpenSpec.ofChange symsWholeSpec)

/-- ITS FALSE NEIGHBOUR: 'it returns false'. Refute it at one input. -/
def symsWholeWrong : ChangeSpec := { name := "symsWhole", fn := fun _ => fun
  | [d1, d2] => { results := [.lit (.bool false)], args := [d1, d2] }
  | _ => none }
def SymsWholeWrongFalsely : Prop := symsWholeRow.holds Try.pinned (OpenSpec.ofChange symsWholeWrong)

/-- 'shacklelaw07.HashSums': WHATEVER THE INPUT: true; the input reads as it did. -/
def hashSumsSpec : ChangeSpec := { name := "hashSums", fn := fun _ => fun
  | [d] => { results := [.lit (.bool true)], args := [d] }
  | _ => none }
def hashSumsRow : OpenClaim := { program := "ytlohkhadbkahdaa", sum := "a2a0732d1d3f9356070c5c1629eec61d50d285f63382c169be0572ef47990221", func := "shackle/shacklelaw07.HashSums", spec := "hashSums", apart := false }
def HashSumsSaid : Prop := hashSumsRow.holds Try.pinned (OpenSpec.ofChange hashSumsSpec)

/-- ITS FALSE NEIGHBOUR: 'it returns false'. Refute it at one input. -/
def hashSumsWrong : ChangeSpec := { name := "hashSums", fn := fun _ => fun
  | [d] => { results := [.lit (.bool false)], args := [d] }
  | _ => none }
def HashSumsWrongFalsely : Prop := hashSumsRow.holds Try.pinned (OpenSpec.ofChange hashSumsWrong)

/-- 'shacklelaw07.HashGrows': WHATEVER THE INPUT: true; the input reads as it did. -/
def hashGrowsSpec : ChangeSpec := { name := "hashGrows", fn := fun _ => fun
  | [d1, d2, d3] => { results := [.lit (.bool true)], args := [d1, d2, d3] }
  | _ => none }
def hashGrowsRow : OpenClaim := { program := "ytlohkhadbkahdaa", sum := "a2a0732d1d3f9356070c5c1629eec61d50d285f63382c169be0572ef47990221", func := "shackle/shacklelaw07.HashGrows", spec := "hashGrows", apart := false }
def HashGrowsSaid : Prop := hashGrowsRow.holds Try.pinned (OpenSpec.ofChange hashGrowsSpec)

/-- ITS FALSE NEIGHBOUR: 'it returns false'. Refute it at one input. -/
def hashGrowsWrong : ChangeSpec := { name := "hashGrows", fn := fun _ => fun
  | [d1, d2, d3] => { results := [.lit (.bool false)], args := [d1, d2, d3] }
  | _ => none }
def HashGrowsWrongFalsely : Prop := hashGrowsRow.holds Try.pinned (OpenSpec.ofChange hashGrowsWrong)

/-- 'shacklelaw16.GraphOrders': WHATEVER THE INPUT: true; the input reads as it did. -/
def graphOrdersSpec : ChangeSpec := { name := "graphOrders", fn := fun _ => fun
  | [d1, d2] => { results := [.lit (.bool true)], args := [d1, d2] }
  | _ => none }
def graphOrdersRow : OpenClaim := { program := "ytlohkhadbkahdaa", sum := "a2a0732d1d3f9356070c5c1629eec61d50d285f63382c169be0572ef47990221", func := "shackle/shacklelaw16.GraphOrders", spec := "graphOrders", unfollowed := true, recurses := true, apart := false }
def GraphOrdersSaid : Prop := graphOrdersRow.holds Try.pinned (OpenSpec.ofChange graphOrdersSpec)

/-- ITS FALSE NEIGHBOUR: 'it returns false'. Refute it at one input. -/
def graphOrdersWrong : ChangeSpec := { name := "graphOrders", fn := fun _ => fun
  | [d1, d2] => { results := [.lit (.bool false)], args := [d1, d2] }
  | _ => none }
def GraphOrdersWrongFalsely : Prop := graphOrdersRow.holds Try.pinned (OpenSpec.ofChange graphOrdersWrong)

/-- 'shacklelaw16.GraphLives': WHATEVER THE INPUT: true; the input reads as it did. -/
def graphLivesSpec : ChangeSpec := { name := "graphLives", fn := fun _ => fun
  | [d1, d2] => { results := [.lit (.bool true)], args := [d1, d2] }
  | _ => none }
def graphLivesRow : OpenClaim := { program := "ytlohkhadbkahdaa", sum := "a2a0732d1d3f9356070c5c1629eec61d50d285f63382c169be0572ef47990221", func := "shackle/shacklelaw16.GraphLives", spec := "graphLives", unfollowed := true, recurses := true, apart := false }
def GraphLivesSaid : Prop := graphLivesRow.holds Try.pinned (OpenSpec.ofChange graphLivesSpec)

/-- ITS FALSE NEIGHBOUR: 'it returns false'. Refute it at one input. -/
def graphLivesWrong : ChangeSpec := { name := "graphLives", fn := fun _ => fun
  | [d1, d2] => { results := [.lit (.bool false)], args := [d1, d2] }
  | _ => none }
def GraphLivesWrongFalsely : Prop := graphLivesRow.holds Try.pinned (OpenSpec.ofChange graphLivesWrong)

/-- 'shacklelaw16.GraphBegins': WHATEVER THE INPUT: true; the input reads as it did. -/
def graphBeginsSpec : ChangeSpec := { name := "graphBegins", fn := fun _ => fun
  | [d1, d2] => { results := [.lit (.bool true)], args := [d1, d2] }
  | _ => none }
def graphBeginsRow : OpenClaim := { program := "ytlohkhadbkahdaa", sum := "a2a0732d1d3f9356070c5c1629eec61d50d285f63382c169be0572ef47990221", func := "shackle/shacklelaw16.GraphBegins", spec := "graphBegins", unfollowed := true, recurses := true, apart := false }
def GraphBeginsSaid : Prop := graphBeginsRow.holds Try.pinned (OpenSpec.ofChange graphBeginsSpec)

/-- ITS FALSE NEIGHBOUR: 'it returns false'. Refute it at one input. -/
def graphBeginsWrong : ChangeSpec := { name := "graphBegins", fn := fun _ => fun
  | [d1, d2] => { results := [.lit (.bool false)], args := [d1, d2] }
  | _ => none }
def GraphBeginsWrongFalsely : Prop := graphBeginsRow.holds Try.pinned (OpenSpec.ofChange graphBeginsWrong)

/-- 'shacklelaw16.GraphMore': WHATEVER THE INPUT: true; the input reads as it did. -/
def graphMoreSpec : ChangeSpec := { name := "graphMore", fn := fun _ => fun
  | [d1, d2, d3] => { results := [.lit (.bool true)], args := [d1, d2, d3] }
  | _ => none }
def graphMoreRow : OpenClaim := { program := "ytlohkhadbkahdaa", sum := "a2a0732d1d3f9356070c5c1629eec61d50d285f63382c169be0572ef47990221", func := "shackle/shacklelaw16.GraphMore", spec := "graphMore", unfollowed := true, recurses := true, apart := false }
def GraphMoreSaid : Prop := graphMoreRow.holds Try.pinned (OpenSpec.ofChange graphMoreSpec)

/-- ITS FALSE NEIGHBOUR: 'it returns false'. Refute it at one input. -/
def graphMoreWrong : ChangeSpec := { name := "graphMore", fn := fun _ => fun
  | [d1, d2, d3] => { results := [.lit (.bool false)], args := [d1, d2, d3] }
  | _ => none }
def GraphMoreWrongFalsely : Prop := graphMoreRow.holds Try.pinned (OpenSpec.ofChange graphMoreWrong)

/-- 'shacklelaw06.SymsReads': WHATEVER THE INPUT: true; the input reads as it did. -/
def symsReadsSpec : ChangeSpec := { name := "symsReads", fn := fun _ => fun
  | [d1, d2, d3, d4] => { results := [.lit (.bool true)], args := [d1, d2, d3, d4] }
  | _ => none }
def symsReadsRow : OpenClaim := { program := "ytlohkhadbkahdaa", sum := "a2a0732d1d3f9356070c5c1629eec61d50d285f63382c169be0572ef47990221", func := "shackle/shacklelaw06.SymsReads", spec := "symsReads", inPlace := ["internal/bytealg.IndexByte"], apart := false }
def SymsReadsSaid : Prop := symsReadsRow.holds Try.pinned (OpenSpec.ofChange symsReadsSpec)

/-- ITS FALSE NEIGHBOUR: 'it returns false'. Refute it at one input. -/
def symsReadsWrong : ChangeSpec := { name := "symsReads", fn := fun _ => fun
  | [d1, d2, d3, d4] => { results := [.lit (.bool false)], args := [d1, d2, d3, d4] }
  | _ => none }
def SymsReadsWrongFalsely : Prop := symsReadsRow.holds Try.pinned (OpenSpec.ofChange symsReadsWrong)

/-- 'shacklelaw06.SymsStand': WHATEVER THE INPUT: true; the input reads as it did. -/
def symsStandSpec : ChangeSpec := { name := "symsStand", fn := fun _ => fun
  | [d1, d2, d3, d4] => { results := [.lit (.bool true)], args := [d1, d2, d3, d4] }
  | _ => none }
def symsStandRow : OpenClaim := { program := "ytlohkhadbkahdaa", sum := "a2a0732d1d3f9356070c5c1629eec61d50d285f63382c169be0572ef47990221", func := "shackle/shacklelaw06.SymsStand", spec := "symsStand", inPlace := ["internal/bytealg.IndexByte"], apart := false }
def SymsStandSaid : Prop := symsStandRow.holds Try.pinned (OpenSpec.ofChange symsStandSpec)

/-- ITS FALSE NEIGHBOUR: 'it returns false'. Refute it at one input. -/
def symsStandWrong : ChangeSpec := { name := "symsStand", fn := fun _ => fun
  | [d1, d2, d3, d4] => { results := [.lit (.bool false)], args := [d1, d2, d3, d4] }
  | _ => none }
def SymsStandWrongFalsely : Prop := symsStandRow.holds Try.pinned (OpenSpec.ofChange symsStandWrong)

/- THE SECOND FORM. 'bulk': how many values and letters a reading holds, each counted each time it is reached (what is shared counts as often as it is met; a slice's spare places count too). A statement '..UptoSaid' is the law's where the arguments, and the package variables that the reading takes, are together of bulk at most 1048576: NARROWER than '..Said'. Prove '..Said' where nothing that the law and all that it calls make is longer than what came in: it says more and counts as full. Else prove '..UptoSaid'. A law counts once. -/
mutual
def uptoBulk {H : Type} : DataW H → Nat
  | .lit (.string bytes) => bytes.length + 1
  | .lit _ => 1
  | .nil => 1
  | .ptr d => uptoBulk d + 1
  | .slice elems spare => uptoBulkAll elems + uptoBulkAll spare + 1
  | .agg parts => uptoBulkAll parts + 1
  | .iface _ d => uptoBulk d + 1
  | .map entries => uptoBulkEntries entries + 1
  | .held _ => 1
def uptoBulkAll {H : Type} : List (DataW H) → Nat
  | [] => 0
  | d :: r => uptoBulk d + uptoBulkAll r
def uptoBulkEntries {H : Type} : List (Lit × DataW H) → Nat
  | [] => 0
  | x :: r => uptoBulkEntry x + uptoBulkEntries r
def uptoBulkEntry {H : Type} : Lit × DataW H → Nat
  | (.string bytes, d) => bytes.length + uptoBulk d + 1
  | (_, d) => uptoBulk d + 1
 end
def uptoSmall : (H : Type) → List (DataW H) → Bool := fun _ ds => decide (uptoBulkAll ds ≤ 1048576)
def OpenSpec.upto (s : _root_.Go.ChangeSpec) : _root_.Go.OpenSpec := { _root_.Go.OpenSpec.ofChange s with cond := some uptoSmall }

/-- 'shacklelaw06.SymsTexts', WHERE WHAT IT READS IS OF BULK AT MOST 1048576: true; the input reads as it did. -/
def symsTextsUptoRow : OpenClaim := { program := "ytlohkhadbkahdaa", sum := "a2a0732d1d3f9356070c5c1629eec61d50d285f63382c169be0572ef47990221", func := "shackle/shacklelaw06.SymsTexts", spec := "symsTexts", inPlace := ["internal/bytealg.IndexByte"], apart := false, narrowed := true }
def SymsTextsUptoSaid : Prop := symsTextsUptoRow.holds Try.pinned (OpenSpec.upto symsTextsSpec)

/-- 'shacklelaw06.SymsWhole', WHERE WHAT IT READS IS OF BULK AT MOST 1048576: true; the input reads as it did. -/
def symsWholeUptoRow : OpenClaim := { program := "ytlohkhadbkahdaa", sum := "a2a0732d1d3f9356070c5c1629eec61d50d285f63382c169be0572ef47990221", func := "shackle/shacklelaw06.SymsWhole", spec := "symsWhole", inPlace := ["internal/bytealg.IndexByte"], apart := false, narrowed := true }
def SymsWholeUptoSaid : Prop := symsWholeUptoRow.holds Try.pinned (OpenSpec.upto symsWholeSpec)

/-- 'shacklelaw07.HashSums', WHERE WHAT IT READS IS OF BULK AT MOST 1048576: true; the input reads as it did. -/
def hashSumsUptoRow : OpenClaim := { program := "ytlohkhadbkahdaa", sum := "a2a0732d1d3f9356070c5c1629eec61d50d285f63382c169be0572ef47990221", func := "shackle/shacklelaw07.HashSums", spec := "hashSums", apart := false, narrowed := true }
def HashSumsUptoSaid : Prop := hashSumsUptoRow.holds Try.pinned (OpenSpec.upto hashSumsSpec)

/-- 'shacklelaw07.HashGrows', WHERE WHAT IT READS IS OF BULK AT MOST 1048576: true; the input reads as it did. -/
def hashGrowsUptoRow : OpenClaim := { program := "ytlohkhadbkahdaa", sum := "a2a0732d1d3f9356070c5c1629eec61d50d285f63382c169be0572ef47990221", func := "shackle/shacklelaw07.HashGrows", spec := "hashGrows", apart := false, narrowed := true }
def HashGrowsUptoSaid : Prop := hashGrowsUptoRow.holds Try.pinned (OpenSpec.upto hashGrowsSpec)

/-- 'shacklelaw16.GraphOrders', WHERE WHAT IT READS IS OF BULK AT MOST 1048576: true; the input reads as it did. -/
def graphOrdersUptoRow : OpenClaim := { program := "ytlohkhadbkahdaa", sum := "a2a0732d1d3f9356070c5c1629eec61d50d285f63382c169be0572ef47990221", func := "shackle/shacklelaw16.GraphOrders", spec := "graphOrders", unfollowed := true, recurses := true, apart := false, narrowed := true }
def GraphOrdersUptoSaid : Prop := graphOrdersUptoRow.holds Try.pinned (OpenSpec.upto graphOrdersSpec)

/-- 'shacklelaw16.GraphLives', WHERE WHAT IT READS IS OF BULK AT MOST 1048576: true; the input reads as it did. -/
def graphLivesUptoRow : OpenClaim := { program := "ytlohkhadbkahdaa", sum := "a2a0732d1d3f9356070c5c1629eec61d50d285f63382c169be0572ef47990221", func := "shackle/shacklelaw16.GraphLives", spec := "graphLives", unfollowed := true, recurses := true, apart := false, narrowed := true }
def GraphLivesUptoSaid : Prop := graphLivesUptoRow.holds Try.pinned (OpenSpec.upto graphLivesSpec)

/-- 'shacklelaw16.GraphBegins', WHERE WHAT IT READS IS OF BULK AT MOST 1048576: true; the input reads as it did. -/
def graphBeginsUptoRow : OpenClaim := { program := "ytlohkhadbkahdaa", sum := "a2a0732d1d3f9356070c5c1629eec61d50d285f63382c169be0572ef47990221", func := "shackle/shacklelaw16.GraphBegins", spec := "graphBegins", unfollowed := true, recurses := true, apart := false, narrowed := true }
def GraphBeginsUptoSaid : Prop := graphBeginsUptoRow.holds Try.pinned (OpenSpec.upto graphBeginsSpec)

/-- 'shacklelaw16.GraphMore', WHERE WHAT IT READS IS OF BULK AT MOST 1048576: true; the input reads as it did. -/
def graphMoreUptoRow : OpenClaim := { program := "ytlohkhadbkahdaa", sum := "a2a0732d1d3f9356070c5c1629eec61d50d285f63382c169be0572ef47990221", func := "shackle/shacklelaw16.GraphMore", spec := "graphMore", unfollowed := true, recurses := true, apart := false, narrowed := true }
def GraphMoreUptoSaid : Prop := graphMoreUptoRow.holds Try.pinned (OpenSpec.upto graphMoreSpec)

/-- 'shacklelaw06.SymsReads', WHERE WHAT IT READS IS OF BULK AT MOST 1048576: true; the input reads as it did. -/
def symsReadsUptoRow : OpenClaim := { program := "ytlohkhadbkahdaa", sum := "a2a0732d1d3f9356070c5c1629eec61d50d285f63382c169be0572ef47990221", func := "shackle/shacklelaw06.SymsReads", spec := "symsReads", inPlace := ["internal/bytealg.IndexByte"], apart := false, narrowed := true }
def SymsReadsUptoSaid : Prop := symsReadsUptoRow.holds Try.pinned (OpenSpec.upto symsReadsSpec)

/-- 'shacklelaw06.SymsStand', WHERE WHAT IT READS IS OF BULK AT MOST 1048576: true; the input reads as it did. -/
def symsStandUptoRow : OpenClaim := { program := "ytlohkhadbkahdaa", sum := "a2a0732d1d3f9356070c5c1629eec61d50d285f63382c169be0572ef47990221", func := "shackle/shacklelaw06.SymsStand", spec := "symsStand", inPlace := ["internal/bytealg.IndexByte"], apart := false, narrowed := true }
def SymsStandUptoSaid : Prop := symsStandUptoRow.holds Try.pinned (OpenSpec.upto symsStandSpec)

end Rows
end Go.Proofs.Ytlohkhadbkahdaa
