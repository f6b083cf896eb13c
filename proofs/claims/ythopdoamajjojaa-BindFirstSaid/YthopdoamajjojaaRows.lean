/-
  No cell of these rows narrows 'for every input' (looked for: loops, veiled, ifaces, maps, wideKeys, modest, calm, conditions, laid).
  DERIVED. THE GIVEN ROWS OF THIS SEAT. 7 by the template 'for every input the law returns true; each argument reads behind the call as it read before'; 0 by the template 'total and deterministic' (their statements: YthopdoamajjojaaTotals.lean).
  GIVEN WITH THE SEED: the statements are not yours to turn. If you find one false, say at which input.
  Laid BY PROGRAM, IN A SANDBOX (cutbox-rows.mjs): the forced cells as the released guide's own fill.sh prints them over the translation 5bf22a25aa957f29… (all of the seat's roots in one cut). By AI agents, Wed Nov 11 2026. No macro, syntax, notation, axiom, sorry.
-/
import Derived.Test.YthopdoamajjojaaChecked
import GoSem.Claim
import GoSem.ClaimJoined
import GoSem.ClaimMapViews
import Derived.JoinedTies
import Derived.KernelRfl
namespace Go.Proofs.Ythopdoamajjojaa
/- THE CELL 'sum', in the pinned program and in every row, IS THE sha256 OF THE DUMP (.gsa) THAT YthopdoamajjojaaProg.lean LOADS. Nothing in Lean hashes anything: it is a label: what it is worth is what the hold of that sum in a sandbox is worth. -/
noncomputable def Try.pinned : Pinned := { name := "ythopdoamajjojaa", sum := "5bf22a25aa957f295485bab32d460954aed5fcc667b0683700cbd3470f4ae216", checked := Try.checked }
namespace Rows
def none {H : Type} : Left H := { results := [], args := [] }

/-- 'shacklelaw07.HashFinds': WHATEVER THE INPUT: true; the input reads as it did. -/
def hashFindsSpec : ChangeSpec := { name := "hashFinds", fn := fun _ => fun
  | [d1, d2, d3] => { results := [.lit (.bool true)], args := [d1, d2, d3] }
  | _ => none }
def hashFindsRow : OpenClaim := { program := "ythopdoamajjojaa", sum := "5bf22a25aa957f295485bab32d460954aed5fcc667b0683700cbd3470f4ae216", func := "shackle/shacklelaw07.HashFinds", spec := "hashFinds", apart := false }
def HashFindsSaid : Prop := hashFindsRow.holds Try.pinned (OpenSpec.ofChange hashFindsSpec)

/-- ITS FALSE NEIGHBOUR: 'it returns false'. Refute it at one input. -/
def hashFindsWrong : ChangeSpec := { name := "hashFinds", fn := fun _ => fun
  | [d1, d2, d3] => { results := [.lit (.bool false)], args := [d1, d2, d3] }
  | _ => none }
def HashFindsWrongFalsely : Prop := hashFindsRow.holds Try.pinned (OpenSpec.ofChange hashFindsWrong)

/-- 'shacklelaw07.HashBoth': WHATEVER THE INPUT: true; the input reads as it did. -/
def hashBothSpec : ChangeSpec := { name := "hashBoth", fn := fun _ => fun
  | [d1, d2, d3, d4] => { results := [.lit (.bool true)], args := [d1, d2, d3, d4] }
  | _ => none }
def hashBothRow : OpenClaim := { program := "ythopdoamajjojaa", sum := "5bf22a25aa957f295485bab32d460954aed5fcc667b0683700cbd3470f4ae216", func := "shackle/shacklelaw07.HashBoth", spec := "hashBoth", apart := false }
def HashBothSaid : Prop := hashBothRow.holds Try.pinned (OpenSpec.ofChange hashBothSpec)

/-- ITS FALSE NEIGHBOUR: 'it returns false'. Refute it at one input. -/
def hashBothWrong : ChangeSpec := { name := "hashBoth", fn := fun _ => fun
  | [d1, d2, d3, d4] => { results := [.lit (.bool false)], args := [d1, d2, d3, d4] }
  | _ => none }
def HashBothWrongFalsely : Prop := hashBothRow.holds Try.pinned (OpenSpec.ofChange hashBothWrong)

/-- 'shacklelaw08.VersReads': WHATEVER THE INPUT: true; the input reads as it did. -/
def versReadsSpec : ChangeSpec := { name := "versReads", fn := fun _ => fun
  | [d1, d2, d3, d4] => { results := [.lit (.bool true)], args := [d1, d2, d3, d4] }
  | _ => none }
def versReadsRow : OpenClaim := { program := "ythopdoamajjojaa", sum := "5bf22a25aa957f295485bab32d460954aed5fcc667b0683700cbd3470f4ae216", func := "shackle/shacklelaw08.VersReads", spec := "versReads", inPlace := ["internal/bytealg.IndexByte"], apart := false }
def VersReadsSaid : Prop := versReadsRow.holds Try.pinned (OpenSpec.ofChange versReadsSpec)

/-- ITS FALSE NEIGHBOUR: 'it returns false'. Refute it at one input. -/
def versReadsWrong : ChangeSpec := { name := "versReads", fn := fun _ => fun
  | [d1, d2, d3, d4] => { results := [.lit (.bool false)], args := [d1, d2, d3, d4] }
  | _ => none }
def VersReadsWrongFalsely : Prop := versReadsRow.holds Try.pinned (OpenSpec.ofChange versReadsWrong)

/-- 'shacklelaw08.VersOnce': WHATEVER THE INPUT: true; the input reads as it did. -/
def versOnceSpec : ChangeSpec := { name := "versOnce", fn := fun _ => fun
  | [d1, d2, d3, d4] => { results := [.lit (.bool true)], args := [d1, d2, d3, d4] }
  | _ => none }
def versOnceRow : OpenClaim := { program := "ythopdoamajjojaa", sum := "5bf22a25aa957f295485bab32d460954aed5fcc667b0683700cbd3470f4ae216", func := "shackle/shacklelaw08.VersOnce", spec := "versOnce", inPlace := ["internal/bytealg.IndexByte"], apart := false }
def VersOnceSaid : Prop := versOnceRow.holds Try.pinned (OpenSpec.ofChange versOnceSpec)

/-- ITS FALSE NEIGHBOUR: 'it returns false'. Refute it at one input. -/
def versOnceWrong : ChangeSpec := { name := "versOnce", fn := fun _ => fun
  | [d1, d2, d3, d4] => { results := [.lit (.bool false)], args := [d1, d2, d3, d4] }
  | _ => none }
def VersOnceWrongFalsely : Prop := versOnceRow.holds Try.pinned (OpenSpec.ofChange versOnceWrong)

/-- 'shacklelaw08.VersMade': WHATEVER THE INPUT: true; the input reads as it did. -/
def versMadeSpec : ChangeSpec := { name := "versMade", fn := fun _ => fun
  | [d1, d2, d3, d4] => { results := [.lit (.bool true)], args := [d1, d2, d3, d4] }
  | _ => none }
def versMadeRow : OpenClaim := { program := "ythopdoamajjojaa", sum := "5bf22a25aa957f295485bab32d460954aed5fcc667b0683700cbd3470f4ae216", func := "shackle/shacklelaw08.VersMade", spec := "versMade", inPlace := ["internal/bytealg.IndexByte"], apart := false }
def VersMadeSaid : Prop := versMadeRow.holds Try.pinned (OpenSpec.ofChange versMadeSpec)

/-- ITS FALSE NEIGHBOUR: 'it returns false'. Refute it at one input. -/
def versMadeWrong : ChangeSpec := { name := "versMade", fn := fun _ => fun
  | [d1, d2, d3, d4] => { results := [.lit (.bool false)], args := [d1, d2, d3, d4] }
  | _ => none }
def VersMadeWrongFalsely : Prop := versMadeRow.holds Try.pinned (OpenSpec.ofChange versMadeWrong)

/-- 'shacklelaw17.BindFirst': WHATEVER THE INPUT: true; the input reads as it did. -/
def bindFirstSpec : ChangeSpec := { name := "bindFirst", fn := fun _ => fun
  | [d1, d2, d3] => { results := [.lit (.bool true)], args := [d1, d2, d3] }
  | _ => none }
def bindFirstRow : OpenClaim := { program := "ythopdoamajjojaa", sum := "5bf22a25aa957f295485bab32d460954aed5fcc667b0683700cbd3470f4ae216", func := "shackle/shacklelaw17.BindFirst", spec := "bindFirst", unfollowed := true, recurses := true, apart := false }
def BindFirstSaid : Prop := bindFirstRow.holds Try.pinned (OpenSpec.ofChange bindFirstSpec)

/-- ITS FALSE NEIGHBOUR: 'it returns false'. Refute it at one input. -/
def bindFirstWrong : ChangeSpec := { name := "bindFirst", fn := fun _ => fun
  | [d1, d2, d3] => { results := [.lit (.bool false)], args := [d1, d2, d3] }
  | _ => none }
def BindFirstWrongFalsely : Prop := bindFirstRow.holds Try.pinned (OpenSpec.ofChange bindFirstWrong)

/-- 'shacklelaw17.BindVersions': WHATEVER THE INPUT: true; the input reads as it did. -/
def bindVersionsSpec : ChangeSpec := { name := "bindVersions", fn := fun _ => fun
  | [d1, d2] => { results := [.lit (.bool true)], args := [d1, d2] }
  | _ => none }
def bindVersionsRow : OpenClaim := { program := "ythopdoamajjojaa", sum := "5bf22a25aa957f295485bab32d460954aed5fcc667b0683700cbd3470f4ae216", func := "shackle/shacklelaw17.BindVersions", spec := "bindVersions", unfollowed := true, recurses := true, apart := false }
def BindVersionsSaid : Prop := bindVersionsRow.holds Try.pinned (OpenSpec.ofChange bindVersionsSpec)

/-- ITS FALSE NEIGHBOUR: 'it returns false'. Refute it at one input. -/
def bindVersionsWrong : ChangeSpec := { name := "bindVersions", fn := fun _ => fun
  | [d1, d2] => { results := [.lit (.bool false)], args := [d1, d2] }
  | _ => none }
def BindVersionsWrongFalsely : Prop := bindVersionsRow.holds Try.pinned (OpenSpec.ofChange bindVersionsWrong)

/- THE SECOND FORM. 'bulk': how many values and letters a reading holds, each counted each time it is reached (what is shared counts as often as it is met; a slice's spare places count too). A statement '..UptoSaid' is the law's where the arguments, and the package variables that the reading takes, are together of bulk at most 1048576: NARROWER than '..Said'. Prove '..Said' where nothing that the law and all that it calls make is longer than what came in: it says more and counts as full. Else prove '..UptoSaid'. A law counts once. -/
mutual
def uptoBulk {H : Type} : DataW H → Nat
  | .lit (.string bytes) => bytes.length + 1
  | .lit _ => 1
  | .nil => 1
  | .ptr d => uptoBulk d + 1
  | .slice elems spare => uptoBulkAll elems + uptoBulkAll spare + 1
  | .agg parts => uptoBulkAll parts + 1
  | .iface _ d => uptoBulk d + 1
  | .map entries => uptoBulkEntries entries + 1
  | .held _ => 1
def uptoBulkAll {H : Type} : List (DataW H) → Nat
  | [] => 0
  | d :: r => uptoBulk d + uptoBulkAll r
def uptoBulkEntries {H : Type} : List (Lit × DataW H) → Nat
  | [] => 0
  | x :: r => uptoBulkEntry x + uptoBulkEntries r
def uptoBulkEntry {H : Type} : Lit × DataW H → Nat
  | (.string bytes, d) => bytes.length + uptoBulk d + 1
  | (_, d) => uptoBulk d + 1
 end
def uptoSmall : (H : Type) → List (DataW H) → Bool := fun _ ds => decide (uptoBulkAll ds ≤ 1048576)
def OpenSpec.upto (s : _root_.Go.ChangeSpec) : _root_.Go.OpenSpec := { _root_.Go.OpenSpec.ofChange s with cond := some uptoSmall }

/-- 'shacklelaw07.HashFinds', WHERE WHAT IT READS IS OF BULK AT MOST 1048576: true; the input reads as it did. -/
def hashFindsUptoRow : OpenClaim := { program := "ythopdoamajjojaa", sum := "5bf22a25aa957f295485bab32d460954aed5fcc667b0683700cbd3470f4ae216", func := "shackle/shacklelaw07.HashFinds", spec := "hashFinds", apart := false, narrowed := true }
def HashFindsUptoSaid : Prop := hashFindsUptoRow.holds Try.pinned (OpenSpec.upto hashFindsSpec)

/-- 'shacklelaw07.HashBoth', WHERE WHAT IT READS IS OF BULK AT MOST 1048576: true; the input reads as it did. -/
def hashBothUptoRow : OpenClaim := { program := "ythopdoamajjojaa", sum := "5bf22a25aa957f295485bab32d460954aed5fcc667b0683700cbd3470f4ae216", func := "shackle/shacklelaw07.HashBoth", spec := "hashBoth", apart := false, narrowed := true }
def HashBothUptoSaid : Prop := hashBothUptoRow.holds Try.pinned (OpenSpec.upto hashBothSpec)

/-- 'shacklelaw08.VersReads', WHERE WHAT IT READS IS OF BULK AT MOST 1048576: true; the input reads as it did. -/
def versReadsUptoRow : OpenClaim := { program := "ythopdoamajjojaa", sum := "5bf22a25aa957f295485bab32d460954aed5fcc667b0683700cbd3470f4ae216", func := "shackle/shacklelaw08.VersReads", spec := "versReads", inPlace := ["internal/bytealg.IndexByte"], apart := false, narrowed := true }
def VersReadsUptoSaid : Prop := versReadsUptoRow.holds Try.pinned (OpenSpec.upto versReadsSpec)

/-- 'shacklelaw08.VersOnce', WHERE WHAT IT READS IS OF BULK AT MOST 1048576: true; the input reads as it did. -/
def versOnceUptoRow : OpenClaim := { program := "ythopdoamajjojaa", sum := "5bf22a25aa957f295485bab32d460954aed5fcc667b0683700cbd3470f4ae216", func := "shackle/shacklelaw08.VersOnce", spec := "versOnce", inPlace := ["internal/bytealg.IndexByte"], apart := false, narrowed := true }
def VersOnceUptoSaid : Prop := versOnceUptoRow.holds Try.pinned (OpenSpec.upto versOnceSpec)

/-- 'shacklelaw08.VersMade', WHERE WHAT IT READS IS OF BULK AT MOST 1048576: true; the input reads as it did. -/
def versMadeUptoRow : OpenClaim := { program := "ythopdoamajjojaa", sum := "5bf22a25aa957f295485bab32d460954aed5fcc667b0683700cbd3470f4ae216", func := "shackle/shacklelaw08.VersMade", spec := "versMade", inPlace := ["internal/bytealg.IndexByte"], apart := false, narrowed := true }
def VersMadeUptoSaid : Prop := versMadeUptoRow.holds Try.pinned (OpenSpec.upto versMadeSpec)

/-- 'shacklelaw17.BindFirst', WHERE WHAT IT READS IS OF BULK AT MOST 1048576: true; the input reads as it did. -/
def bindFirstUptoRow : OpenClaim := { program := "ythopdoamajjojaa", sum := "5bf22a25aa957f295485bab32d460954aed5fcc667b0683700cbd3470f4ae216", func := "shackle/shacklelaw17.BindFirst", spec := "bindFirst", unfollowed := true, recurses := true, apart := false, narrowed := true }
def BindFirstUptoSaid : Prop := bindFirstUptoRow.holds Try.pinned (OpenSpec.upto bindFirstSpec)

/-- 'shacklelaw17.BindVersions', WHERE WHAT IT READS IS OF BULK AT MOST 1048576: true; the input reads as it did. -/
def bindVersionsUptoRow : OpenClaim := { program := "ythopdoamajjojaa", sum := "5bf22a25aa957f295485bab32d460954aed5fcc667b0683700cbd3470f4ae216", func := "shackle/shacklelaw17.BindVersions", spec := "bindVersions", unfollowed := true, recurses := true, apart := false, narrowed := true }
def BindVersionsUptoSaid : Prop := bindVersionsUptoRow.holds Try.pinned (OpenSpec.upto bindVersionsSpec)

end Rows
end Go.Proofs.Ythopdoamajjojaa
