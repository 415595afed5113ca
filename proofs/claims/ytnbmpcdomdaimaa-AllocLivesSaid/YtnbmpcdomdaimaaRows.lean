/-
  No cell of these rows narrows 'for every input' (looked for: loops, veiled, ifaces, maps, wideKeys, modest, calm, conditions, laid).
  DERIVED. THE GIVEN ROWS OF THIS SEAT. 8 by the template 'for every input the law returns true; each argument reads behind the call as it read before'; 0 by the template 'total and deterministic' (their statements: YtnbmpcdomdaimaaTotals.lean).
  GIVEN WITH THE SEED: the statements are not yours to turn. If you find one false, say at which input.
  Laid BY PROGRAM, IN A SANDBOX (cutbox-rows.mjs): the forced cells as the released guide's own fill.sh prints them over the translation 7e35ed7054409dcb… (all of the seat's roots in one cut). By AI agents, Wed Nov 11 2026. No macro, syntax, notation, axiom, sorry.
-/
import Derived.Test.YtnbmpcdomdaimaaChecked
import GoSem.Claim
import GoSem.ClaimJoined
import GoSem.ClaimMapViews
import Derived.JoinedTies
import Derived.KernelRfl
namespace Go.Proofs.Ytnbmpcdomdaimaa
/- THE CELL 'sum', in the pinned program and in every row, IS THE sha256 OF THE DUMP (.gsa) THAT YtnbmpcdomdaimaaProg.lean LOADS. Nothing in Lean hashes anything: it is a label: what it is worth is what the hold of that sum in a sandbox is worth. -/
noncomputable def Try.pinned : Pinned := { name := "ytnbmpcdomdaimaa", sum := "7e35ed7054409dcb39bfdb2808ced56e5694a53973d62904112cdc9de0b0acf7", checked := Try.checked }
namespace Rows
def none {H : Type} : Left H := { results := [], args := [] }

/-- 'bazaarlaw05.AllocTakes': WHATEVER THE INPUT: true; the input reads as it did. -/
def allocTakesSpec : ChangeSpec := { name := "allocTakes", fn := fun _ => fun
  | [d1, d2, d3, d4] => { results := [.lit (.bool true)], args := [d1, d2, d3, d4] }
  | _ => none }
def allocTakesRow : OpenClaim := { program := "ytnbmpcdomdaimaa", sum := "7e35ed7054409dcb39bfdb2808ced56e5694a53973d62904112cdc9de0b0acf7", func := "bazaar/bazaarlaw05.AllocTakes", spec := "allocTakes", inPlace := ["slices.overlaps[bazaar/api.Spare]"], unfollowed := true, recurses := true, apart := false }
def AllocTakesSaid : Prop := allocTakesRow.holds Try.pinned (OpenSpec.ofChange allocTakesSpec)

/-- ITS FALSE NEIGHBOUR: 'it returns false'. Refute it at one input. -/
def allocTakesWrong : ChangeSpec := { name := "allocTakes", fn := fun _ => fun
  | [d1, d2, d3, d4] => { results := [.lit (.bool false)], args := [d1, d2, d3, d4] }
  | _ => none }
def AllocTakesWrongFalsely : Prop := allocTakesRow.holds Try.pinned (OpenSpec.ofChange allocTakesWrong)

/-- 'bazaarlaw05.AllocLives': WHATEVER THE INPUT: true; the input reads as it did. -/
def allocLivesSpec : ChangeSpec := { name := "allocLives", fn := fun _ => fun
  | [d1, d2] => { results := [.lit (.bool true)], args := [d1, d2] }
  | _ => none }
def allocLivesRow : OpenClaim := { program := "ytnbmpcdomdaimaa", sum := "7e35ed7054409dcb39bfdb2808ced56e5694a53973d62904112cdc9de0b0acf7", func := "bazaar/bazaarlaw05.AllocLives", spec := "allocLives", inPlace := ["slices.overlaps[bazaar/api.Spare]"], unfollowed := true, recurses := true, apart := false }
def AllocLivesSaid : Prop := allocLivesRow.holds Try.pinned (OpenSpec.ofChange allocLivesSpec)

/-- ITS FALSE NEIGHBOUR: 'it returns false'. Refute it at one input. -/
def allocLivesWrong : ChangeSpec := { name := "allocLives", fn := fun _ => fun
  | [d1, d2] => { results := [.lit (.bool false)], args := [d1, d2] }
  | _ => none }
def AllocLivesWrongFalsely : Prop := allocLivesRow.holds Try.pinned (OpenSpec.ofChange allocLivesWrong)

/-- 'bazaarlaw05.AllocGated': WHATEVER THE INPUT: true; the input reads as it did. -/
def allocGatedSpec : ChangeSpec := { name := "allocGated", fn := fun _ => fun
  | [d1, d2] => { results := [.lit (.bool true)], args := [d1, d2] }
  | _ => none }
def allocGatedRow : OpenClaim := { program := "ytnbmpcdomdaimaa", sum := "7e35ed7054409dcb39bfdb2808ced56e5694a53973d62904112cdc9de0b0acf7", func := "bazaar/bazaarlaw05.AllocGated", spec := "allocGated", inPlace := ["slices.overlaps[bazaar/api.Spare]"], unfollowed := true, recurses := true, apart := false }
def AllocGatedSaid : Prop := allocGatedRow.holds Try.pinned (OpenSpec.ofChange allocGatedSpec)

/-- ITS FALSE NEIGHBOUR: 'it returns false'. Refute it at one input. -/
def allocGatedWrong : ChangeSpec := { name := "allocGated", fn := fun _ => fun
  | [d1, d2] => { results := [.lit (.bool false)], args := [d1, d2] }
  | _ => none }
def AllocGatedWrongFalsely : Prop := allocGatedRow.holds Try.pinned (OpenSpec.ofChange allocGatedWrong)

/-- 'bazaarlaw05.AllocOwn': WHATEVER THE INPUT: true; the input reads as it did. -/
def allocOwnSpec : ChangeSpec := { name := "allocOwn", fn := fun _ => fun
  | [d1, d2, d3, d4] => { results := [.lit (.bool true)], args := [d1, d2, d3, d4] }
  | _ => none }
def allocOwnRow : OpenClaim := { program := "ytnbmpcdomdaimaa", sum := "7e35ed7054409dcb39bfdb2808ced56e5694a53973d62904112cdc9de0b0acf7", func := "bazaar/bazaarlaw05.AllocOwn", spec := "allocOwn", inPlace := ["slices.overlaps[bazaar/api.Spare]"], unfollowed := true, recurses := true, apart := false }
def AllocOwnSaid : Prop := allocOwnRow.holds Try.pinned (OpenSpec.ofChange allocOwnSpec)

/-- ITS FALSE NEIGHBOUR: 'it returns false'. Refute it at one input. -/
def allocOwnWrong : ChangeSpec := { name := "allocOwn", fn := fun _ => fun
  | [d1, d2, d3, d4] => { results := [.lit (.bool false)], args := [d1, d2, d3, d4] }
  | _ => none }
def AllocOwnWrongFalsely : Prop := allocOwnRow.holds Try.pinned (OpenSpec.ofChange allocOwnWrong)

/-- 'bazaarlaw05.AllocFresh': WHATEVER THE INPUT: true; the input reads as it did. -/
def allocFreshSpec : ChangeSpec := { name := "allocFresh", fn := fun _ => fun
  | [d] => { results := [.lit (.bool true)], args := [d] }
  | _ => none }
def allocFreshRow : OpenClaim := { program := "ytnbmpcdomdaimaa", sum := "7e35ed7054409dcb39bfdb2808ced56e5694a53973d62904112cdc9de0b0acf7", func := "bazaar/bazaarlaw05.AllocFresh", spec := "allocFresh", inPlace := ["slices.overlaps[bazaar/api.Spare]"], unfollowed := true, recurses := true, apart := false }
def AllocFreshSaid : Prop := allocFreshRow.holds Try.pinned (OpenSpec.ofChange allocFreshSpec)

/-- ITS FALSE NEIGHBOUR: 'it returns false'. Refute it at one input. -/
def allocFreshWrong : ChangeSpec := { name := "allocFresh", fn := fun _ => fun
  | [d] => { results := [.lit (.bool false)], args := [d] }
  | _ => none }
def AllocFreshWrongFalsely : Prop := allocFreshRow.holds Try.pinned (OpenSpec.ofChange allocFreshWrong)

/-- 'bazaarlaw05.AllocGiven': WHATEVER THE INPUT: true; the input reads as it did. -/
def allocGivenSpec : ChangeSpec := { name := "allocGiven", fn := fun _ => fun
  | [d1, d2, d3] => { results := [.lit (.bool true)], args := [d1, d2, d3] }
  | _ => none }
def allocGivenRow : OpenClaim := { program := "ytnbmpcdomdaimaa", sum := "7e35ed7054409dcb39bfdb2808ced56e5694a53973d62904112cdc9de0b0acf7", func := "bazaar/bazaarlaw05.AllocGiven", spec := "allocGiven", inPlace := ["slices.overlaps[bazaar/api.Spare]"], unfollowed := true, recurses := true, apart := false }
def AllocGivenSaid : Prop := allocGivenRow.holds Try.pinned (OpenSpec.ofChange allocGivenSpec)

/-- ITS FALSE NEIGHBOUR: 'it returns false'. Refute it at one input. -/
def allocGivenWrong : ChangeSpec := { name := "allocGiven", fn := fun _ => fun
  | [d1, d2, d3] => { results := [.lit (.bool false)], args := [d1, d2, d3] }
  | _ => none }
def AllocGivenWrongFalsely : Prop := allocGivenRow.holds Try.pinned (OpenSpec.ofChange allocGivenWrong)

/-- 'bazaarlaw05.AllocChunks': WHATEVER THE INPUT: true; the input reads as it did. -/
def allocChunksSpec : ChangeSpec := { name := "allocChunks", fn := fun _ => fun
  | [d1, d2, d3] => { results := [.lit (.bool true)], args := [d1, d2, d3] }
  | _ => none }
def allocChunksRow : OpenClaim := { program := "ytnbmpcdomdaimaa", sum := "7e35ed7054409dcb39bfdb2808ced56e5694a53973d62904112cdc9de0b0acf7", func := "bazaar/bazaarlaw05.AllocChunks", spec := "allocChunks", inPlace := ["slices.overlaps[bazaar/api.Spare]"], unfollowed := true, recurses := true, apart := false }
def AllocChunksSaid : Prop := allocChunksRow.holds Try.pinned (OpenSpec.ofChange allocChunksSpec)

/-- ITS FALSE NEIGHBOUR: 'it returns false'. Refute it at one input. -/
def allocChunksWrong : ChangeSpec := { name := "allocChunks", fn := fun _ => fun
  | [d1, d2, d3] => { results := [.lit (.bool false)], args := [d1, d2, d3] }
  | _ => none }
def AllocChunksWrongFalsely : Prop := allocChunksRow.holds Try.pinned (OpenSpec.ofChange allocChunksWrong)

/-- 'bazaarlaw05.AllocBack': WHATEVER THE INPUT: true; the input reads as it did. -/
def allocBackSpec : ChangeSpec := { name := "allocBack", fn := fun _ => fun
  | [d1, d2, d3] => { results := [.lit (.bool true)], args := [d1, d2, d3] }
  | _ => none }
def allocBackRow : OpenClaim := { program := "ytnbmpcdomdaimaa", sum := "7e35ed7054409dcb39bfdb2808ced56e5694a53973d62904112cdc9de0b0acf7", func := "bazaar/bazaarlaw05.AllocBack", spec := "allocBack", inPlace := ["slices.overlaps[bazaar/api.Spare]"], unfollowed := true, recurses := true, apart := false }
def AllocBackSaid : Prop := allocBackRow.holds Try.pinned (OpenSpec.ofChange allocBackSpec)

/-- ITS FALSE NEIGHBOUR: 'it returns false'. Refute it at one input. -/
def allocBackWrong : ChangeSpec := { name := "allocBack", fn := fun _ => fun
  | [d1, d2, d3] => { results := [.lit (.bool false)], args := [d1, d2, d3] }
  | _ => none }
def AllocBackWrongFalsely : Prop := allocBackRow.holds Try.pinned (OpenSpec.ofChange allocBackWrong)

/- THE SECOND FORM. 'bulk': how many values and letters a reading holds, each counted each time it is reached (what is shared counts as often as it is met; a slice's spare places count too). A statement '..UptoSaid' is the law's where the arguments, and the package variables that the reading takes, are together of bulk at most 1048576: NARROWER than '..Said'. Prove '..Said' where nothing that the law and all that it calls make is longer than what came in: it says more and counts as full. Else prove '..UptoSaid'. A law counts once. -/
mutual
def uptoBulk {H : Type} : DataW H → Nat
  | .lit (.string bytes) => bytes.length + 1
  | .lit _ => 1
  | .nil => 1
  | .ptr d => uptoBulk d + 1
  | .slice elems spare => uptoBulkAll elems + uptoBulkAll spare + 1
  | .agg parts => uptoBulkAll parts + 1
  | .iface _ d => uptoBulk d + 1
  | .map entries => uptoBulkEntries entries + 1
  | .held _ => 1
def uptoBulkAll {H : Type} : List (DataW H) → Nat
  | [] => 0
  | d :: r => uptoBulk d + uptoBulkAll r
def uptoBulkEntries {H : Type} : List (Lit × DataW H) → Nat
  | [] => 0
  | x :: r => uptoBulkEntry x + uptoBulkEntries r
def uptoBulkEntry {H : Type} : Lit × DataW H → Nat
  | (.string bytes, d) => bytes.length + uptoBulk d + 1
  | (_, d) => uptoBulk d + 1
 end
def uptoSmall : (H : Type) → List (DataW H) → Bool := fun _ ds => decide (uptoBulkAll ds ≤ 1048576)
def OpenSpec.upto (s : _root_.Go.ChangeSpec) : _root_.Go.OpenSpec := { _root_.Go.OpenSpec.ofChange s with cond := some uptoSmall }

/-- 'bazaarlaw05.AllocTakes', WHERE WHAT IT READS IS OF BULK AT MOST 1048576: true; the input reads as it did. -/
def allocTakesUptoRow : OpenClaim := { program := "ytnbmpcdomdaimaa", sum := "7e35ed7054409dcb39bfdb2808ced56e5694a53973d62904112cdc9de0b0acf7", func := "bazaar/bazaarlaw05.AllocTakes", spec := "allocTakes", inPlace := ["slices.overlaps[bazaar/api.Spare]"], unfollowed := true, recurses := true, apart := false, narrowed := true }
def AllocTakesUptoSaid : Prop := allocTakesUptoRow.holds Try.pinned (OpenSpec.upto allocTakesSpec)

/-- 'bazaarlaw05.AllocLives', WHERE WHAT IT READS IS OF BULK AT MOST 1048576: true; the input reads as it did. -/
def allocLivesUptoRow : OpenClaim := { program := "ytnbmpcdomdaimaa", sum := "7e35ed7054409dcb39bfdb2808ced56e5694a53973d62904112cdc9de0b0acf7", func := "bazaar/bazaarlaw05.AllocLives", spec := "allocLives", inPlace := ["slices.overlaps[bazaar/api.Spare]"], unfollowed := true, recurses := true, apart := false, narrowed := true }
def AllocLivesUptoSaid : Prop := allocLivesUptoRow.holds Try.pinned (OpenSpec.upto allocLivesSpec)

/-- 'bazaarlaw05.AllocGated', WHERE WHAT IT READS IS OF BULK AT MOST 1048576: true; the input reads as it did. -/
def allocGatedUptoRow : OpenClaim := { program := "ytnbmpcdomdaimaa", sum := "7e35ed7054409dcb39bfdb2808ced56e5694a53973d62904112cdc9de0b0acf7", func := "bazaar/bazaarlaw05.AllocGated", spec := "allocGated", inPlace := ["slices.overlaps[bazaar/api.Spare]"], unfollowed := true, recurses := true, apart := false, narrowed := true }
def AllocGatedUptoSaid : Prop := allocGatedUptoRow.holds Try.pinned (OpenSpec.upto allocGatedSpec)

/-- 'bazaarlaw05.AllocOwn', WHERE WHAT IT READS IS OF BULK AT MOST 1048576: true; the input reads as it did. -/
def allocOwnUptoRow : OpenClaim := { program := "ytnbmpcdomdaimaa", sum := "7e35ed7054409dcb39bfdb2808ced56e5694a53973d62904112cdc9de0b0acf7", func := "bazaar/bazaarlaw05.AllocOwn", spec := "allocOwn", inPlace := ["slices.overlaps[bazaar/api.Spare]"], unfollowed := true, recurses := true, apart := false, narrowed := true }
def AllocOwnUptoSaid : Prop := allocOwnUptoRow.holds Try.pinned (OpenSpec.upto allocOwnSpec)

/-- 'bazaarlaw05.AllocFresh', WHERE WHAT IT READS IS OF BULK AT MOST 1048576: true; the input reads as it did. -/
def allocFreshUptoRow : OpenClaim := { program := "ytnbmpcdomdaimaa", sum := "7e35ed7054409dcb39bfdb2808ced56e5694a53973d62904112cdc9de0b0acf7", func := "bazaar/bazaarlaw05.AllocFresh", spec := "allocFresh", inPlace := ["slices.overlaps[bazaar/api.Spare]"], unfollowed := true, recurses := true, apart := false, narrowed := true }
def AllocFreshUptoSaid : Prop := allocFreshUptoRow.holds Try.pinned (OpenSpec.upto allocFreshSpec)

/-- 'bazaarlaw05.AllocGiven', WHERE WHAT IT READS IS OF BULK AT MOST 1048576: true; the input reads as it did. -/
def allocGivenUptoRow : OpenClaim := { program := "ytnbmpcdomdaimaa", sum := "7e35ed7054409dcb39bfdb2808ced56e5694a53973d62904112cdc9de0b0acf7", func := "bazaar/bazaarlaw05.AllocGiven", spec := "allocGiven", inPlace := ["slices.overlaps[bazaar/api.Spare]"], unfollowed := true, recurses := true, apart := false, narrowed := true }
def AllocGivenUptoSaid : Prop := allocGivenUptoRow.holds Try.pinned (OpenSpec.upto allocGivenSpec)

/-- 'bazaarlaw05.AllocChunks', WHERE WHAT IT READS IS OF BULK AT MOST 1048576: true; the input reads as it did. -/
def allocChunksUptoRow : OpenClaim := { program := "ytnbmpcdomdaimaa", sum := "7e35ed7054409dcb39bfdb2808ced56e5694a53973d62904112cdc9de0b0acf7", func := "bazaar/bazaarlaw05.AllocChunks", spec := "allocChunks", inPlace := ["slices.overlaps[bazaar/api.Spare]"], unfollowed := true, recurses := true, apart := false, narrowed := true }
def AllocChunksUptoSaid : Prop := allocChunksUptoRow.holds Try.pinned (OpenSpec.upto allocChunksSpec)

/-- 'bazaarlaw05.AllocBack', WHERE WHAT IT READS IS OF BULK AT MOST 1048576: true; the input reads as it did. -/
def allocBackUptoRow : OpenClaim := { program := "ytnbmpcdomdaimaa", sum := "7e35ed7054409dcb39bfdb2808ced56e5694a53973d62904112cdc9de0b0acf7", func := "bazaar/bazaarlaw05.AllocBack", spec := "allocBack", inPlace := ["slices.overlaps[bazaar/api.Spare]"], unfollowed := true, recurses := true, apart := false, narrowed := true }
def AllocBackUptoSaid : Prop := allocBackUptoRow.holds Try.pinned (OpenSpec.upto allocBackSpec)

end Rows
end Go.Proofs.Ytnbmpcdomdaimaa
