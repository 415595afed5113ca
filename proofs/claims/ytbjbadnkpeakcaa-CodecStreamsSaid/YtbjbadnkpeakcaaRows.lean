/-
  No cell of these rows narrows 'for every input' (looked for: loops, veiled, ifaces, maps, wideKeys, modest, calm, conditions, laid).
  DERIVED. THE GIVEN ROWS OF THIS SEAT. 6 by the template 'for every input the law returns true; each argument reads behind the call as it read before'; 0 by the template 'total and deterministic' (their statements: YtbjbadnkpeakcaaTotals.lean).
  GIVEN WITH THE SEED: the statements are not yours to turn. If you find one false, say at which input.
  Laid BY PROGRAM, IN A SANDBOX (cutbox-rows.mjs): the forced cells as the released guide's own fill.sh prints them over the translation ea2748f6f28fba75… (all of the seat's roots in one cut). By AI agents, Wed Nov 11 2026. No macro, syntax, notation, axiom, sorry.
-/
import Derived.Test.YtbjbadnkpeakcaaChecked
import GoSem.Claim
import GoSem.ClaimJoined
import GoSem.ClaimMapViews
import Derived.JoinedTies
import Derived.KernelRfl
namespace Go.Proofs.Ytbjbadnkpeakcaa
/- THE CELL 'sum', in the pinned program and in every row, IS THE sha256 OF THE DUMP (.gsa) THAT YtbjbadnkpeakcaaProg.lean LOADS. Nothing in Lean hashes anything: it is a label: what it is worth is what the hold of that sum in a sandbox is worth. -/
noncomputable def Try.pinned : Pinned := { name := "ytbjbadnkpeakcaa", sum := "ea2748f6f28fba75ca034e09a6544425878a1b2b60562691634900750b8206a3", checked := Try.checked }
namespace Rows
def none {H : Type} : Left H := { results := [], args := [] }

/-- 'bazaarlaw17.CodecLong': WHATEVER THE INPUT: true; the input reads as it did. -/
def codecLongSpec : ChangeSpec := { name := "codecLong", fn := fun _ => fun
  | [d] => { results := [.lit (.bool true)], args := [d] }
  | _ => none }
def codecLongRow : OpenClaim := { program := "ytbjbadnkpeakcaa", sum := "ea2748f6f28fba75ca034e09a6544425878a1b2b60562691634900750b8206a3", func := "bazaar/bazaarlaw17.CodecLong", spec := "codecLong", inPlace := ["internal/abi.NoEscape"], unfollowed := true, recurses := true, apart := false }
def CodecLongSaid : Prop := codecLongRow.holds Try.pinned (OpenSpec.ofChange codecLongSpec)

/-- ITS FALSE NEIGHBOUR: 'it returns false'. Refute it at one input. -/
def codecLongWrong : ChangeSpec := { name := "codecLong", fn := fun _ => fun
  | [d] => { results := [.lit (.bool false)], args := [d] }
  | _ => none }
def CodecLongWrongFalsely : Prop := codecLongRow.holds Try.pinned (OpenSpec.ofChange codecLongWrong)

/-- 'bazaarlaw17.CodecSizes': WHATEVER THE INPUT: true; the input reads as it did. -/
def codecSizesSpec : ChangeSpec := { name := "codecSizes", fn := fun _ => fun
  | [d] => { results := [.lit (.bool true)], args := [d] }
  | _ => none }
def codecSizesRow : OpenClaim := { program := "ytbjbadnkpeakcaa", sum := "ea2748f6f28fba75ca034e09a6544425878a1b2b60562691634900750b8206a3", func := "bazaar/bazaarlaw17.CodecSizes", spec := "codecSizes", inPlace := ["internal/abi.NoEscape"], unfollowed := true, recurses := true, apart := false }
def CodecSizesSaid : Prop := codecSizesRow.holds Try.pinned (OpenSpec.ofChange codecSizesSpec)

/-- ITS FALSE NEIGHBOUR: 'it returns false'. Refute it at one input. -/
def codecSizesWrong : ChangeSpec := { name := "codecSizes", fn := fun _ => fun
  | [d] => { results := [.lit (.bool false)], args := [d] }
  | _ => none }
def CodecSizesWrongFalsely : Prop := codecSizesRow.holds Try.pinned (OpenSpec.ofChange codecSizesWrong)

/-- 'bazaarlaw17.CodecMakes': WHATEVER THE INPUT: true; the input reads as it did. -/
def codecMakesSpec : ChangeSpec := { name := "codecMakes", fn := fun _ => fun
  | [d1, d2, d3] => { results := [.lit (.bool true)], args := [d1, d2, d3] }
  | _ => none }
def codecMakesRow : OpenClaim := { program := "ytbjbadnkpeakcaa", sum := "ea2748f6f28fba75ca034e09a6544425878a1b2b60562691634900750b8206a3", func := "bazaar/bazaarlaw17.CodecMakes", spec := "codecMakes", inPlace := ["internal/abi.NoEscape"], unfollowed := true, recurses := true, apart := false }
def CodecMakesSaid : Prop := codecMakesRow.holds Try.pinned (OpenSpec.ofChange codecMakesSpec)

/-- ITS FALSE NEIGHBOUR: 'it returns false'. Refute it at one input. -/
def codecMakesWrong : ChangeSpec := { name := "codecMakes", fn := fun _ => fun
  | [d1, d2, d3] => { results := [.lit (.bool false)], args := [d1, d2, d3] }
  | _ => none }
def CodecMakesWrongFalsely : Prop := codecMakesRow.holds Try.pinned (OpenSpec.ofChange codecMakesWrong)

/-- 'bazaarlaw17.CodecBack': WHATEVER THE INPUT: true; the input reads as it did. -/
def codecBackSpec : ChangeSpec := { name := "codecBack", fn := fun _ => fun
  | [d1, d2, d3] => { results := [.lit (.bool true)], args := [d1, d2, d3] }
  | _ => none }
def codecBackRow : OpenClaim := { program := "ytbjbadnkpeakcaa", sum := "ea2748f6f28fba75ca034e09a6544425878a1b2b60562691634900750b8206a3", func := "bazaar/bazaarlaw17.CodecBack", spec := "codecBack", inPlace := ["internal/abi.NoEscape"], unfollowed := true, recurses := true, apart := false }
def CodecBackSaid : Prop := codecBackRow.holds Try.pinned (OpenSpec.ofChange codecBackSpec)

/-- ITS FALSE NEIGHBOUR: 'it returns false'. Refute it at one input. -/
def codecBackWrong : ChangeSpec := { name := "codecBack", fn := fun _ => fun
  | [d1, d2, d3] => { results := [.lit (.bool false)], args := [d1, d2, d3] }
  | _ => none }
def CodecBackWrongFalsely : Prop := codecBackRow.holds Try.pinned (OpenSpec.ofChange codecBackWrong)

/-- 'bazaarlaw17.CodecSplits': WHATEVER THE INPUT: true; the input reads as it did. -/
def codecSplitsSpec : ChangeSpec := { name := "codecSplits", fn := fun _ => fun
  | [d1, d2] => { results := [.lit (.bool true)], args := [d1, d2] }
  | _ => none }
def codecSplitsRow : OpenClaim := { program := "ytbjbadnkpeakcaa", sum := "ea2748f6f28fba75ca034e09a6544425878a1b2b60562691634900750b8206a3", func := "bazaar/bazaarlaw17.CodecSplits", spec := "codecSplits", inPlace := ["internal/abi.NoEscape"], unfollowed := true, recurses := true, apart := false }
def CodecSplitsSaid : Prop := codecSplitsRow.holds Try.pinned (OpenSpec.ofChange codecSplitsSpec)

/-- ITS FALSE NEIGHBOUR: 'it returns false'. Refute it at one input. -/
def codecSplitsWrong : ChangeSpec := { name := "codecSplits", fn := fun _ => fun
  | [d1, d2] => { results := [.lit (.bool false)], args := [d1, d2] }
  | _ => none }
def CodecSplitsWrongFalsely : Prop := codecSplitsRow.holds Try.pinned (OpenSpec.ofChange codecSplitsWrong)

/-- 'bazaarlaw17.CodecStreams': WHATEVER THE INPUT: true; the input reads as it did. -/
def codecStreamsSpec : ChangeSpec := { name := "codecStreams", fn := fun _ => fun
  | [d1, d2] => { results := [.lit (.bool true)], args := [d1, d2] }
  | _ => none }
def codecStreamsRow : OpenClaim := { program := "ytbjbadnkpeakcaa", sum := "ea2748f6f28fba75ca034e09a6544425878a1b2b60562691634900750b8206a3", func := "bazaar/bazaarlaw17.CodecStreams", spec := "codecStreams", inPlace := ["internal/abi.NoEscape"], unfollowed := true, recurses := true, apart := false }
def CodecStreamsSaid : Prop := codecStreamsRow.holds Try.pinned (OpenSpec.ofChange codecStreamsSpec)

/-- ITS FALSE NEIGHBOUR: 'it returns false'. Refute it at one input. -/
def codecStreamsWrong : ChangeSpec := { name := "codecStreams", fn := fun _ => fun
  | [d1, d2] => { results := [.lit (.bool false)], args := [d1, d2] }
  | _ => none }
def CodecStreamsWrongFalsely : Prop := codecStreamsRow.holds Try.pinned (OpenSpec.ofChange codecStreamsWrong)

/- THE SECOND FORM. 'bulk': how many values and letters a reading holds, each counted each time it is reached (what is shared counts as often as it is met; a slice's spare places count too). A statement '..UptoSaid' is the law's where the arguments, and the package variables that the reading takes, are together of bulk at most 1048576: NARROWER than '..Said'. Prove '..Said' where nothing that the law and all that it calls make is longer than what came in: it says more and counts as full. Else prove '..UptoSaid'. A law counts once. -/
mutual
def uptoBulk {H : Type} : DataW H → Nat
  | .lit (.string bytes) => bytes.length + 1
  | .lit _ => 1
  | .nil => 1
  | .ptr d => uptoBulk d + 1
  | .slice elems spare => uptoBulkAll elems + uptoBulkAll spare + 1
  | .agg parts => uptoBulkAll parts + 1
  | .iface _ d => uptoBulk d + 1
  | .map entries => uptoBulkEntries entries + 1
  | .held _ => 1
def uptoBulkAll {H : Type} : List (DataW H) → Nat
  | [] => 0
  | d :: r => uptoBulk d + uptoBulkAll r
def uptoBulkEntries {H : Type} : List (Lit × DataW H) → Nat
  | [] => 0
  | x :: r => uptoBulkEntry x + uptoBulkEntries r
def uptoBulkEntry {H : Type} : Lit × DataW H → Nat
  | (.string bytes, d) => bytes.length + uptoBulk d + 1
  | (_, d) => uptoBulk d + 1
 end
def uptoSmall : (H : Type) → List (DataW H) → Bool := fun _ ds => decide (uptoBulkAll ds ≤ 1048576)
def OpenSpec.upto (s : _root_.Go.ChangeSpec) : _root_.Go.OpenSpec := { _root_.Go.OpenSpec.ofChange s with cond := some uptoSmall }

/-- 'bazaarlaw17.CodecLong', WHERE WHAT IT READS IS OF BULK AT MOST 1048576: true; the input reads as it did. -/
def codecLongUptoRow : OpenClaim := { program := "ytbjbadnkpeakcaa", sum := "ea2748f6f28fba75ca034e09a6544425878a1b2b60562691634900750b8206a3", func := "bazaar/bazaarlaw17.CodecLong", spec := "codecLong", inPlace := ["internal/abi.NoEscape"], unfollowed := true, recurses := true, apart := false, narrowed := true }
def CodecLongUptoSaid : Prop := codecLongUptoRow.holds Try.pinned (OpenSpec.upto codecLongSpec)

/-- 'bazaarlaw17.CodecSizes', WHERE WHAT IT READS IS OF BULK AT MOST 1048576: true; the input reads as it did. -/
def codecSizesUptoRow : OpenClaim := { program := "ytbjbadnkpeakcaa", sum := "ea2748f6f28fba75ca034e09a6544425878a1b2b60562691634900750b8206a3", func := "bazaar/bazaarlaw17.CodecSizes", spec := "codecSizes", inPlace := ["internal/abi.NoEscape"], unfollowed := true, recurses := true, apart := false, narrowed := true }
def CodecSizesUptoSaid : Prop := codecSizesUptoRow.holds Try.pinned (OpenSpec.upto codecSizesSpec)

/-- 'bazaarlaw17.CodecMakes', WHERE WHAT IT READS IS OF BULK AT MOST 1048576: true; the input reads as it did. -/
def codecMakesUptoRow : OpenClaim := { program := "ytbjbadnkpeakcaa", sum := "ea2748f6f28fba75ca034e09a6544425878a1b2b60562691634900750b8206a3", func := "bazaar/bazaarlaw17.CodecMakes", spec := "codecMakes", inPlace := ["internal/abi.NoEscape"], unfollowed := true, recurses := true, apart := false, narrowed := true }
def CodecMakesUptoSaid : Prop := codecMakesUptoRow.holds Try.pinned (OpenSpec.upto codecMakesSpec)

/-- 'bazaarlaw17.CodecBack', WHERE WHAT IT READS IS OF BULK AT MOST 1048576: true; the input reads as it did. -/
def codecBackUptoRow : OpenClaim := { program := "ytbjbadnkpeakcaa", sum := "ea2748f6f28fba75ca034e09a6544425878a1b2b60562691634900750b8206a3", func := "bazaar/bazaarlaw17.CodecBack", spec := "codecBack", inPlace := ["internal/abi.NoEscape"], unfollowed := true, recurses := true, apart := false, narrowed := true }
def CodecBackUptoSaid : Prop := codecBackUptoRow.holds Try.pinned (OpenSpec.upto codecBackSpec)

/-- 'bazaarlaw17.CodecSplits', WHERE WHAT IT READS IS OF BULK AT MOST 1048576: true; the input reads as it did. -/
def codecSplitsUptoRow : OpenClaim := { program := "ytbjbadnkpeakcaa", sum := "ea2748f6f28fba75ca034e09a6544425878a1b2b60562691634900750b8206a3", func := "bazaar/bazaarlaw17.CodecSplits", spec := "codecSplits", inPlace := ["internal/abi.NoEscape"], unfollowed := true, recurses := true, apart := false, narrowed := true }
def CodecSplitsUptoSaid : Prop := codecSplitsUptoRow.holds Try.pinned (OpenSpec.upto codecSplitsSpec)

/-- 'bazaarlaw17.CodecStreams', WHERE WHAT IT READS IS OF BULK AT MOST 1048576: true; the input reads as it did. -/
def codecStreamsUptoRow : OpenClaim := { program := "ytbjbadnkpeakcaa", sum := "ea2748f6f28fba75ca034e09a6544425878a1b2b60562691634900750b8206a3", func := "bazaar/bazaarlaw17.CodecStreams", spec := "codecStreams", inPlace := ["internal/abi.NoEscape"], unfollowed := true, recurses := true, apart := false, narrowed := true }
def CodecStreamsUptoSaid : Prop := codecStreamsUptoRow.holds Try.pinned (OpenSpec.upto codecStreamsSpec)

end Rows
end Go.Proofs.Ytbjbadnkpeakcaa
