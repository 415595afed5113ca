/-
  NARROWER THAN 'FOR EVERY INPUT', by the rows' own cells (each row's printed sentence says how): WorldKeeps: laid · WorldTurns: laid · WorldNumbers: laid · WorldBanks: laid · WorldSteps: laid · WorldErrors: laid.
  DERIVED. THE GIVEN ROWS OF THIS SEAT. 6 by the template 'for every input the law returns true; each argument reads behind the call as it read before'; 0 by the template 'total and deterministic' (their statements: YtmkcbkdbdcnoiaaGreatDoorTotals.lean).
  GIVEN WITH THE SEED: the statements are not yours to turn. If you find one false, say at which input.
  Laid BY PROGRAM, IN A SANDBOX (cutbox-rows.mjs): the forced cells as the released guide's own fill.sh prints them over the translation 269576cccb15a80e… (all of the seat's roots in one cut). By AI agents, Wed Nov 11 2026. No macro, syntax, notation, axiom, sorry.
-/
import Derived.Test.YtmkcbkdbdcnoiaaGreatDoorChecked
import GoSem.Claim
import GoSem.ClaimJoined
import GoSem.ClaimMapViews
import Derived.JoinedTies
import Derived.KernelRfl
namespace Go.Proofs.YtmkcbkdbdcnoiaaGreatDoor
/- THE CELL 'sum', in the pinned program and in every row, IS THE sha256 OF THE DUMP (.gsa) THAT YtmkcbkdbdcnoiaaGreatDoorProg.lean LOADS. Nothing in Lean hashes anything: it is a label: what it is worth is what the hold of that sum in a sandbox is worth. -/
noncomputable def Tryz.pinned : Pinned := { name := "ytmkcbkdbdcnoiaagreatdoor", sum := "269576cccb15a80ed3b3c71c3dcc1c592f619e4b88ff38e9d329132a04ad6115", checked := Tryz.checked }
namespace Rows
def none {H : Type} : Left H := { results := [], args := [] }

/- WHAT THE LISTED PACKAGE-LEVEL VARIABLES READ AS WHEN THE CALL BEGINS. Each datum BY PROGRAM (the guide's laid-datum.mjs) off the statement by which the dump's own 'gosem.cut.vars' lays the variable. In a bare row this is a premise. The card (YtmkcbkdbdcnoiaaGreatDoorCards.lean) ties it to the program's text. -/
def laid_errors_errorType {H : Type} : DataW H := .iface "internal/reflectlite.rtype" (.agg [.ptr (.lit (.string [101, 114, 114, 111, 114]))])
def laid_bazaar_money_errAmount {H : Type} : DataW H := .iface "*errors.errorString" (.ptr (.agg [.lit (.string [110, 111, 32, 97, 109, 111, 117, 110, 116])]))
def laid_bazaar_money_errOverflow {H : Type} : DataW H := .iface "*errors.errorString" (.ptr (.agg [.lit (.string [116, 111, 111, 32, 109, 117, 99, 104])]))
def laid_bazaar_money_errFunds {H : Type} : DataW H := .iface "*errors.errorString" (.ptr (.agg [.lit (.string [116, 111, 111, 32, 108, 105, 116, 116, 108, 101])]))

/-- 'bazaarlaw16.WorldKeeps': WHATEVER THE INPUT: true; the input reads as it did. -/
def worldKeepsSpec : ChangeSpec := { name := "worldKeeps", fn := fun _ => fun
  | [d1, d2] => { results := [.lit (.bool true)], args := [d1, d2] }
  | _ => none }
def worldKeepsRow : OpenClaim := { program := "ytmkcbkdbdcnoiaagreatdoor", sum := "269576cccb15a80ed3b3c71c3dcc1c592f619e4b88ff38e9d329132a04ad6115", func := "bazaar/bazaarlaw16.WorldKeeps", spec := "worldKeeps", inPlace := ["internal/reflectlite.TypeOf", "internal/reflectlite.ValueOf", "(internal/reflectlite.Value).Type", "(internal/reflectlite.Value).IsNil", "(internal/reflectlite.Value).Elem", "(internal/reflectlite.Value).Set"], unfollowed := true, recurses := true, named := ["bazaar/money.errAmount", "bazaar/money.errOverflow", "bazaar/money.errFunds", "errors.errorType"], apart := false, laid := [("errors.errorType", laid_errors_errorType), ("bazaar/money.errAmount", laid_bazaar_money_errAmount), ("bazaar/money.errOverflow", laid_bazaar_money_errOverflow), ("bazaar/money.errFunds", laid_bazaar_money_errFunds)] }
def WorldKeepsSaid : Prop := worldKeepsRow.holds Tryz.pinned (OpenSpec.ofChange worldKeepsSpec)

/-- ITS FALSE NEIGHBOUR: 'it returns false'. Refute it at one input. -/
def worldKeepsWrong : ChangeSpec := { name := "worldKeeps", fn := fun _ => fun
  | [d1, d2] => { results := [.lit (.bool false)], args := [d1, d2] }
  | _ => none }
def WorldKeepsWrongFalsely : Prop := worldKeepsRow.holds Tryz.pinned (OpenSpec.ofChange worldKeepsWrong)

/-- 'bazaarlaw16.WorldTurns': WHATEVER THE INPUT: true; the input reads as it did. -/
def worldTurnsSpec : ChangeSpec := { name := "worldTurns", fn := fun _ => fun
  | [d1, d2, d3, d4] => { results := [.lit (.bool true)], args := [d1, d2, d3, d4] }
  | _ => none }
def worldTurnsRow : OpenClaim := { program := "ytmkcbkdbdcnoiaagreatdoor", sum := "269576cccb15a80ed3b3c71c3dcc1c592f619e4b88ff38e9d329132a04ad6115", func := "bazaar/bazaarlaw16.WorldTurns", spec := "worldTurns", inPlace := ["internal/reflectlite.TypeOf", "internal/reflectlite.ValueOf", "(internal/reflectlite.Value).Type", "(internal/reflectlite.Value).IsNil", "(internal/reflectlite.Value).Elem", "(internal/reflectlite.Value).Set"], unfollowed := true, recurses := true, named := ["bazaar/money.errAmount", "bazaar/money.errOverflow", "bazaar/money.errFunds", "errors.errorType"], apart := false, laid := [("errors.errorType", laid_errors_errorType), ("bazaar/money.errAmount", laid_bazaar_money_errAmount), ("bazaar/money.errOverflow", laid_bazaar_money_errOverflow), ("bazaar/money.errFunds", laid_bazaar_money_errFunds)] }
def WorldTurnsSaid : Prop := worldTurnsRow.holds Tryz.pinned (OpenSpec.ofChange worldTurnsSpec)

/-- ITS FALSE NEIGHBOUR: 'it returns false'. Refute it at one input. -/
def worldTurnsWrong : ChangeSpec := { name := "worldTurns", fn := fun _ => fun
  | [d1, d2, d3, d4] => { results := [.lit (.bool false)], args := [d1, d2, d3, d4] }
  | _ => none }
def WorldTurnsWrongFalsely : Prop := worldTurnsRow.holds Tryz.pinned (OpenSpec.ofChange worldTurnsWrong)

/-- 'bazaarlaw16.WorldNumbers': WHATEVER THE INPUT: true; the input reads as it did. -/
def worldNumbersSpec : ChangeSpec := { name := "worldNumbers", fn := fun _ => fun
  | [d] => { results := [.lit (.bool true)], args := [d] }
  | _ => none }
def worldNumbersRow : OpenClaim := { program := "ytmkcbkdbdcnoiaagreatdoor", sum := "269576cccb15a80ed3b3c71c3dcc1c592f619e4b88ff38e9d329132a04ad6115", func := "bazaar/bazaarlaw16.WorldNumbers", spec := "worldNumbers", inPlace := ["internal/reflectlite.TypeOf", "internal/reflectlite.ValueOf", "(internal/reflectlite.Value).Type", "(internal/reflectlite.Value).IsNil", "(internal/reflectlite.Value).Elem", "(internal/reflectlite.Value).Set"], unfollowed := true, recurses := true, named := ["bazaar/money.errAmount", "bazaar/money.errOverflow", "bazaar/money.errFunds", "errors.errorType"], apart := false, laid := [("errors.errorType", laid_errors_errorType), ("bazaar/money.errAmount", laid_bazaar_money_errAmount), ("bazaar/money.errOverflow", laid_bazaar_money_errOverflow), ("bazaar/money.errFunds", laid_bazaar_money_errFunds)] }
def WorldNumbersSaid : Prop := worldNumbersRow.holds Tryz.pinned (OpenSpec.ofChange worldNumbersSpec)

/-- ITS FALSE NEIGHBOUR: 'it returns false'. Refute it at one input. -/
def worldNumbersWrong : ChangeSpec := { name := "worldNumbers", fn := fun _ => fun
  | [d] => { results := [.lit (.bool false)], args := [d] }
  | _ => none }
def WorldNumbersWrongFalsely : Prop := worldNumbersRow.holds Tryz.pinned (OpenSpec.ofChange worldNumbersWrong)

/-- 'bazaarlaw16.WorldBanks': WHATEVER THE INPUT: true; the input reads as it did. -/
def worldBanksSpec : ChangeSpec := { name := "worldBanks", fn := fun _ => fun
  | [d1, d2] => { results := [.lit (.bool true)], args := [d1, d2] }
  | _ => none }
def worldBanksRow : OpenClaim := { program := "ytmkcbkdbdcnoiaagreatdoor", sum := "269576cccb15a80ed3b3c71c3dcc1c592f619e4b88ff38e9d329132a04ad6115", func := "bazaar/bazaarlaw16.WorldBanks", spec := "worldBanks", inPlace := ["internal/reflectlite.TypeOf", "internal/reflectlite.ValueOf", "(internal/reflectlite.Value).Type", "(internal/reflectlite.Value).IsNil", "(internal/reflectlite.Value).Elem", "(internal/reflectlite.Value).Set"], unfollowed := true, recurses := true, named := ["bazaar/money.errAmount", "bazaar/money.errOverflow", "bazaar/money.errFunds", "errors.errorType"], apart := false, laid := [("errors.errorType", laid_errors_errorType), ("bazaar/money.errAmount", laid_bazaar_money_errAmount), ("bazaar/money.errOverflow", laid_bazaar_money_errOverflow), ("bazaar/money.errFunds", laid_bazaar_money_errFunds)] }
def WorldBanksSaid : Prop := worldBanksRow.holds Tryz.pinned (OpenSpec.ofChange worldBanksSpec)

/-- ITS FALSE NEIGHBOUR: 'it returns false'. Refute it at one input. -/
def worldBanksWrong : ChangeSpec := { name := "worldBanks", fn := fun _ => fun
  | [d1, d2] => { results := [.lit (.bool false)], args := [d1, d2] }
  | _ => none }
def WorldBanksWrongFalsely : Prop := worldBanksRow.holds Tryz.pinned (OpenSpec.ofChange worldBanksWrong)

/-- 'bazaarlaw16.WorldSteps': WHATEVER THE INPUT: true; the input reads as it did. -/
def worldStepsSpec : ChangeSpec := { name := "worldSteps", fn := fun _ => fun
  | [d] => { results := [.lit (.bool true)], args := [d] }
  | _ => none }
def worldStepsRow : OpenClaim := { program := "ytmkcbkdbdcnoiaagreatdoor", sum := "269576cccb15a80ed3b3c71c3dcc1c592f619e4b88ff38e9d329132a04ad6115", func := "bazaar/bazaarlaw16.WorldSteps", spec := "worldSteps", inPlace := ["internal/reflectlite.TypeOf", "internal/reflectlite.ValueOf", "(internal/reflectlite.Value).Type", "(internal/reflectlite.Value).IsNil", "(internal/reflectlite.Value).Elem", "(internal/reflectlite.Value).Set"], unfollowed := true, recurses := true, named := ["bazaar/money.errAmount", "bazaar/money.errOverflow", "bazaar/money.errFunds", "errors.errorType"], apart := false, laid := [("errors.errorType", laid_errors_errorType), ("bazaar/money.errAmount", laid_bazaar_money_errAmount), ("bazaar/money.errOverflow", laid_bazaar_money_errOverflow), ("bazaar/money.errFunds", laid_bazaar_money_errFunds)] }
def WorldStepsSaid : Prop := worldStepsRow.holds Tryz.pinned (OpenSpec.ofChange worldStepsSpec)

/-- ITS FALSE NEIGHBOUR: 'it returns false'. Refute it at one input. -/
def worldStepsWrong : ChangeSpec := { name := "worldSteps", fn := fun _ => fun
  | [d] => { results := [.lit (.bool false)], args := [d] }
  | _ => none }
def WorldStepsWrongFalsely : Prop := worldStepsRow.holds Tryz.pinned (OpenSpec.ofChange worldStepsWrong)

/-- 'bazaarlaw16.WorldErrors': WHATEVER THE INPUT: true; the input reads as it did. -/
def worldErrorsSpec : ChangeSpec := { name := "worldErrors", fn := fun _ => fun
  | [d] => { results := [.lit (.bool true)], args := [d] }
  | _ => none }
def worldErrorsRow : OpenClaim := { program := "ytmkcbkdbdcnoiaagreatdoor", sum := "269576cccb15a80ed3b3c71c3dcc1c592f619e4b88ff38e9d329132a04ad6115", func := "bazaar/bazaarlaw16.WorldErrors", spec := "worldErrors", inPlace := ["internal/reflectlite.TypeOf", "internal/reflectlite.ValueOf", "(internal/reflectlite.Value).Type", "(internal/reflectlite.Value).IsNil", "(internal/reflectlite.Value).Elem", "(internal/reflectlite.Value).Set"], unfollowed := true, recurses := true, named := ["bazaar/money.errAmount", "bazaar/money.errOverflow", "bazaar/money.errFunds", "errors.errorType"], apart := false, laid := [("errors.errorType", laid_errors_errorType), ("bazaar/money.errAmount", laid_bazaar_money_errAmount), ("bazaar/money.errOverflow", laid_bazaar_money_errOverflow), ("bazaar/money.errFunds", laid_bazaar_money_errFunds)] }
def WorldErrorsSaid : Prop := worldErrorsRow.holds Tryz.pinned (OpenSpec.ofChange worldErrorsSpec)

/-- ITS FALSE NEIGHBOUR: 'it returns false'. Refute it at one input. -/
def worldErrorsWrong : ChangeSpec := { name := "worldErrors", fn := fun _ => fun
  | [d] => { results := [.lit (.bool false)], args := [d] }
  | _ => none }
def WorldErrorsWrongFalsely : Prop := worldErrorsRow.holds Tryz.pinned (OpenSpec.ofChange worldErrorsWrong)

/- THE SECOND FORM. 'bulk': how many values and letters a reading holds, each counted each time it is reached (what is shared counts as often as it is met; a slice's spare places count too). A statement '..UptoSaid' is the law's where the arguments, and the package variables that the reading takes, are together of bulk at most 1048576: NARROWER than '..Said'. Prove '..Said' where nothing that the law and all that it calls make is longer than what came in: it says more and counts as full. Else prove '..UptoSaid'. A law counts once. -/
mutual
def uptoBulk {H : Type} : DataW H → Nat
  | .lit (.string bytes) => bytes.length + 1
  | .lit _ => 1
  | .nil => 1
  | .ptr d => uptoBulk d + 1
  | .slice elems spare => uptoBulkAll elems + uptoBulkAll spare + 1
  | .agg parts => uptoBulkAll parts + 1
  | .iface _ d => uptoBulk d + 1
  | .map entries => uptoBulkEntries entries + 1
  | .held _ => 1
def uptoBulkAll {H : Type} : List (DataW H) → Nat
  | [] => 0
  | d :: r => uptoBulk d + uptoBulkAll r
def uptoBulkEntries {H : Type} : List (Lit × DataW H) → Nat
  | [] => 0
  | x :: r => uptoBulkEntry x + uptoBulkEntries r
def uptoBulkEntry {H : Type} : Lit × DataW H → Nat
  | (.string bytes, d) => bytes.length + uptoBulk d + 1
  | (_, d) => uptoBulk d + 1
 end
def uptoSmall : (H : Type) → List (DataW H) → Bool := fun _ ds => decide (uptoBulkAll ds ≤ 1048576)
def OpenSpec.upto (s : _root_.Go.ChangeSpec) : _root_.Go.OpenSpec := { _root_.Go.OpenSpec.ofChange s with cond := some uptoSmall }

/-- 'bazaarlaw16.WorldKeeps', WHERE WHAT IT READS IS OF BULK AT MOST 1048576: true; the input reads as it did. -/
def worldKeepsUptoRow : OpenClaim := { program := "ytmkcbkdbdcnoiaagreatdoor", sum := "269576cccb15a80ed3b3c71c3dcc1c592f619e4b88ff38e9d329132a04ad6115", func := "bazaar/bazaarlaw16.WorldKeeps", spec := "worldKeeps", inPlace := ["internal/reflectlite.TypeOf", "internal/reflectlite.ValueOf", "(internal/reflectlite.Value).Type", "(internal/reflectlite.Value).IsNil", "(internal/reflectlite.Value).Elem", "(internal/reflectlite.Value).Set"], unfollowed := true, recurses := true, named := ["bazaar/money.errAmount", "bazaar/money.errOverflow", "bazaar/money.errFunds", "errors.errorType"], apart := false, laid := [("errors.errorType", laid_errors_errorType), ("bazaar/money.errAmount", laid_bazaar_money_errAmount), ("bazaar/money.errOverflow", laid_bazaar_money_errOverflow), ("bazaar/money.errFunds", laid_bazaar_money_errFunds)], narrowed := true }
def WorldKeepsUptoSaid : Prop := worldKeepsUptoRow.holds Tryz.pinned (OpenSpec.upto worldKeepsSpec)

/-- 'bazaarlaw16.WorldTurns', WHERE WHAT IT READS IS OF BULK AT MOST 1048576: true; the input reads as it did. -/
def worldTurnsUptoRow : OpenClaim := { program := "ytmkcbkdbdcnoiaagreatdoor", sum := "269576cccb15a80ed3b3c71c3dcc1c592f619e4b88ff38e9d329132a04ad6115", func := "bazaar/bazaarlaw16.WorldTurns", spec := "worldTurns", inPlace := ["internal/reflectlite.TypeOf", "internal/reflectlite.ValueOf", "(internal/reflectlite.Value).Type", "(internal/reflectlite.Value).IsNil", "(internal/reflectlite.Value).Elem", "(internal/reflectlite.Value).Set"], unfollowed := true, recurses := true, named := ["bazaar/money.errAmount", "bazaar/money.errOverflow", "bazaar/money.errFunds", "errors.errorType"], apart := false, laid := [("errors.errorType", laid_errors_errorType), ("bazaar/money.errAmount", laid_bazaar_money_errAmount), ("bazaar/money.errOverflow", laid_bazaar_money_errOverflow), ("bazaar/money.errFunds", laid_bazaar_money_errFunds)], narrowed := true }
def WorldTurnsUptoSaid : Prop := worldTurnsUptoRow.holds Tryz.pinned (OpenSpec.upto worldTurnsSpec)

/-- 'bazaarlaw16.WorldNumbers', WHERE WHAT IT READS IS OF BULK AT MOST 1048576: true; the input reads as it did. -/
def worldNumbersUptoRow : OpenClaim := { program := "ytmkcbkdbdcnoiaagreatdoor", sum := "269576cccb15a80ed3b3c71c3dcc1c592f619e4b88ff38e9d329132a04ad6115", func := "bazaar/bazaarlaw16.WorldNumbers", spec := "worldNumbers", inPlace := ["internal/reflectlite.TypeOf", "internal/reflectlite.ValueOf", "(internal/reflectlite.Value).Type", "(internal/reflectlite.Value).IsNil", "(internal/reflectlite.Value).Elem", "(internal/reflectlite.Value).Set"], unfollowed := true, recurses := true, named := ["bazaar/money.errAmount", "bazaar/money.errOverflow", "bazaar/money.errFunds", "errors.errorType"], apart := false, laid := [("errors.errorType", laid_errors_errorType), ("bazaar/money.errAmount", laid_bazaar_money_errAmount), ("bazaar/money.errOverflow", laid_bazaar_money_errOverflow), ("bazaar/money.errFunds", laid_bazaar_money_errFunds)], narrowed := true }
def WorldNumbersUptoSaid : Prop := worldNumbersUptoRow.holds Tryz.pinned (OpenSpec.upto worldNumbersSpec)

/-- 'bazaarlaw16.WorldBanks', WHERE WHAT IT READS IS OF BULK AT MOST 1048576: true; the input reads as it did. -/
def worldBanksUptoRow : OpenClaim := { program := "ytmkcbkdbdcnoiaagreatdoor", sum := "269576cccb15a80ed3b3c71c3dcc1c592f619e4b88ff38e9d329132a04ad6115", func := "bazaar/bazaarlaw16.WorldBanks", spec := "worldBanks", inPlace := ["internal/reflectlite.TypeOf", "internal/reflectlite.ValueOf", "(internal/reflectlite.Value).Type", "(internal/reflectlite.Value).IsNil", "(internal/reflectlite.Value).Elem", "(internal/reflectlite.Value).Set"], unfollowed := true, recurses := true, named := ["bazaar/money.errAmount", "bazaar/money.errOverflow", "bazaar/money.errFunds", "errors.errorType"], apart := false, laid := [("errors.errorType", laid_errors_errorType), ("bazaar/money.errAmount", laid_bazaar_money_errAmount), ("bazaar/money.errOverflow", laid_bazaar_money_errOverflow), ("bazaar/money.errFunds", laid_bazaar_money_errFunds)], narrowed := true }
def WorldBanksUptoSaid : Prop := worldBanksUptoRow.holds Tryz.pinned (OpenSpec.upto worldBanksSpec)

/-- 'bazaarlaw16.WorldSteps', WHERE WHAT IT READS IS OF BULK AT MOST 1048576: true; the input reads as it did. -/
def worldStepsUptoRow : OpenClaim := { program := "ytmkcbkdbdcnoiaagreatdoor", sum := "269576cccb15a80ed3b3c71c3dcc1c592f619e4b88ff38e9d329132a04ad6115", func := "bazaar/bazaarlaw16.WorldSteps", spec := "worldSteps", inPlace := ["internal/reflectlite.TypeOf", "internal/reflectlite.ValueOf", "(internal/reflectlite.Value).Type", "(internal/reflectlite.Value).IsNil", "(internal/reflectlite.Value).Elem", "(internal/reflectlite.Value).Set"], unfollowed := true, recurses := true, named := ["bazaar/money.errAmount", "bazaar/money.errOverflow", "bazaar/money.errFunds", "errors.errorType"], apart := false, laid := [("errors.errorType", laid_errors_errorType), ("bazaar/money.errAmount", laid_bazaar_money_errAmount), ("bazaar/money.errOverflow", laid_bazaar_money_errOverflow), ("bazaar/money.errFunds", laid_bazaar_money_errFunds)], narrowed := true }
def WorldStepsUptoSaid : Prop := worldStepsUptoRow.holds Tryz.pinned (OpenSpec.upto worldStepsSpec)

/-- 'bazaarlaw16.WorldErrors', WHERE WHAT IT READS IS OF BULK AT MOST 1048576: true; the input reads as it did. -/
def worldErrorsUptoRow : OpenClaim := { program := "ytmkcbkdbdcnoiaagreatdoor", sum := "269576cccb15a80ed3b3c71c3dcc1c592f619e4b88ff38e9d329132a04ad6115", func := "bazaar/bazaarlaw16.WorldErrors", spec := "worldErrors", inPlace := ["internal/reflectlite.TypeOf", "internal/reflectlite.ValueOf", "(internal/reflectlite.Value).Type", "(internal/reflectlite.Value).IsNil", "(internal/reflectlite.Value).Elem", "(internal/reflectlite.Value).Set"], unfollowed := true, recurses := true, named := ["bazaar/money.errAmount", "bazaar/money.errOverflow", "bazaar/money.errFunds", "errors.errorType"], apart := false, laid := [("errors.errorType", laid_errors_errorType), ("bazaar/money.errAmount", laid_bazaar_money_errAmount), ("bazaar/money.errOverflow", laid_bazaar_money_errOverflow), ("bazaar/money.errFunds", laid_bazaar_money_errFunds)], narrowed := true }
def WorldErrorsUptoSaid : Prop := worldErrorsUptoRow.holds Tryz.pinned (OpenSpec.upto worldErrorsSpec)

end Rows
end Go.Proofs.YtmkcbkdbdcnoiaaGreatDoor
