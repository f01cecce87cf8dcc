/-
  NARROWER THAN 'FOR EVERY INPUT', by the rows' own cells (each row's printed sentence says how): RecordHeads: laid · RecordTypes: laid · RecordBack: laid · RecordPuts: laid.
  DERIVED. THE GIVEN ROWS OF THIS SEAT. 4 by the template 'for every input the law returns true; each argument reads behind the call as it read before'; 0 by the template 'total and deterministic' (their statements: YthjkhoblafmibaaDoorTotals.lean).
  GIVEN WITH THE SEED: the statements are not yours to turn. If you find one false, say at which input.
  Laid BY PROGRAM, IN A SANDBOX (cutbox-rows.mjs): the forced cells as the released guide's own fill.sh prints them over the translation 2582939cb4b35fbb… (all of the seat's roots in one cut). By AI agents, Wed Nov 11 2026. No macro, syntax, notation, axiom, sorry.
-/
import Derived.Test.YthjkhoblafmibaaDoorChecked
import GoSem.Claim
import GoSem.ClaimJoined
import GoSem.ClaimMapViews
import Derived.JoinedTies
import Derived.KernelRfl
namespace Go.Proofs.YthjkhoblafmibaaDoor
/- THE CELL 'sum', in the pinned program and in every row, IS THE sha256 OF THE DUMP (.gsa) THAT YthjkhoblafmibaaDoorProg.lean LOADS. Nothing in Lean hashes anything: it is a label: what it is worth is what the hold of that sum in a sandbox is worth. -/
noncomputable def Tryd.pinned : Pinned := { name := "ythjkhoblafmibaadoor", sum := "2582939cb4b35fbb748b05caa96497e1ff5e01b584938869f4a736ea2f9cfbba", checked := Tryd.checked }
namespace Rows
def none {H : Type} : Left H := { results := [], args := [] }

/- WHAT THE LISTED PACKAGE-LEVEL VARIABLES READ AS WHEN THE CALL BEGINS. Each datum BY PROGRAM (the guide's laid-datum.mjs) off the statement by which the dump's own 'gosem.cut.vars' lays the variable. In a bare row this is a premise. The card (YthjkhoblafmibaaDoorCards.lean) ties it to the program's text. -/
def laid_passepartout_record_limits {H : Type} : DataW H := .agg [.agg [.lit (.int .i64 1), .lit (.int .i64 1)], .agg [.lit (.int .i64 2), .lit (.int .i64 2)], .agg [.lit (.int .i64 1), .lit (.int .i64 16384)], .agg [.lit (.int .i64 0), .lit (.int .i64 16640)]]

/-- 'passepartoutlaw18.RecordHeads': WHATEVER THE INPUT: true; the input reads as it did. -/
def recordHeadsSpec : ChangeSpec := { name := "recordHeads", fn := fun _ => fun
  | [d] => { results := [.lit (.bool true)], args := [d] }
  | _ => none }
def recordHeadsRow : OpenClaim := { program := "ythjkhoblafmibaadoor", sum := "2582939cb4b35fbb748b05caa96497e1ff5e01b584938869f4a736ea2f9cfbba", func := "passepartout/passepartoutlaw18.RecordHeads", spec := "recordHeads", named := ["passepartout/record.limits"], apart := false, laid := [("passepartout/record.limits", laid_passepartout_record_limits)] }
def RecordHeadsSaid : Prop := recordHeadsRow.holds Tryd.pinned (OpenSpec.ofChange recordHeadsSpec)

/-- ITS FALSE NEIGHBOUR: 'it returns false'. Refute it at one input. -/
def recordHeadsWrong : ChangeSpec := { name := "recordHeads", fn := fun _ => fun
  | [d] => { results := [.lit (.bool false)], args := [d] }
  | _ => none }
def RecordHeadsWrongFalsely : Prop := recordHeadsRow.holds Tryd.pinned (OpenSpec.ofChange recordHeadsWrong)

/-- 'passepartoutlaw18.RecordTypes': WHATEVER THE INPUT: true; the input reads as it did. -/
def recordTypesSpec : ChangeSpec := { name := "recordTypes", fn := fun _ => fun
  | [d1, d2] => { results := [.lit (.bool true)], args := [d1, d2] }
  | _ => none }
def recordTypesRow : OpenClaim := { program := "ythjkhoblafmibaadoor", sum := "2582939cb4b35fbb748b05caa96497e1ff5e01b584938869f4a736ea2f9cfbba", func := "passepartout/passepartoutlaw18.RecordTypes", spec := "recordTypes", named := ["passepartout/record.limits"], apart := false, laid := [("passepartout/record.limits", laid_passepartout_record_limits)] }
def RecordTypesSaid : Prop := recordTypesRow.holds Tryd.pinned (OpenSpec.ofChange recordTypesSpec)

/-- ITS FALSE NEIGHBOUR: 'it returns false'. Refute it at one input. -/
def recordTypesWrong : ChangeSpec := { name := "recordTypes", fn := fun _ => fun
  | [d1, d2] => { results := [.lit (.bool false)], args := [d1, d2] }
  | _ => none }
def RecordTypesWrongFalsely : Prop := recordTypesRow.holds Tryd.pinned (OpenSpec.ofChange recordTypesWrong)

/-- 'passepartoutlaw18.RecordBack': WHATEVER THE INPUT: true; the input reads as it did. -/
def recordBackSpec : ChangeSpec := { name := "recordBack", fn := fun _ => fun
  | [d1, d2] => { results := [.lit (.bool true)], args := [d1, d2] }
  | _ => none }
def recordBackRow : OpenClaim := { program := "ythjkhoblafmibaadoor", sum := "2582939cb4b35fbb748b05caa96497e1ff5e01b584938869f4a736ea2f9cfbba", func := "passepartout/passepartoutlaw18.RecordBack", spec := "recordBack", named := ["passepartout/record.limits"], apart := false, laid := [("passepartout/record.limits", laid_passepartout_record_limits)] }
def RecordBackSaid : Prop := recordBackRow.holds Tryd.pinned (OpenSpec.ofChange recordBackSpec)

/-- ITS FALSE NEIGHBOUR: 'it returns false'. Refute it at one input. -/
def recordBackWrong : ChangeSpec := { name := "recordBack", fn := fun _ => fun
  | [d1, d2] => { results := [.lit (.bool false)], args := [d1, d2] }
  | _ => none }
def RecordBackWrongFalsely : Prop := recordBackRow.holds Tryd.pinned (OpenSpec.ofChange recordBackWrong)

/-- 'passepartoutlaw18.RecordPuts': WHATEVER THE INPUT: true; the input reads as it did. -/
def recordPutsSpec : ChangeSpec := { name := "recordPuts", fn := fun _ => fun
  | [d1, d2] => { results := [.lit (.bool true)], args := [d1, d2] }
  | _ => none }
def recordPutsRow : OpenClaim := { program := "ythjkhoblafmibaadoor", sum := "2582939cb4b35fbb748b05caa96497e1ff5e01b584938869f4a736ea2f9cfbba", func := "passepartout/passepartoutlaw18.RecordPuts", spec := "recordPuts", named := ["passepartout/record.limits"], apart := false, laid := [("passepartout/record.limits", laid_passepartout_record_limits)] }
def RecordPutsSaid : Prop := recordPutsRow.holds Tryd.pinned (OpenSpec.ofChange recordPutsSpec)

/-- ITS FALSE NEIGHBOUR: 'it returns false'. Refute it at one input. -/
def recordPutsWrong : ChangeSpec := { name := "recordPuts", fn := fun _ => fun
  | [d1, d2] => { results := [.lit (.bool false)], args := [d1, d2] }
  | _ => none }
def RecordPutsWrongFalsely : Prop := recordPutsRow.holds Tryd.pinned (OpenSpec.ofChange recordPutsWrong)

/- THE SECOND FORM. 'bulk': how many values and letters a reading holds, each counted each time it is reached (what is shared counts as often as it is met; a slice's spare places count too). A statement '..UptoSaid' is the law's where the arguments, and the package variables that the reading takes, are together of bulk at most 1048576: NARROWER than '..Said'. Prove '..Said' where nothing that the law and all that it calls make is longer than what came in: it says more and counts as full. Else prove '..UptoSaid'. A law counts once. -/
mutual
def uptoBulk {H : Type} : DataW H → Nat
  | .lit (.string bytes) => bytes.length + 1
  | .lit _ => 1
  | .nil => 1
  | .ptr d => uptoBulk d + 1
  | .slice elems spare => uptoBulkAll elems + uptoBulkAll spare + 1
  | .agg parts => uptoBulkAll parts + 1
  | .iface _ d => uptoBulk d + 1
  | .map entries => uptoBulkEntries entries + 1
  | .held _ => 1
def uptoBulkAll {H : Type} : List (DataW H) → Nat
  | [] => 0
  | d :: r => uptoBulk d + uptoBulkAll r
def uptoBulkEntries {H : Type} : List (Lit × DataW H) → Nat
  | [] => 0
  | x :: r => uptoBulkEntry x + uptoBulkEntries r
def uptoBulkEntry {H : Type} : Lit × DataW H → Nat
  | (.string bytes, d) => bytes.length + uptoBulk d + 1
  | (_, d) => uptoBulk d + 1
 end
def uptoSmall : (H : Type) → List (DataW H) → Bool := fun _ ds => decide (uptoBulkAll ds ≤ 1048576)
def OpenSpec.upto (s : _root_.Go.ChangeSpec) : _root_.Go.OpenSpec := { _root_.Go.OpenSpec.ofChange s with cond := some uptoSmall }

/-- 'passepartoutlaw18.RecordHeads', WHERE WHAT IT READS IS OF BULK AT MOST 1048576: true; the input reads as it did. -/
def recordHeadsUptoRow : OpenClaim := { program := "ythjkhoblafmibaadoor", sum := "2582939cb4b35fbb748b05caa96497e1ff5e01b584938869f4a736ea2f9cfbba", func := "passepartout/passepartoutlaw18.RecordHeads", spec := "recordHeads", named := ["passepartout/record.limits"], apart := false, laid := [("passepartout/record.limits", laid_passepartout_record_limits)], narrowed := true }
def RecordHeadsUptoSaid : Prop := recordHeadsUptoRow.holds Tryd.pinned (OpenSpec.upto recordHeadsSpec)

/-- 'passepartoutlaw18.RecordTypes', WHERE WHAT IT READS IS OF BULK AT MOST 1048576: true; the input reads as it did. -/
def recordTypesUptoRow : OpenClaim := { program := "ythjkhoblafmibaadoor", sum := "2582939cb4b35fbb748b05caa96497e1ff5e01b584938869f4a736ea2f9cfbba", func := "passepartout/passepartoutlaw18.RecordTypes", spec := "recordTypes", named := ["passepartout/record.limits"], apart := false, laid := [("passepartout/record.limits", laid_passepartout_record_limits)], narrowed := true }
def RecordTypesUptoSaid : Prop := recordTypesUptoRow.holds Tryd.pinned (OpenSpec.upto recordTypesSpec)

/-- 'passepartoutlaw18.RecordBack', WHERE WHAT IT READS IS OF BULK AT MOST 1048576: true; the input reads as it did. -/
def recordBackUptoRow : OpenClaim := { program := "ythjkhoblafmibaadoor", sum := "2582939cb4b35fbb748b05caa96497e1ff5e01b584938869f4a736ea2f9cfbba", func := "passepartout/passepartoutlaw18.RecordBack", spec := "recordBack", named := ["passepartout/record.limits"], apart := false, laid := [("passepartout/record.limits", laid_passepartout_record_limits)], narrowed := true }
def RecordBackUptoSaid : Prop := recordBackUptoRow.holds Tryd.pinned (OpenSpec.upto recordBackSpec)

/-- 'passepartoutlaw18.RecordPuts', WHERE WHAT IT READS IS OF BULK AT MOST 1048576: true; the input reads as it did. -/
def recordPutsUptoRow : OpenClaim := { program := "ythjkhoblafmibaadoor", sum := "2582939cb4b35fbb748b05caa96497e1ff5e01b584938869f4a736ea2f9cfbba", func := "passepartout/passepartoutlaw18.RecordPuts", spec := "recordPuts", named := ["passepartout/record.limits"], apart := false, laid := [("passepartout/record.limits", laid_passepartout_record_limits)], narrowed := true }
def RecordPutsUptoSaid : Prop := recordPutsUptoRow.holds Tryd.pinned (OpenSpec.upto recordPutsSpec)

end Rows
end Go.Proofs.YthjkhoblafmibaaDoor
