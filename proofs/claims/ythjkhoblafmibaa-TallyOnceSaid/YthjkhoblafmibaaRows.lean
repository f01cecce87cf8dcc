/-
  No cell of these rows narrows 'for every input' (looked for: loops, veiled, ifaces, maps, wideKeys, modest, calm, conditions, laid).
  DERIVED. THE GIVEN ROWS OF THIS SEAT. 6 by the template 'for every input the law returns true; each argument reads behind the call as it read before'; 0 by the template 'total and deterministic' (their statements: YthjkhoblafmibaaTotals.lean).
  GIVEN WITH THE SEED: the statements are not yours to turn. If you find one false, say at which input.
  Laid BY PROGRAM, IN A SANDBOX (cutbox-rows.mjs): the forced cells as the released guide's own fill.sh prints them over the translation 1f6eef5c21ee6584… (all of the seat's roots in one cut). By AI agents, Wed Nov 11 2026. No macro, syntax, notation, axiom, sorry.
-/
import Derived.Test.YthjkhoblafmibaaChecked
import GoSem.Claim
import GoSem.ClaimJoined
import GoSem.ClaimMapViews
import Derived.JoinedTies
import Derived.KernelRfl
namespace Go.Proofs.Ythjkhoblafmibaa
/- THE CELL 'sum', in the pinned program and in every row, IS THE sha256 OF THE DUMP (.gsa) THAT YthjkhoblafmibaaProg.lean LOADS. Nothing in Lean hashes anything: it is a label: what it is worth is what the hold of that sum in a sandbox is worth. -/
noncomputable def Try.pinned : Pinned := { name := "ythjkhoblafmibaa", sum := "1f6eef5c21ee6584084aae7d3588c1b6b2f217893d6bafd8107ceaff33441d28", checked := Try.checked }
namespace Rows
def none {H : Type} : Left H := { results := [], args := [] }

/-- 'passepartoutlaw03.TallySpends': WHATEVER THE INPUT: true; the input reads as it did. -/
def tallySpendsSpec : ChangeSpec := { name := "tallySpends", fn := fun _ => fun
  | [d1, d2] => { results := [.lit (.bool true)], args := [d1, d2] }
  | _ => none }
def tallySpendsRow : OpenClaim := { program := "ythjkhoblafmibaa", sum := "1f6eef5c21ee6584084aae7d3588c1b6b2f217893d6bafd8107ceaff33441d28", func := "passepartout/passepartoutlaw03.TallySpends", spec := "tallySpends", inPlace := ["sync/atomic.LoadInt64", "sync/atomic.CompareAndSwapInt64"], apart := false }
def TallySpendsSaid : Prop := tallySpendsRow.holds Try.pinned (OpenSpec.ofChange tallySpendsSpec)

/-- ITS FALSE NEIGHBOUR: 'it returns false'. Refute it at one input. -/
def tallySpendsWrong : ChangeSpec := { name := "tallySpends", fn := fun _ => fun
  | [d1, d2] => { results := [.lit (.bool false)], args := [d1, d2] }
  | _ => none }
def TallySpendsWrongFalsely : Prop := tallySpendsRow.holds Try.pinned (OpenSpec.ofChange tallySpendsWrong)

/-- 'passepartoutlaw03.TallyOrders': WHATEVER THE INPUT: true; the input reads as it did. -/
def tallyOrdersSpec : ChangeSpec := { name := "tallyOrders", fn := fun _ => fun
  | [d1, d2] => { results := [.lit (.bool true)], args := [d1, d2] }
  | _ => none }
def tallyOrdersRow : OpenClaim := { program := "ythjkhoblafmibaa", sum := "1f6eef5c21ee6584084aae7d3588c1b6b2f217893d6bafd8107ceaff33441d28", func := "passepartout/passepartoutlaw03.TallyOrders", spec := "tallyOrders", inPlace := ["sync/atomic.LoadInt64", "sync/atomic.CompareAndSwapInt64"], apart := false }
def TallyOrdersSaid : Prop := tallyOrdersRow.holds Try.pinned (OpenSpec.ofChange tallyOrdersSpec)

/-- ITS FALSE NEIGHBOUR: 'it returns false'. Refute it at one input. -/
def tallyOrdersWrong : ChangeSpec := { name := "tallyOrders", fn := fun _ => fun
  | [d1, d2] => { results := [.lit (.bool false)], args := [d1, d2] }
  | _ => none }
def TallyOrdersWrongFalsely : Prop := tallyOrdersRow.holds Try.pinned (OpenSpec.ofChange tallyOrdersWrong)

/-- 'passepartoutlaw03.TallyFits': WHATEVER THE INPUT: true; the input reads as it did. -/
def tallyFitsSpec : ChangeSpec := { name := "tallyFits", fn := fun _ => fun
  | [d1, d2] => { results := [.lit (.bool true)], args := [d1, d2] }
  | _ => none }
def tallyFitsRow : OpenClaim := { program := "ythjkhoblafmibaa", sum := "1f6eef5c21ee6584084aae7d3588c1b6b2f217893d6bafd8107ceaff33441d28", func := "passepartout/passepartoutlaw03.TallyFits", spec := "tallyFits", inPlace := ["sync/atomic.LoadInt64", "sync/atomic.CompareAndSwapInt64"], apart := false }
def TallyFitsSaid : Prop := tallyFitsRow.holds Try.pinned (OpenSpec.ofChange tallyFitsSpec)

/-- ITS FALSE NEIGHBOUR: 'it returns false'. Refute it at one input. -/
def tallyFitsWrong : ChangeSpec := { name := "tallyFits", fn := fun _ => fun
  | [d1, d2] => { results := [.lit (.bool false)], args := [d1, d2] }
  | _ => none }
def TallyFitsWrongFalsely : Prop := tallyFitsRow.holds Try.pinned (OpenSpec.ofChange tallyFitsWrong)

/-- 'passepartoutlaw03.TallyOnce': WHATEVER THE INPUT: true; the input reads as it did. -/
def tallyOnceSpec : ChangeSpec := { name := "tallyOnce", fn := fun _ => fun
  | [d1, d2] => { results := [.lit (.bool true)], args := [d1, d2] }
  | _ => none }
def tallyOnceRow : OpenClaim := { program := "ythjkhoblafmibaa", sum := "1f6eef5c21ee6584084aae7d3588c1b6b2f217893d6bafd8107ceaff33441d28", func := "passepartout/passepartoutlaw03.TallyOnce", spec := "tallyOnce", inPlace := ["sync/atomic.LoadInt64", "sync/atomic.CompareAndSwapInt64", "sync/atomic.LoadUint32", "sync/atomic.StoreUint32", "(*internal/sync.Mutex).Lock", "internal/race.Disable", "sync/atomic.CompareAndSwapInt32", "internal/race.Enable", "internal/race.Acquire", "(*internal/sync.Mutex).lockSlow", "internal/sync.runtime_canSpin", "internal/sync.runtime_doSpin", "internal/sync.throw", "internal/sync.runtime_nanotime", "internal/sync.runtime_SemacquireMutex", "sync/atomic.AddInt32", "(*internal/sync.Mutex).Unlock", "internal/race.ReleaseMerge", "(*internal/sync.Mutex).unlockSlow", "internal/sync.fatal", "internal/sync.runtime_Semrelease"], unfollowed := true, recurses := true, apart := false }
def TallyOnceSaid : Prop := tallyOnceRow.holds Try.pinned (OpenSpec.ofChange tallyOnceSpec)

/-- ITS FALSE NEIGHBOUR: 'it returns false'. Refute it at one input. -/
def tallyOnceWrong : ChangeSpec := { name := "tallyOnce", fn := fun _ => fun
  | [d1, d2] => { results := [.lit (.bool false)], args := [d1, d2] }
  | _ => none }
def TallyOnceWrongFalsely : Prop := tallyOnceRow.holds Try.pinned (OpenSpec.ofChange tallyOnceWrong)

/-- 'passepartoutlaw03.TallyNone': WHATEVER THE INPUT: true; the input reads as it did. -/
def tallyNoneSpec : ChangeSpec := { name := "tallyNone", fn := fun _ => fun
  | [d] => { results := [.lit (.bool true)], args := [d] }
  | _ => none }
def tallyNoneRow : OpenClaim := { program := "ythjkhoblafmibaa", sum := "1f6eef5c21ee6584084aae7d3588c1b6b2f217893d6bafd8107ceaff33441d28", func := "passepartout/passepartoutlaw03.TallyNone", spec := "tallyNone", inPlace := ["sync/atomic.LoadInt64", "sync/atomic.CompareAndSwapInt64", "sync/atomic.StoreUint32", "sync/atomic.LoadUint32", "(*internal/sync.Mutex).Lock", "internal/race.Disable", "sync/atomic.CompareAndSwapInt32", "internal/race.Enable", "internal/race.Acquire", "(*internal/sync.Mutex).lockSlow", "internal/sync.runtime_canSpin", "internal/sync.runtime_doSpin", "internal/sync.throw", "internal/sync.runtime_nanotime", "internal/sync.runtime_SemacquireMutex", "sync/atomic.AddInt32", "(*internal/sync.Mutex).Unlock", "internal/race.ReleaseMerge", "(*internal/sync.Mutex).unlockSlow", "internal/sync.fatal", "internal/sync.runtime_Semrelease"], unfollowed := true, recurses := true, apart := false }
def TallyNoneSaid : Prop := tallyNoneRow.holds Try.pinned (OpenSpec.ofChange tallyNoneSpec)

/-- ITS FALSE NEIGHBOUR: 'it returns false'. Refute it at one input. -/
def tallyNoneWrong : ChangeSpec := { name := "tallyNone", fn := fun _ => fun
  | [d] => { results := [.lit (.bool false)], args := [d] }
  | _ => none }
def TallyNoneWrongFalsely : Prop := tallyNoneRow.holds Try.pinned (OpenSpec.ofChange tallyNoneWrong)

/-- 'passepartoutlaw03.TallyApart': WHATEVER THE INPUT: true; the input reads as it did. -/
def tallyApartSpec : ChangeSpec := { name := "tallyApart", fn := fun _ => fun
  | [d] => { results := [.lit (.bool true)], args := [d] }
  | _ => none }
def tallyApartRow : OpenClaim := { program := "ythjkhoblafmibaa", sum := "1f6eef5c21ee6584084aae7d3588c1b6b2f217893d6bafd8107ceaff33441d28", func := "passepartout/passepartoutlaw03.TallyApart", spec := "tallyApart", inPlace := ["sync/atomic.LoadInt64", "sync/atomic.CompareAndSwapInt64", "sync/atomic.StoreUint32", "sync/atomic.LoadUint32", "(*internal/sync.Mutex).Lock", "internal/race.Disable", "sync/atomic.CompareAndSwapInt32", "internal/race.Enable", "internal/race.Acquire", "(*internal/sync.Mutex).lockSlow", "internal/sync.runtime_canSpin", "internal/sync.runtime_doSpin", "internal/sync.throw", "internal/sync.runtime_nanotime", "internal/sync.runtime_SemacquireMutex", "sync/atomic.AddInt32", "(*internal/sync.Mutex).Unlock", "internal/race.ReleaseMerge", "(*internal/sync.Mutex).unlockSlow", "internal/sync.fatal", "internal/sync.runtime_Semrelease"], unfollowed := true, recurses := true, apart := false }
def TallyApartSaid : Prop := tallyApartRow.holds Try.pinned (OpenSpec.ofChange tallyApartSpec)

/-- ITS FALSE NEIGHBOUR: 'it returns false'. Refute it at one input. -/
def tallyApartWrong : ChangeSpec := { name := "tallyApart", fn := fun _ => fun
  | [d] => { results := [.lit (.bool false)], args := [d] }
  | _ => none }
def TallyApartWrongFalsely : Prop := tallyApartRow.holds Try.pinned (OpenSpec.ofChange tallyApartWrong)

/- THE SECOND FORM. 'bulk': how many values and letters a reading holds, each counted each time it is reached (what is shared counts as often as it is met; a slice's spare places count too). A statement '..UptoSaid' is the law's where the arguments, and the package variables that the reading takes, are together of bulk at most 1048576: NARROWER than '..Said'. Prove '..Said' where nothing that the law and all that it calls make is longer than what came in: it says more and counts as full. Else prove '..UptoSaid'. A law counts once. -/
mutual
def uptoBulk {H : Type} : DataW H → Nat
  | .lit (.string bytes) => bytes.length + 1
  | .lit _ => 1
  | .nil => 1
  | .ptr d => uptoBulk d + 1
  | .slice elems spare => uptoBulkAll elems + uptoBulkAll spare + 1
  | .agg parts => uptoBulkAll parts + 1
  | .iface _ d => uptoBulk d + 1
  | .map entries => uptoBulkEntries entries + 1
  | .held _ => 1
def uptoBulkAll {H : Type} : List (DataW H) → Nat
  | [] => 0
  | d :: r => uptoBulk d + uptoBulkAll r
def uptoBulkEntries {H : Type} : List (Lit × DataW H) → Nat
  | [] => 0
  | x :: r => uptoBulkEntry x + uptoBulkEntries r
def uptoBulkEntry {H : Type} : Lit × DataW H → Nat
  | (.string bytes, d) => bytes.length + uptoBulk d + 1
  | (_, d) => uptoBulk d + 1
 end
def uptoSmall : (H : Type) → List (DataW H) → Bool := fun _ ds => decide (uptoBulkAll ds ≤ 1048576)
def OpenSpec.upto (s : _root_.Go.ChangeSpec) : _root_.Go.OpenSpec := { _root_.Go.OpenSpec.ofChange s with cond := some uptoSmall }

/-- 'passepartoutlaw03.TallySpends', WHERE WHAT IT READS IS OF BULK AT MOST 1048576: true; the input reads as it did. -/
def tallySpendsUptoRow : OpenClaim := { program := "ythjkhoblafmibaa", sum := "1f6eef5c21ee6584084aae7d3588c1b6b2f217893d6bafd8107ceaff33441d28", func := "passepartout/passepartoutlaw03.TallySpends", spec := "tallySpends", inPlace := ["sync/atomic.LoadInt64", "sync/atomic.CompareAndSwapInt64"], apart := false, narrowed := true }
def TallySpendsUptoSaid : Prop := tallySpendsUptoRow.holds Try.pinned (OpenSpec.upto tallySpendsSpec)

/-- 'passepartoutlaw03.TallyOrders', WHERE WHAT IT READS IS OF BULK AT MOST 1048576: true; the input reads as it did. -/
def tallyOrdersUptoRow : OpenClaim := { program := "ythjkhoblafmibaa", sum := "1f6eef5c21ee6584084aae7d3588c1b6b2f217893d6bafd8107ceaff33441d28", func := "passepartout/passepartoutlaw03.TallyOrders", spec := "tallyOrders", inPlace := ["sync/atomic.LoadInt64", "sync/atomic.CompareAndSwapInt64"], apart := false, narrowed := true }
def TallyOrdersUptoSaid : Prop := tallyOrdersUptoRow.holds Try.pinned (OpenSpec.upto tallyOrdersSpec)

/-- 'passepartoutlaw03.TallyFits', WHERE WHAT IT READS IS OF BULK AT MOST 1048576: true; the input reads as it did. -/
def tallyFitsUptoRow : OpenClaim := { program := "ythjkhoblafmibaa", sum := "1f6eef5c21ee6584084aae7d3588c1b6b2f217893d6bafd8107ceaff33441d28", func := "passepartout/passepartoutlaw03.TallyFits", spec := "tallyFits", inPlace := ["sync/atomic.LoadInt64", "sync/atomic.CompareAndSwapInt64"], apart := false, narrowed := true }
def TallyFitsUptoSaid : Prop := tallyFitsUptoRow.holds Try.pinned (OpenSpec.upto tallyFitsSpec)

/-- 'passepartoutlaw03.TallyOnce', WHERE WHAT IT READS IS OF BULK AT MOST 1048576: true; the input reads as it did. -/
def tallyOnceUptoRow : OpenClaim := { program := "ythjkhoblafmibaa", sum := "1f6eef5c21ee6584084aae7d3588c1b6b2f217893d6bafd8107ceaff33441d28", func := "passepartout/passepartoutlaw03.TallyOnce", spec := "tallyOnce", inPlace := ["sync/atomic.LoadInt64", "sync/atomic.CompareAndSwapInt64", "sync/atomic.LoadUint32", "sync/atomic.StoreUint32", "(*internal/sync.Mutex).Lock", "internal/race.Disable", "sync/atomic.CompareAndSwapInt32", "internal/race.Enable", "internal/race.Acquire", "(*internal/sync.Mutex).lockSlow", "internal/sync.runtime_canSpin", "internal/sync.runtime_doSpin", "internal/sync.throw", "internal/sync.runtime_nanotime", "internal/sync.runtime_SemacquireMutex", "sync/atomic.AddInt32", "(*internal/sync.Mutex).Unlock", "internal/race.ReleaseMerge", "(*internal/sync.Mutex).unlockSlow", "internal/sync.fatal", "internal/sync.runtime_Semrelease"], unfollowed := true, recurses := true, apart := false, narrowed := true }
def TallyOnceUptoSaid : Prop := tallyOnceUptoRow.holds Try.pinned (OpenSpec.upto tallyOnceSpec)

/-- 'passepartoutlaw03.TallyNone', WHERE WHAT IT READS IS OF BULK AT MOST 1048576: true; the input reads as it did. -/
def tallyNoneUptoRow : OpenClaim := { program := "ythjkhoblafmibaa", sum := "1f6eef5c21ee6584084aae7d3588c1b6b2f217893d6bafd8107ceaff33441d28", func := "passepartout/passepartoutlaw03.TallyNone", spec := "tallyNone", inPlace := ["sync/atomic.LoadInt64", "sync/atomic.CompareAndSwapInt64", "sync/atomic.StoreUint32", "sync/atomic.LoadUint32", "(*internal/sync.Mutex).Lock", "internal/race.Disable", "sync/atomic.CompareAndSwapInt32", "internal/race.Enable", "internal/race.Acquire", "(*internal/sync.Mutex).lockSlow", "internal/sync.runtime_canSpin", "internal/sync.runtime_doSpin", "internal/sync.throw", "internal/sync.runtime_nanotime", "internal/sync.runtime_SemacquireMutex", "sync/atomic.AddInt32", "(*internal/sync.Mutex).Unlock", "internal/race.ReleaseMerge", "(*internal/sync.Mutex).unlockSlow", "internal/sync.fatal", "internal/sync.runtime_Semrelease"], unfollowed := true, recurses := true, apart := false, narrowed := true }
def TallyNoneUptoSaid : Prop := tallyNoneUptoRow.holds Try.pinned (OpenSpec.upto tallyNoneSpec)

/-- 'passepartoutlaw03.TallyApart', WHERE WHAT IT READS IS OF BULK AT MOST 1048576: true; the input reads as it did. -/
def tallyApartUptoRow : OpenClaim := { program := "ythjkhoblafmibaa", sum := "1f6eef5c21ee6584084aae7d3588c1b6b2f217893d6bafd8107ceaff33441d28", func := "passepartout/passepartoutlaw03.TallyApart", spec := "tallyApart", inPlace := ["sync/atomic.LoadInt64", "sync/atomic.CompareAndSwapInt64", "sync/atomic.StoreUint32", "sync/atomic.LoadUint32", "(*internal/sync.Mutex).Lock", "internal/race.Disable", "sync/atomic.CompareAndSwapInt32", "internal/race.Enable", "internal/race.Acquire", "(*internal/sync.Mutex).lockSlow", "internal/sync.runtime_canSpin", "internal/sync.runtime_doSpin", "internal/sync.throw", "internal/sync.runtime_nanotime", "internal/sync.runtime_SemacquireMutex", "sync/atomic.AddInt32", "(*internal/sync.Mutex).Unlock", "internal/race.ReleaseMerge", "(*internal/sync.Mutex).unlockSlow", "internal/sync.fatal", "internal/sync.runtime_Semrelease"], unfollowed := true, recurses := true, apart := false, narrowed := true }
def TallyApartUptoSaid : Prop := tallyApartUptoRow.holds Try.pinned (OpenSpec.upto tallyApartSpec)

end Rows
end Go.Proofs.Ythjkhoblafmibaa
