/-
  NARROWER THAN 'FOR EVERY INPUT', by the rows' own cells (each row's printed sentence says how): EvalSwaps: laid · EvalRings: laid.
  DERIVED. THE GIVEN ROWS OF THIS SEAT. 2 by the template 'for every input the law returns true; each argument reads behind the call as it read before'; 0 by the template 'total and deterministic' (their statements: YtgbgbmdiomhfiaaGreatDoorTotals.lean).
  GIVEN WITH THE SEED: the statements are not yours to turn. If you find one false, say at which input.
  Laid BY PROGRAM, IN A SANDBOX (cutbox-rows.mjs): the forced cells as the released guide's own fill.sh prints them over the translation a2cecf1f2fb3912d… (all of the seat's roots in one cut). By AI agents, Wed Nov 11 2026. No macro, syntax, notation, axiom, sorry.
-/
import Derived.Test.YtgbgbmdiomhfiaaGreatDoorChecked
import GoSem.PinnedTables
import GoSem.Claim
import GoSem.ClaimJoined
import GoSem.ClaimMapViews
import Derived.JoinedTies
import Derived.KernelRfl
namespace Go.Proofs.YtgbgbmdiomhfiaaGreatDoor
/- THE CELL 'sum', in the pinned program and in every row, IS THE sha256 OF THE DUMP (.gsa) THAT YtgbgbmdiomhfiaaGreatDoorProg.lean LOADS. Nothing in Lean hashes anything: it is a label: what it is worth is what the hold of that sum in a sandbox is worth. -/
noncomputable def Tryz.pinned : Pinned := { name := "ytgbgbmdiomhfiaagreatdoor", sum := "a2cecf1f2fb3912dc3f3edeebadcdfd4842c953cc1e6849443b46e5c6255ddf2", checked := Tryz.checked }
namespace Rows
def none {H : Type} : Left H := { results := [], args := [] }

/- WHAT THE LISTED PACKAGE-LEVEL VARIABLES READ AS WHEN THE CALL BEGINS. Each datum BY PROGRAM (the guide's laid-datum.mjs) off the statement by which the dump's own 'gosem.cut.vars' lays the variable. In a bare row this is a premise. The card (YtgbgbmdiomhfiaaGreatDoorCards.lean) ties it to the program's text. -/
def laid_math_bits_deBruijn64tab {H : Type} : DataW H := .agg [.lit (.int .u8 0), .lit (.int .u8 1), .lit (.int .u8 56), .lit (.int .u8 2), .lit (.int .u8 57), .lit (.int .u8 49), .lit (.int .u8 28), .lit (.int .u8 3), .lit (.int .u8 61), .lit (.int .u8 58), .lit (.int .u8 42), .lit (.int .u8 50), .lit (.int .u8 38), .lit (.int .u8 29), .lit (.int .u8 17), .lit (.int .u8 4), .lit (.int .u8 62), .lit (.int .u8 47), .lit (.int .u8 59), .lit (.int .u8 36), .lit (.int .u8 45), .lit (.int .u8 43), .lit (.int .u8 51), .lit (.int .u8 22), .lit (.int .u8 53), .lit (.int .u8 39), .lit (.int .u8 33), .lit (.int .u8 30), .lit (.int .u8 24), .lit (.int .u8 18), .lit (.int .u8 12), .lit (.int .u8 5), .lit (.int .u8 63), .lit (.int .u8 55), .lit (.int .u8 48), .lit (.int .u8 27), .lit (.int .u8 60), .lit (.int .u8 41), .lit (.int .u8 37), .lit (.int .u8 16), .lit (.int .u8 46), .lit (.int .u8 35), .lit (.int .u8 44), .lit (.int .u8 21), .lit (.int .u8 52), .lit (.int .u8 32), .lit (.int .u8 23), .lit (.int .u8 11), .lit (.int .u8 54), .lit (.int .u8 26), .lit (.int .u8 40), .lit (.int .u8 15), .lit (.int .u8 34), .lit (.int .u8 20), .lit (.int .u8 31), .lit (.int .u8 10), .lit (.int .u8 25), .lit (.int .u8 14), .lit (.int .u8 19), .lit (.int .u8 9), .lit (.int .u8 13), .lit (.int .u8 8), .lit (.int .u8 7), .lit (.int .u8 6)]
def laid_unicode_utf8_acceptRanges {H : Type} : DataW H := .agg [.agg [.lit (.int .u8 128), .lit (.int .u8 191)], .agg [.lit (.int .u8 160), .lit (.int .u8 191)], .agg [.lit (.int .u8 128), .lit (.int .u8 159)], .agg [.lit (.int .u8 144), .lit (.int .u8 191)], .agg [.lit (.int .u8 128), .lit (.int .u8 143)], .agg [.lit (.int .u8 0), .lit (.int .u8 0)], .agg [.lit (.int .u8 0), .lit (.int .u8 0)], .agg [.lit (.int .u8 0), .lit (.int .u8 0)], .agg [.lit (.int .u8 0), .lit (.int .u8 0)], .agg [.lit (.int .u8 0), .lit (.int .u8 0)], .agg [.lit (.int .u8 0), .lit (.int .u8 0)], .agg [.lit (.int .u8 0), .lit (.int .u8 0)], .agg [.lit (.int .u8 0), .lit (.int .u8 0)], .agg [.lit (.int .u8 0), .lit (.int .u8 0)], .agg [.lit (.int .u8 0), .lit (.int .u8 0)], .agg [.lit (.int .u8 0), .lit (.int .u8 0)]]
def laid_overdrive_api_ErrMany {H : Type} : DataW H := .iface "*errors.errorString" (.ptr (.agg [.lit (.string [116, 111, 111, 32, 109, 97, 110, 121])]))
def laid_overdrive_api_ErrKind {H : Type} : DataW H := .iface "*errors.errorString" (.ptr (.agg [.lit (.string [110, 111, 32, 115, 117, 99, 104, 32, 107, 105, 110, 100])]))
def laid_overdrive_api_ErrIndex {H : Type} : DataW H := .iface "*errors.errorString" (.ptr (.agg [.lit (.string [110, 111, 32, 115, 117, 99, 104, 32, 116, 104, 105, 110, 103])]))
def laid_overdrive_api_ErrTarget {H : Type} : DataW H := .iface "*errors.errorString" (.ptr (.agg [.lit (.string [110, 111, 32, 112, 108, 97, 99, 101, 32, 116, 111, 32, 106, 117, 109, 112, 32, 116, 111])]))
def laid_overdrive_api_ErrStack {H : Type} : DataW H := .iface "*errors.errorString" (.ptr (.agg [.lit (.string [116, 111, 111, 32, 108, 105, 116, 116, 108, 101, 32, 111, 114, 32, 116, 111, 111, 32, 109, 117, 99, 104, 32, 111, 110, 32, 116, 104, 101, 32, 115, 116, 97, 99, 107])]))
def laid_overdrive_api_ErrMerge {H : Type} : DataW H := .iface "*errors.errorString" (.ptr (.agg [.lit (.string [116, 119, 111, 32, 119, 97, 121, 115, 32, 116, 104, 97, 116, 32, 100, 111, 32, 110, 111, 116, 32, 97, 103, 114, 101, 101])]))
def laid_overdrive_api_ErrFall {H : Type} : DataW H := .iface "*errors.errorString" (.ptr (.agg [.lit (.string [105, 116, 32, 102, 97, 108, 108, 115, 32, 111, 102, 102, 32, 116, 104, 101, 32, 101, 110, 100])]))
def laid_overdrive_api_ErrLimit {H : Type} : DataW H := .iface "*errors.errorString" (.ptr (.agg [.lit (.string [110, 111, 32, 115, 117, 99, 104, 32, 108, 105, 109, 105, 116])]))
def laid_overdrive_api_ErrNode {H : Type} : DataW H := .iface "*errors.errorString" (.ptr (.agg [.lit (.string [97, 32, 110, 111, 100, 101, 32, 116, 104, 97, 116, 32, 109, 97, 121, 32, 110, 111, 116, 32, 98, 101])]))
def laid_overdrive_api_ErrState {H : Type} : DataW H := .iface "*errors.errorString" (.ptr (.agg [.lit (.string [97, 32, 115, 116, 97, 116, 101, 32, 116, 104, 97, 116, 32, 109, 97, 121, 32, 110, 111, 116, 32, 98, 101])]))
/-- One of Go's own tables, pinned by name: the form's constant. -/
def laid_unicode_utf8_first : DataW Unit := Go.Pinned.utf8First

/-- 'overdrivelaw17.EvalSwaps': WHATEVER THE INPUT: true; the input reads as it did. -/
def evalSwapsSpec : ChangeSpec := { name := "evalSwaps", fn := fun _ => fun
  | [d1, d2, d3, d4] => { results := [.lit (.bool true)], args := [d1, d2, d3, d4] }
  | _ => none }
def evalSwapsRow : OpenClaim := { program := "ytgbgbmdiomhfiaagreatdoor", sum := "a2cecf1f2fb3912dc3f3edeebadcdfd4842c953cc1e6849443b46e5c6255ddf2", func := "overdrive/overdrivelaw17.EvalSwaps", spec := "evalSwaps", inPlace := ["internal/bytealg.IndexByteString", "internal/bytealg.IndexString", "sync/atomic.AddInt64", "sync/atomic.LoadUint32", "(*internal/sync.Mutex).Lock", "internal/race.Disable", "sync/atomic.CompareAndSwapInt32", "internal/race.Enable", "internal/race.Acquire", "(*internal/sync.Mutex).lockSlow", "internal/sync.runtime_canSpin", "internal/sync.runtime_doSpin", "internal/sync.throw", "internal/sync.runtime_nanotime", "internal/sync.runtime_SemacquireMutex", "sync/atomic.AddInt32", "(*internal/sync.Mutex).Unlock", "internal/race.ReleaseMerge", "(*internal/sync.Mutex).unlockSlow", "internal/sync.fatal", "internal/sync.runtime_Semrelease", "sync/atomic.StoreUint32"], unfollowed := true, recurses := true, named := ["overdrive/api.ErrMany", "overdrive/api.ErrKind", "unicode/utf8.first", "unicode/utf8.acceptRanges", "overdrive/api.ErrTarget", "overdrive/api.ErrIndex", "overdrive/api.ErrFall", "overdrive/api.ErrMerge", "overdrive/api.ErrStack", "overdrive/api.ErrLimit", "overdrive/api.ErrNode", "overdrive/api.ErrState", "math/bits.deBruijn64tab", "internal/bytealg.MaxLen"], apart := false, laid := [("math/bits.deBruijn64tab", laid_math_bits_deBruijn64tab), ("unicode/utf8.acceptRanges", laid_unicode_utf8_acceptRanges), ("overdrive/api.ErrMany", laid_overdrive_api_ErrMany), ("overdrive/api.ErrKind", laid_overdrive_api_ErrKind), ("overdrive/api.ErrIndex", laid_overdrive_api_ErrIndex), ("overdrive/api.ErrTarget", laid_overdrive_api_ErrTarget), ("overdrive/api.ErrStack", laid_overdrive_api_ErrStack), ("overdrive/api.ErrMerge", laid_overdrive_api_ErrMerge), ("overdrive/api.ErrFall", laid_overdrive_api_ErrFall), ("overdrive/api.ErrLimit", laid_overdrive_api_ErrLimit), ("overdrive/api.ErrNode", laid_overdrive_api_ErrNode), ("overdrive/api.ErrState", laid_overdrive_api_ErrState), ("unicode/utf8.first", laid_unicode_utf8_first)] }
def EvalSwapsSaid : Prop := evalSwapsRow.holds Tryz.pinned (OpenSpec.ofChange evalSwapsSpec)

/-- ITS FALSE NEIGHBOUR: 'it returns false'. Refute it at one input. -/
def evalSwapsWrong : ChangeSpec := { name := "evalSwaps", fn := fun _ => fun
  | [d1, d2, d3, d4] => { results := [.lit (.bool false)], args := [d1, d2, d3, d4] }
  | _ => none }
def EvalSwapsWrongFalsely : Prop := evalSwapsRow.holds Tryz.pinned (OpenSpec.ofChange evalSwapsWrong)

/-- 'overdrivelaw17.EvalRings': WHATEVER THE INPUT: true; the input reads as it did. -/
def evalRingsSpec : ChangeSpec := { name := "evalRings", fn := fun _ => fun
  | [d1, d2, d3] => { results := [.lit (.bool true)], args := [d1, d2, d3] }
  | _ => none }
def evalRingsRow : OpenClaim := { program := "ytgbgbmdiomhfiaagreatdoor", sum := "a2cecf1f2fb3912dc3f3edeebadcdfd4842c953cc1e6849443b46e5c6255ddf2", func := "overdrive/overdrivelaw17.EvalRings", spec := "evalRings", inPlace := ["internal/bytealg.IndexByteString", "internal/bytealg.IndexString", "sync/atomic.AddInt64", "sync/atomic.LoadUint32", "(*internal/sync.Mutex).Lock", "internal/race.Disable", "sync/atomic.CompareAndSwapInt32", "internal/race.Enable", "internal/race.Acquire", "(*internal/sync.Mutex).lockSlow", "internal/sync.runtime_canSpin", "internal/sync.runtime_doSpin", "internal/sync.throw", "internal/sync.runtime_nanotime", "internal/sync.runtime_SemacquireMutex", "sync/atomic.AddInt32", "(*internal/sync.Mutex).Unlock", "internal/race.ReleaseMerge", "(*internal/sync.Mutex).unlockSlow", "internal/sync.fatal", "internal/sync.runtime_Semrelease", "sync/atomic.StoreUint32"], unfollowed := true, recurses := true, named := ["overdrive/api.ErrMany", "overdrive/api.ErrKind", "unicode/utf8.first", "unicode/utf8.acceptRanges", "overdrive/api.ErrTarget", "overdrive/api.ErrIndex", "overdrive/api.ErrFall", "overdrive/api.ErrMerge", "overdrive/api.ErrStack", "overdrive/api.ErrLimit", "overdrive/api.ErrNode", "overdrive/api.ErrState", "math/bits.deBruijn64tab", "internal/bytealg.MaxLen"], apart := false, laid := [("math/bits.deBruijn64tab", laid_math_bits_deBruijn64tab), ("unicode/utf8.acceptRanges", laid_unicode_utf8_acceptRanges), ("overdrive/api.ErrMany", laid_overdrive_api_ErrMany), ("overdrive/api.ErrKind", laid_overdrive_api_ErrKind), ("overdrive/api.ErrIndex", laid_overdrive_api_ErrIndex), ("overdrive/api.ErrTarget", laid_overdrive_api_ErrTarget), ("overdrive/api.ErrStack", laid_overdrive_api_ErrStack), ("overdrive/api.ErrMerge", laid_overdrive_api_ErrMerge), ("overdrive/api.ErrFall", laid_overdrive_api_ErrFall), ("overdrive/api.ErrLimit", laid_overdrive_api_ErrLimit), ("overdrive/api.ErrNode", laid_overdrive_api_ErrNode), ("overdrive/api.ErrState", laid_overdrive_api_ErrState), ("unicode/utf8.first", laid_unicode_utf8_first)] }
def EvalRingsSaid : Prop := evalRingsRow.holds Tryz.pinned (OpenSpec.ofChange evalRingsSpec)

/-- ITS FALSE NEIGHBOUR: 'it returns false'. Refute it at one input. -/
def evalRingsWrong : ChangeSpec := { name := "evalRings", fn := fun _ => fun
  | [d1, d2, d3] => { results := [.lit (.bool false)], args := [d1, d2, d3] }
  | _ => none }
def EvalRingsWrongFalsely : Prop := evalRingsRow.holds Tryz.pinned (OpenSpec.ofChange evalRingsWrong)

/- THE SECOND FORM. 'bulk': how many values and letters a reading holds, each counted each time it is reached (what is shared counts as often as it is met; a slice's spare places count too). A statement '..UptoSaid' is the law's where the arguments, and the package variables that the reading takes, are together of bulk at most 1048576: NARROWER than '..Said'. Prove '..Said' where nothing that the law and all that it calls make is longer than what came in: it says more and counts as full. Else prove '..UptoSaid'. A law counts once. -/
mutual
def uptoBulk {H : Type} : DataW H → Nat
  | .lit (.string bytes) => bytes.length + 1
  | .lit _ => 1
  | .nil => 1
  | .ptr d => uptoBulk d + 1
  | .slice elems spare => uptoBulkAll elems + uptoBulkAll spare + 1
  | .agg parts => uptoBulkAll parts + 1
  | .iface _ d => uptoBulk d + 1
  | .map entries => uptoBulkEntries entries + 1
  | .held _ => 1
def uptoBulkAll {H : Type} : List (DataW H) → Nat
  | [] => 0
  | d :: r => uptoBulk d + uptoBulkAll r
def uptoBulkEntries {H : Type} : List (Lit × DataW H) → Nat
  | [] => 0
  | x :: r => uptoBulkEntry x + uptoBulkEntries r
def uptoBulkEntry {H : Type} : Lit × DataW H → Nat
  | (.string bytes, d) => bytes.length + uptoBulk d + 1
  | (_, d) => uptoBulk d + 1
 end
def uptoSmall : (H : Type) → List (DataW H) → Bool := fun _ ds => decide (uptoBulkAll ds ≤ 1048576)
def OpenSpec.upto (s : _root_.Go.ChangeSpec) : _root_.Go.OpenSpec := { _root_.Go.OpenSpec.ofChange s with cond := some uptoSmall }

/-- 'overdrivelaw17.EvalSwaps', WHERE WHAT IT READS IS OF BULK AT MOST 1048576: true; the input reads as it did. -/
def evalSwapsUptoRow : OpenClaim := { program := "ytgbgbmdiomhfiaagreatdoor", sum := "a2cecf1f2fb3912dc3f3edeebadcdfd4842c953cc1e6849443b46e5c6255ddf2", func := "overdrive/overdrivelaw17.EvalSwaps", spec := "evalSwaps", inPlace := ["internal/bytealg.IndexByteString", "internal/bytealg.IndexString", "sync/atomic.AddInt64", "sync/atomic.LoadUint32", "(*internal/sync.Mutex).Lock", "internal/race.Disable", "sync/atomic.CompareAndSwapInt32", "internal/race.Enable", "internal/race.Acquire", "(*internal/sync.Mutex).lockSlow", "internal/sync.runtime_canSpin", "internal/sync.runtime_doSpin", "internal/sync.throw", "internal/sync.runtime_nanotime", "internal/sync.runtime_SemacquireMutex", "sync/atomic.AddInt32", "(*internal/sync.Mutex).Unlock", "internal/race.ReleaseMerge", "(*internal/sync.Mutex).unlockSlow", "internal/sync.fatal", "internal/sync.runtime_Semrelease", "sync/atomic.StoreUint32"], unfollowed := true, recurses := true, named := ["overdrive/api.ErrMany", "overdrive/api.ErrKind", "unicode/utf8.first", "unicode/utf8.acceptRanges", "overdrive/api.ErrTarget", "overdrive/api.ErrIndex", "overdrive/api.ErrFall", "overdrive/api.ErrMerge", "overdrive/api.ErrStack", "overdrive/api.ErrLimit", "overdrive/api.ErrNode", "overdrive/api.ErrState", "math/bits.deBruijn64tab", "internal/bytealg.MaxLen"], apart := false, laid := [("math/bits.deBruijn64tab", laid_math_bits_deBruijn64tab), ("unicode/utf8.acceptRanges", laid_unicode_utf8_acceptRanges), ("overdrive/api.ErrMany", laid_overdrive_api_ErrMany), ("overdrive/api.ErrKind", laid_overdrive_api_ErrKind), ("overdrive/api.ErrIndex", laid_overdrive_api_ErrIndex), ("overdrive/api.ErrTarget", laid_overdrive_api_ErrTarget), ("overdrive/api.ErrStack", laid_overdrive_api_ErrStack), ("overdrive/api.ErrMerge", laid_overdrive_api_ErrMerge), ("overdrive/api.ErrFall", laid_overdrive_api_ErrFall), ("overdrive/api.ErrLimit", laid_overdrive_api_ErrLimit), ("overdrive/api.ErrNode", laid_overdrive_api_ErrNode), ("overdrive/api.ErrState", laid_overdrive_api_ErrState), ("unicode/utf8.first", laid_unicode_utf8_first)], narrowed := true }
def EvalSwapsUptoSaid : Prop := evalSwapsUptoRow.holds Tryz.pinned (OpenSpec.upto evalSwapsSpec)

/-- 'overdrivelaw17.EvalRings', WHERE WHAT IT READS IS OF BULK AT MOST 1048576: true; the input reads as it did. -/
def evalRingsUptoRow : OpenClaim := { program := "ytgbgbmdiomhfiaagreatdoor", sum := "a2cecf1f2fb3912dc3f3edeebadcdfd4842c953cc1e6849443b46e5c6255ddf2", func := "overdrive/overdrivelaw17.EvalRings", spec := "evalRings", inPlace := ["internal/bytealg.IndexByteString", "internal/bytealg.IndexString", "sync/atomic.AddInt64", "sync/atomic.LoadUint32", "(*internal/sync.Mutex).Lock", "internal/race.Disable", "sync/atomic.CompareAndSwapInt32", "internal/race.Enable", "internal/race.Acquire", "(*internal/sync.Mutex).lockSlow", "internal/sync.runtime_canSpin", "internal/sync.runtime_doSpin", "internal/sync.throw", "internal/sync.runtime_nanotime", "internal/sync.runtime_SemacquireMutex", "sync/atomic.AddInt32", "(*internal/sync.Mutex).Unlock", "internal/race.ReleaseMerge", "(*internal/sync.Mutex).unlockSlow", "internal/sync.fatal", "internal/sync.runtime_Semrelease", "sync/atomic.StoreUint32"], unfollowed := true, recurses := true, named := ["overdrive/api.ErrMany", "overdrive/api.ErrKind", "unicode/utf8.first", "unicode/utf8.acceptRanges", "overdrive/api.ErrTarget", "overdrive/api.ErrIndex", "overdrive/api.ErrFall", "overdrive/api.ErrMerge", "overdrive/api.ErrStack", "overdrive/api.ErrLimit", "overdrive/api.ErrNode", "overdrive/api.ErrState", "math/bits.deBruijn64tab", "internal/bytealg.MaxLen"], apart := false, laid := [("math/bits.deBruijn64tab", laid_math_bits_deBruijn64tab), ("unicode/utf8.acceptRanges", laid_unicode_utf8_acceptRanges), ("overdrive/api.ErrMany", laid_overdrive_api_ErrMany), ("overdrive/api.ErrKind", laid_overdrive_api_ErrKind), ("overdrive/api.ErrIndex", laid_overdrive_api_ErrIndex), ("overdrive/api.ErrTarget", laid_overdrive_api_ErrTarget), ("overdrive/api.ErrStack", laid_overdrive_api_ErrStack), ("overdrive/api.ErrMerge", laid_overdrive_api_ErrMerge), ("overdrive/api.ErrFall", laid_overdrive_api_ErrFall), ("overdrive/api.ErrLimit", laid_overdrive_api_ErrLimit), ("overdrive/api.ErrNode", laid_overdrive_api_ErrNode), ("overdrive/api.ErrState", laid_overdrive_api_ErrState), ("unicode/utf8.first", laid_unicode_utf8_first)], narrowed := true }
def EvalRingsUptoSaid : Prop := evalRingsUptoRow.holds Tryz.pinned (OpenSpec.upto evalRingsSpec)

end Rows
end Go.Proofs.YtgbgbmdiomhfiaaGreatDoor
