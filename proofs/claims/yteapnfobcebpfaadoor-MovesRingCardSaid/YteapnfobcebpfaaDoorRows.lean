/-
  NARROWER THAN 'FOR EVERY INPUT', by the rows' own cells (each row's printed sentence says how): MovesAtOnce: laid · MovesRing: laid · MovesNone: laid · MovesTree: laid.
  DERIVED. THE GIVEN ROWS OF THIS SEAT. 4 by the template 'for every input the law returns true; each argument reads behind the call as it read before'; 0 by the template 'total and deterministic' (their statements: YteapnfobcebpfaaDoorTotals.lean).
  GIVEN WITH THE SEED: the statements are not yours to turn. If you find one false, say at which input.
  Laid BY PROGRAM, IN A SANDBOX (cutbox-rows.mjs): the forced cells as the released guide's own fill.sh prints them over the translation 91a9c59ec4d07a67… (all of the seat's roots in one cut). By AI agents, Wed Nov 11 2026. No macro, syntax, notation, axiom, sorry.
-/
import Derived.Test.YteapnfobcebpfaaDoorChecked
import GoSem.Claim
import GoSem.ClaimJoined
import GoSem.ClaimMapViews
import Derived.JoinedTies
import Derived.KernelRfl
namespace Go.Proofs.YteapnfobcebpfaaDoor
/- THE CELL 'sum', in the pinned program and in every row, IS THE sha256 OF THE DUMP (.gsa) THAT YteapnfobcebpfaaDoorProg.lean LOADS. Nothing in Lean hashes anything: it is a label: what it is worth is what the hold of that sum in a sandbox is worth. -/
noncomputable def Tryd.pinned : Pinned := { name := "yteapnfobcebpfaadoor", sum := "91a9c59ec4d07a678d676673748dacb9ccd5d83bf1848917cc8446b987a9804f", checked := Tryd.checked }
namespace Rows
def none {H : Type} : Left H := { results := [], args := [] }

/- WHAT THE LISTED PACKAGE-LEVEL VARIABLES READ AS WHEN THE CALL BEGINS. Each datum BY PROGRAM (the guide's laid-datum.mjs) off the statement by which the dump's own 'gosem.cut.vars' lays the variable. In a bare row this is a premise. The card (YteapnfobcebpfaaDoorCards.lean) ties it to the program's text. -/
def laid_overdrive_api_ErrMany {H : Type} : DataW H := .iface "*errors.errorString" (.ptr (.agg [.lit (.string [116, 111, 111, 32, 109, 97, 110, 121])]))
def laid_overdrive_api_ErrKind {H : Type} : DataW H := .iface "*errors.errorString" (.ptr (.agg [.lit (.string [110, 111, 32, 115, 117, 99, 104, 32, 107, 105, 110, 100])]))
def laid_overdrive_api_ErrIndex {H : Type} : DataW H := .iface "*errors.errorString" (.ptr (.agg [.lit (.string [110, 111, 32, 115, 117, 99, 104, 32, 116, 104, 105, 110, 103])]))
def laid_overdrive_api_ErrTarget {H : Type} : DataW H := .iface "*errors.errorString" (.ptr (.agg [.lit (.string [110, 111, 32, 112, 108, 97, 99, 101, 32, 116, 111, 32, 106, 117, 109, 112, 32, 116, 111])]))
def laid_overdrive_api_ErrShape {H : Type} : DataW H := .iface "*errors.errorString" (.ptr (.agg [.lit (.string [110, 111, 116, 32, 116, 104, 101, 32, 115, 104, 97, 112, 101, 32, 116, 104, 97, 116, 32, 105, 116, 32, 104, 97, 115, 32, 116, 111, 32, 104, 97, 118, 101])]))
def laid_overdrive_api_ErrEnd {H : Type} : DataW H := .iface "*errors.errorString" (.ptr (.agg [.lit (.string [105, 116, 32, 101, 110, 100, 115, 32, 116, 111, 111, 32, 101, 97, 114, 108, 121])]))
def laid_overdrive_api_ErrByte {H : Type} : DataW H := .iface "*errors.errorString" (.ptr (.agg [.lit (.string [97, 32, 98, 121, 116, 101, 32, 116, 104, 97, 116, 32, 100, 111, 101, 115, 32, 110, 111, 116, 32, 102, 105, 116])]))
def laid_overdrive_api_ErrStack {H : Type} : DataW H := .iface "*errors.errorString" (.ptr (.agg [.lit (.string [116, 111, 111, 32, 108, 105, 116, 116, 108, 101, 32, 111, 114, 32, 116, 111, 111, 32, 109, 117, 99, 104, 32, 111, 110, 32, 116, 104, 101, 32, 115, 116, 97, 99, 107])]))
def laid_overdrive_api_ErrMerge {H : Type} : DataW H := .iface "*errors.errorString" (.ptr (.agg [.lit (.string [116, 119, 111, 32, 119, 97, 121, 115, 32, 116, 104, 97, 116, 32, 100, 111, 32, 110, 111, 116, 32, 97, 103, 114, 101, 101])]))
def laid_overdrive_api_ErrFall {H : Type} : DataW H := .iface "*errors.errorString" (.ptr (.agg [.lit (.string [105, 116, 32, 102, 97, 108, 108, 115, 32, 111, 102, 102, 32, 116, 104, 101, 32, 101, 110, 100])]))
def laid_overdrive_api_ErrLimit {H : Type} : DataW H := .iface "*errors.errorString" (.ptr (.agg [.lit (.string [110, 111, 32, 115, 117, 99, 104, 32, 108, 105, 109, 105, 116])]))
def laid_overdrive_api_ErrNode {H : Type} : DataW H := .iface "*errors.errorString" (.ptr (.agg [.lit (.string [97, 32, 110, 111, 100, 101, 32, 116, 104, 97, 116, 32, 109, 97, 121, 32, 110, 111, 116, 32, 98, 101])]))
def laid_overdrive_api_ErrState {H : Type} : DataW H := .iface "*errors.errorString" (.ptr (.agg [.lit (.string [97, 32, 115, 116, 97, 116, 101, 32, 116, 104, 97, 116, 32, 109, 97, 121, 32, 110, 111, 116, 32, 98, 101])]))
def laid_overdrive_api_ErrRoom {H : Type} : DataW H := .iface "*errors.errorString" (.ptr (.agg [.lit (.string [110, 111, 32, 114, 111, 111, 109])]))

/-- 'overdrivelaw23.MovesAtOnce': WHATEVER THE INPUT: true; the input reads as it did. -/
def movesAtOnceSpec : ChangeSpec := { name := "movesAtOnce", fn := fun _ => fun
  | [d1, d2, d3] => { results := [.lit (.bool true)], args := [d1, d2, d3] }
  | _ => none }
def movesAtOnceRow : OpenClaim := { program := "yteapnfobcebpfaadoor", sum := "91a9c59ec4d07a678d676673748dacb9ccd5d83bf1848917cc8446b987a9804f", func := "overdrive/overdrivelaw23.MovesAtOnce", spec := "movesAtOnce", unfollowed := true, recurses := true, named := ["overdrive/api.ErrIndex", "overdrive/api.ErrShape", "overdrive/api.ErrMany", "overdrive/api.ErrKind", "overdrive/api.ErrTarget", "overdrive/api.ErrEnd", "overdrive/api.ErrByte", "overdrive/api.ErrStack", "overdrive/api.ErrMerge", "overdrive/api.ErrFall", "overdrive/api.ErrLimit", "overdrive/api.ErrNode", "overdrive/api.ErrState", "overdrive/api.ErrRoom"], apart := false, laid := [("overdrive/api.ErrMany", laid_overdrive_api_ErrMany), ("overdrive/api.ErrKind", laid_overdrive_api_ErrKind), ("overdrive/api.ErrIndex", laid_overdrive_api_ErrIndex), ("overdrive/api.ErrTarget", laid_overdrive_api_ErrTarget), ("overdrive/api.ErrShape", laid_overdrive_api_ErrShape), ("overdrive/api.ErrEnd", laid_overdrive_api_ErrEnd), ("overdrive/api.ErrByte", laid_overdrive_api_ErrByte), ("overdrive/api.ErrStack", laid_overdrive_api_ErrStack), ("overdrive/api.ErrMerge", laid_overdrive_api_ErrMerge), ("overdrive/api.ErrFall", laid_overdrive_api_ErrFall), ("overdrive/api.ErrLimit", laid_overdrive_api_ErrLimit), ("overdrive/api.ErrNode", laid_overdrive_api_ErrNode), ("overdrive/api.ErrState", laid_overdrive_api_ErrState), ("overdrive/api.ErrRoom", laid_overdrive_api_ErrRoom)] }
def MovesAtOnceSaid : Prop := movesAtOnceRow.holds Tryd.pinned (OpenSpec.ofChange movesAtOnceSpec)

/-- ITS FALSE NEIGHBOUR: 'it returns false'. Refute it at one input. -/
def movesAtOnceWrong : ChangeSpec := { name := "movesAtOnce", fn := fun _ => fun
  | [d1, d2, d3] => { results := [.lit (.bool false)], args := [d1, d2, d3] }
  | _ => none }
def MovesAtOnceWrongFalsely : Prop := movesAtOnceRow.holds Tryd.pinned (OpenSpec.ofChange movesAtOnceWrong)

/-- 'overdrivelaw23.MovesRing': WHATEVER THE INPUT: true; the input reads as it did. -/
def movesRingSpec : ChangeSpec := { name := "movesRing", fn := fun _ => fun
  | [d1, d2, d3] => { results := [.lit (.bool true)], args := [d1, d2, d3] }
  | _ => none }
def movesRingRow : OpenClaim := { program := "yteapnfobcebpfaadoor", sum := "91a9c59ec4d07a678d676673748dacb9ccd5d83bf1848917cc8446b987a9804f", func := "overdrive/overdrivelaw23.MovesRing", spec := "movesRing", unfollowed := true, recurses := true, named := ["overdrive/api.ErrIndex", "overdrive/api.ErrShape", "overdrive/api.ErrMany"], apart := false, laid := [("overdrive/api.ErrMany", laid_overdrive_api_ErrMany), ("overdrive/api.ErrIndex", laid_overdrive_api_ErrIndex), ("overdrive/api.ErrShape", laid_overdrive_api_ErrShape)] }
def MovesRingSaid : Prop := movesRingRow.holds Tryd.pinned (OpenSpec.ofChange movesRingSpec)

/-- ITS FALSE NEIGHBOUR: 'it returns false'. Refute it at one input. -/
def movesRingWrong : ChangeSpec := { name := "movesRing", fn := fun _ => fun
  | [d1, d2, d3] => { results := [.lit (.bool false)], args := [d1, d2, d3] }
  | _ => none }
def MovesRingWrongFalsely : Prop := movesRingRow.holds Tryd.pinned (OpenSpec.ofChange movesRingWrong)

/-- 'overdrivelaw23.MovesNone': WHATEVER THE INPUT: true; the input reads as it did. -/
def movesNoneSpec : ChangeSpec := { name := "movesNone", fn := fun _ => fun
  | [d1, d2] => { results := [.lit (.bool true)], args := [d1, d2] }
  | _ => none }
def movesNoneRow : OpenClaim := { program := "yteapnfobcebpfaadoor", sum := "91a9c59ec4d07a678d676673748dacb9ccd5d83bf1848917cc8446b987a9804f", func := "overdrive/overdrivelaw23.MovesNone", spec := "movesNone", unfollowed := true, recurses := true, named := ["overdrive/api.ErrIndex", "overdrive/api.ErrShape", "overdrive/api.ErrMany", "overdrive/api.ErrKind", "overdrive/api.ErrTarget", "overdrive/api.ErrEnd", "overdrive/api.ErrByte", "overdrive/api.ErrStack", "overdrive/api.ErrMerge", "overdrive/api.ErrFall", "overdrive/api.ErrLimit", "overdrive/api.ErrNode", "overdrive/api.ErrState", "overdrive/api.ErrRoom"], apart := false, laid := [("overdrive/api.ErrMany", laid_overdrive_api_ErrMany), ("overdrive/api.ErrKind", laid_overdrive_api_ErrKind), ("overdrive/api.ErrIndex", laid_overdrive_api_ErrIndex), ("overdrive/api.ErrTarget", laid_overdrive_api_ErrTarget), ("overdrive/api.ErrShape", laid_overdrive_api_ErrShape), ("overdrive/api.ErrEnd", laid_overdrive_api_ErrEnd), ("overdrive/api.ErrByte", laid_overdrive_api_ErrByte), ("overdrive/api.ErrStack", laid_overdrive_api_ErrStack), ("overdrive/api.ErrMerge", laid_overdrive_api_ErrMerge), ("overdrive/api.ErrFall", laid_overdrive_api_ErrFall), ("overdrive/api.ErrLimit", laid_overdrive_api_ErrLimit), ("overdrive/api.ErrNode", laid_overdrive_api_ErrNode), ("overdrive/api.ErrState", laid_overdrive_api_ErrState), ("overdrive/api.ErrRoom", laid_overdrive_api_ErrRoom)] }
def MovesNoneSaid : Prop := movesNoneRow.holds Tryd.pinned (OpenSpec.ofChange movesNoneSpec)

/-- ITS FALSE NEIGHBOUR: 'it returns false'. Refute it at one input. -/
def movesNoneWrong : ChangeSpec := { name := "movesNone", fn := fun _ => fun
  | [d1, d2] => { results := [.lit (.bool false)], args := [d1, d2] }
  | _ => none }
def MovesNoneWrongFalsely : Prop := movesNoneRow.holds Tryd.pinned (OpenSpec.ofChange movesNoneWrong)

/-- 'overdrivelaw23.MovesTree': WHATEVER THE INPUT: true; the input reads as it did. -/
def movesTreeSpec : ChangeSpec := { name := "movesTree", fn := fun _ => fun
  | [d] => { results := [.lit (.bool true)], args := [d] }
  | _ => none }
def movesTreeRow : OpenClaim := { program := "yteapnfobcebpfaadoor", sum := "91a9c59ec4d07a678d676673748dacb9ccd5d83bf1848917cc8446b987a9804f", func := "overdrive/overdrivelaw23.MovesTree", spec := "movesTree", unfollowed := true, recurses := true, named := ["overdrive/api.ErrIndex", "overdrive/api.ErrShape", "overdrive/api.ErrMany"], apart := false, laid := [("overdrive/api.ErrMany", laid_overdrive_api_ErrMany), ("overdrive/api.ErrIndex", laid_overdrive_api_ErrIndex), ("overdrive/api.ErrShape", laid_overdrive_api_ErrShape)] }
def MovesTreeSaid : Prop := movesTreeRow.holds Tryd.pinned (OpenSpec.ofChange movesTreeSpec)

/-- ITS FALSE NEIGHBOUR: 'it returns false'. Refute it at one input. -/
def movesTreeWrong : ChangeSpec := { name := "movesTree", fn := fun _ => fun
  | [d] => { results := [.lit (.bool false)], args := [d] }
  | _ => none }
def MovesTreeWrongFalsely : Prop := movesTreeRow.holds Tryd.pinned (OpenSpec.ofChange movesTreeWrong)

/- THE SECOND FORM. 'bulk': how many values and letters a reading holds, each counted each time it is reached (what is shared counts as often as it is met; a slice's spare places count too). A statement '..UptoSaid' is the law's where the arguments, and the package variables that the reading takes, are together of bulk at most 1048576: NARROWER than '..Said'. Prove '..Said' where nothing that the law and all that it calls make is longer than what came in: it says more and counts as full. Else prove '..UptoSaid'. A law counts once. -/
mutual
def uptoBulk {H : Type} : DataW H → Nat
  | .lit (.string bytes) => bytes.length + 1
  | .lit _ => 1
  | .nil => 1
  | .ptr d => uptoBulk d + 1
  | .slice elems spare => uptoBulkAll elems + uptoBulkAll spare + 1
  | .agg parts => uptoBulkAll parts + 1
  | .iface _ d => uptoBulk d + 1
  | .map entries => uptoBulkEntries entries + 1
  | .held _ => 1
def uptoBulkAll {H : Type} : List (DataW H) → Nat
  | [] => 0
  | d :: r => uptoBulk d + uptoBulkAll r
def uptoBulkEntries {H : Type} : List (Lit × DataW H) → Nat
  | [] => 0
  | x :: r => uptoBulkEntry x + uptoBulkEntries r
def uptoBulkEntry {H : Type} : Lit × DataW H → Nat
  | (.string bytes, d) => bytes.length + uptoBulk d + 1
  | (_, d) => uptoBulk d + 1
 end
def uptoSmall : (H : Type) → List (DataW H) → Bool := fun _ ds => decide (uptoBulkAll ds ≤ 1048576)
def OpenSpec.upto (s : _root_.Go.ChangeSpec) : _root_.Go.OpenSpec := { _root_.Go.OpenSpec.ofChange s with cond := some uptoSmall }

/-- 'overdrivelaw23.MovesAtOnce', WHERE WHAT IT READS IS OF BULK AT MOST 1048576: true; the input reads as it did. -/
def movesAtOnceUptoRow : OpenClaim := { program := "yteapnfobcebpfaadoor", sum := "91a9c59ec4d07a678d676673748dacb9ccd5d83bf1848917cc8446b987a9804f", func := "overdrive/overdrivelaw23.MovesAtOnce", spec := "movesAtOnce", unfollowed := true, recurses := true, named := ["overdrive/api.ErrIndex", "overdrive/api.ErrShape", "overdrive/api.ErrMany", "overdrive/api.ErrKind", "overdrive/api.ErrTarget", "overdrive/api.ErrEnd", "overdrive/api.ErrByte", "overdrive/api.ErrStack", "overdrive/api.ErrMerge", "overdrive/api.ErrFall", "overdrive/api.ErrLimit", "overdrive/api.ErrNode", "overdrive/api.ErrState", "overdrive/api.ErrRoom"], apart := false, laid := [("overdrive/api.ErrMany", laid_overdrive_api_ErrMany), ("overdrive/api.ErrKind", laid_overdrive_api_ErrKind), ("overdrive/api.ErrIndex", laid_overdrive_api_ErrIndex), ("overdrive/api.ErrTarget", laid_overdrive_api_ErrTarget), ("overdrive/api.ErrShape", laid_overdrive_api_ErrShape), ("overdrive/api.ErrEnd", laid_overdrive_api_ErrEnd), ("overdrive/api.ErrByte", laid_overdrive_api_ErrByte), ("overdrive/api.ErrStack", laid_overdrive_api_ErrStack), ("overdrive/api.ErrMerge", laid_overdrive_api_ErrMerge), ("overdrive/api.ErrFall", laid_overdrive_api_ErrFall), ("overdrive/api.ErrLimit", laid_overdrive_api_ErrLimit), ("overdrive/api.ErrNode", laid_overdrive_api_ErrNode), ("overdrive/api.ErrState", laid_overdrive_api_ErrState), ("overdrive/api.ErrRoom", laid_overdrive_api_ErrRoom)], narrowed := true }
def MovesAtOnceUptoSaid : Prop := movesAtOnceUptoRow.holds Tryd.pinned (OpenSpec.upto movesAtOnceSpec)

/-- 'overdrivelaw23.MovesRing', WHERE WHAT IT READS IS OF BULK AT MOST 1048576: true; the input reads as it did. -/
def movesRingUptoRow : OpenClaim := { program := "yteapnfobcebpfaadoor", sum := "91a9c59ec4d07a678d676673748dacb9ccd5d83bf1848917cc8446b987a9804f", func := "overdrive/overdrivelaw23.MovesRing", spec := "movesRing", unfollowed := true, recurses := true, named := ["overdrive/api.ErrIndex", "overdrive/api.ErrShape", "overdrive/api.ErrMany"], apart := false, laid := [("overdrive/api.ErrMany", laid_overdrive_api_ErrMany), ("overdrive/api.ErrIndex", laid_overdrive_api_ErrIndex), ("overdrive/api.ErrShape", laid_overdrive_api_ErrShape)], narrowed := true }
def MovesRingUptoSaid : Prop := movesRingUptoRow.holds Tryd.pinned (OpenSpec.upto movesRingSpec)

/-- 'overdrivelaw23.MovesNone', WHERE WHAT IT READS IS OF BULK AT MOST 1048576: true; the input reads as it did. -/
def movesNoneUptoRow : OpenClaim := { program := "yteapnfobcebpfaadoor", sum := "91a9c59ec4d07a678d676673748dacb9ccd5d83bf1848917cc8446b987a9804f", func := "overdrive/overdrivelaw23.MovesNone", spec := "movesNone", unfollowed := true, recurses := true, named := ["overdrive/api.ErrIndex", "overdrive/api.ErrShape", "overdrive/api.ErrMany", "overdrive/api.ErrKind", "overdrive/api.ErrTarget", "overdrive/api.ErrEnd", "overdrive/api.ErrByte", "overdrive/api.ErrStack", "overdrive/api.ErrMerge", "overdrive/api.ErrFall", "overdrive/api.ErrLimit", "overdrive/api.ErrNode", "overdrive/api.ErrState", "overdrive/api.ErrRoom"], apart := false, laid := [("overdrive/api.ErrMany", laid_overdrive_api_ErrMany), ("overdrive/api.ErrKind", laid_overdrive_api_ErrKind), ("overdrive/api.ErrIndex", laid_overdrive_api_ErrIndex), ("overdrive/api.ErrTarget", laid_overdrive_api_ErrTarget), ("overdrive/api.ErrShape", laid_overdrive_api_ErrShape), ("overdrive/api.ErrEnd", laid_overdrive_api_ErrEnd), ("overdrive/api.ErrByte", laid_overdrive_api_ErrByte), ("overdrive/api.ErrStack", laid_overdrive_api_ErrStack), ("overdrive/api.ErrMerge", laid_overdrive_api_ErrMerge), ("overdrive/api.ErrFall", laid_overdrive_api_ErrFall), ("overdrive/api.ErrLimit", laid_overdrive_api_ErrLimit), ("overdrive/api.ErrNode", laid_overdrive_api_ErrNode), ("overdrive/api.ErrState", laid_overdrive_api_ErrState), ("overdrive/api.ErrRoom", laid_overdrive_api_ErrRoom)], narrowed := true }
def MovesNoneUptoSaid : Prop := movesNoneUptoRow.holds Tryd.pinned (OpenSpec.upto movesNoneSpec)

/-- 'overdrivelaw23.MovesTree', WHERE WHAT IT READS IS OF BULK AT MOST 1048576: true; the input reads as it did. -/
def movesTreeUptoRow : OpenClaim := { program := "yteapnfobcebpfaadoor", sum := "91a9c59ec4d07a678d676673748dacb9ccd5d83bf1848917cc8446b987a9804f", func := "overdrive/overdrivelaw23.MovesTree", spec := "movesTree", unfollowed := true, recurses := true, named := ["overdrive/api.ErrIndex", "overdrive/api.ErrShape", "overdrive/api.ErrMany"], apart := false, laid := [("overdrive/api.ErrMany", laid_overdrive_api_ErrMany), ("overdrive/api.ErrIndex", laid_overdrive_api_ErrIndex), ("overdrive/api.ErrShape", laid_overdrive_api_ErrShape)], narrowed := true }
def MovesTreeUptoSaid : Prop := movesTreeUptoRow.holds Tryd.pinned (OpenSpec.upto movesTreeSpec)

end Rows
end Go.Proofs.YteapnfobcebpfaaDoor
