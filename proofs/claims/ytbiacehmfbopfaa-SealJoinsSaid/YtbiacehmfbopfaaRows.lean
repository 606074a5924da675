/-
  No cell of these rows narrows 'for every input' (looked for: loops, veiled, ifaces, maps, wideKeys, modest, calm, conditions, laid).
  DERIVED. THE GIVEN ROWS OF THIS SEAT. 6 by the template 'for every input the law returns true; each argument reads behind the call as it read before'; 0 by the template 'total and deterministic' (their statements: YtbiacehmfbopfaaTotals.lean).
  GIVEN WITH THE SEED: the statements are not yours to turn. If you find one false, say at which input.
  Laid BY PROGRAM, IN A SANDBOX (cutbox-rows.mjs): the forced cells as the released guide's own fill.sh prints them over the translation c97957c7823bc483… (all of the seat's roots in one cut). By AI agents, Wed Nov 11 2026. No macro, syntax, notation, axiom, sorry.
-/
import Derived.Test.YtbiacehmfbopfaaChecked
import GoSem.Claim
import GoSem.ClaimJoined
import GoSem.ClaimMapViews
import Derived.JoinedTies
import Derived.KernelRfl
namespace Go.Proofs.Ytbiacehmfbopfaa
/- THE CELL 'sum', in the pinned program and in every row, IS THE sha256 OF THE DUMP (.gsa) THAT YtbiacehmfbopfaaProg.lean LOADS. Nothing in Lean hashes anything: it is a label: what it is worth is what the hold of that sum in a sandbox is worth. -/
noncomputable def Try.pinned : Pinned := { name := "ytbiacehmfbopfaa", sum := "c97957c7823bc483acfacff99c5eebc59f924ceae21f13c8dcc0388d99d4377c", checked := Try.checked }
namespace Rows
def none {H : Type} : Left H := { results := [], args := [] }

/-- 'coldstorelaw04.SealBytes': WHATEVER THE INPUT: true; the input reads as it did. -/
def sealBytesSpec : ChangeSpec := { name := "sealBytes", fn := fun _ => fun
  | [d1, d2, d3] => { results := [.lit (.bool true)], args := [d1, d2, d3] }
  | _ => none }
def sealBytesRow : OpenClaim := { program := "ytbiacehmfbopfaa", sum := "c97957c7823bc483acfacff99c5eebc59f924ceae21f13c8dcc0388d99d4377c", func := "coldstore/coldstorelaw04.SealBytes", spec := "sealBytes", unfollowed := true, recurses := true, apart := false }
def SealBytesSaid : Prop := sealBytesRow.holds Try.pinned (OpenSpec.ofChange sealBytesSpec)

/-- ITS FALSE NEIGHBOUR: 'it returns false'. Refute it at one input. -/
def sealBytesWrong : ChangeSpec := { name := "sealBytes", fn := fun _ => fun
  | [d1, d2, d3] => { results := [.lit (.bool false)], args := [d1, d2, d3] }
  | _ => none }
def SealBytesWrongFalsely : Prop := sealBytesRow.holds Try.pinned (OpenSpec.ofChange sealBytesWrong)

/-- 'coldstorelaw04.SealBursts': WHATEVER THE INPUT: true; the input reads as it did. -/
def sealBurstsSpec : ChangeSpec := { name := "sealBursts", fn := fun _ => fun
  | [d1, d2, d3, d4] => { results := [.lit (.bool true)], args := [d1, d2, d3, d4] }
  | _ => none }
def sealBurstsRow : OpenClaim := { program := "ytbiacehmfbopfaa", sum := "c97957c7823bc483acfacff99c5eebc59f924ceae21f13c8dcc0388d99d4377c", func := "coldstore/coldstorelaw04.SealBursts", spec := "sealBursts", unfollowed := true, recurses := true, apart := false }
def SealBurstsSaid : Prop := sealBurstsRow.holds Try.pinned (OpenSpec.ofChange sealBurstsSpec)

/-- ITS FALSE NEIGHBOUR: 'it returns false'. Refute it at one input. -/
def sealBurstsWrong : ChangeSpec := { name := "sealBursts", fn := fun _ => fun
  | [d1, d2, d3, d4] => { results := [.lit (.bool false)], args := [d1, d2, d3, d4] }
  | _ => none }
def SealBurstsWrongFalsely : Prop := sealBurstsRow.holds Try.pinned (OpenSpec.ofChange sealBurstsWrong)

/-- 'coldstorelaw04.SealCuts': WHATEVER THE INPUT: true; the input reads as it did. -/
def sealCutsSpec : ChangeSpec := { name := "sealCuts", fn := fun _ => fun
  | [d1, d2] => { results := [.lit (.bool true)], args := [d1, d2] }
  | _ => none }
def sealCutsRow : OpenClaim := { program := "ytbiacehmfbopfaa", sum := "c97957c7823bc483acfacff99c5eebc59f924ceae21f13c8dcc0388d99d4377c", func := "coldstore/coldstorelaw04.SealCuts", spec := "sealCuts", unfollowed := true, recurses := true, apart := false }
def SealCutsSaid : Prop := sealCutsRow.holds Try.pinned (OpenSpec.ofChange sealCutsSpec)

/-- ITS FALSE NEIGHBOUR: 'it returns false'. Refute it at one input. -/
def sealCutsWrong : ChangeSpec := { name := "sealCuts", fn := fun _ => fun
  | [d1, d2] => { results := [.lit (.bool false)], args := [d1, d2] }
  | _ => none }
def SealCutsWrongFalsely : Prop := sealCutsRow.holds Try.pinned (OpenSpec.ofChange sealCutsWrong)

/-- 'coldstorelaw04.SealKinds': WHATEVER THE INPUT: true; the input reads as it did. -/
def sealKindsSpec : ChangeSpec := { name := "sealKinds", fn := fun _ => fun
  | [d1, d2, d3] => { results := [.lit (.bool true)], args := [d1, d2, d3] }
  | _ => none }
def sealKindsRow : OpenClaim := { program := "ytbiacehmfbopfaa", sum := "c97957c7823bc483acfacff99c5eebc59f924ceae21f13c8dcc0388d99d4377c", func := "coldstore/coldstorelaw04.SealKinds", spec := "sealKinds", unfollowed := true, recurses := true, apart := false }
def SealKindsSaid : Prop := sealKindsRow.holds Try.pinned (OpenSpec.ofChange sealKindsSpec)

/-- ITS FALSE NEIGHBOUR: 'it returns false'. Refute it at one input. -/
def sealKindsWrong : ChangeSpec := { name := "sealKinds", fn := fun _ => fun
  | [d1, d2, d3] => { results := [.lit (.bool false)], args := [d1, d2, d3] }
  | _ => none }
def SealKindsWrongFalsely : Prop := sealKindsRow.holds Try.pinned (OpenSpec.ofChange sealKindsWrong)

/-- 'coldstorelaw04.SealJoins': WHATEVER THE INPUT: true; the input reads as it did. -/
def sealJoinsSpec : ChangeSpec := { name := "sealJoins", fn := fun _ => fun
  | [d1, d2, d3] => { results := [.lit (.bool true)], args := [d1, d2, d3] }
  | _ => none }
def sealJoinsRow : OpenClaim := { program := "ytbiacehmfbopfaa", sum := "c97957c7823bc483acfacff99c5eebc59f924ceae21f13c8dcc0388d99d4377c", func := "coldstore/coldstorelaw04.SealJoins", spec := "sealJoins", unfollowed := true, recurses := true, apart := false }
def SealJoinsSaid : Prop := sealJoinsRow.holds Try.pinned (OpenSpec.ofChange sealJoinsSpec)

/-- ITS FALSE NEIGHBOUR: 'it returns false'. Refute it at one input. -/
def sealJoinsWrong : ChangeSpec := { name := "sealJoins", fn := fun _ => fun
  | [d1, d2, d3] => { results := [.lit (.bool false)], args := [d1, d2, d3] }
  | _ => none }
def SealJoinsWrongFalsely : Prop := sealJoinsRow.holds Try.pinned (OpenSpec.ofChange sealJoinsWrong)

/-- 'coldstorelaw04.SealSums': WHATEVER THE INPUT: true; the input reads as it did. -/
def sealSumsSpec : ChangeSpec := { name := "sealSums", fn := fun _ => fun
  | [d1, d2] => { results := [.lit (.bool true)], args := [d1, d2] }
  | _ => none }
def sealSumsRow : OpenClaim := { program := "ytbiacehmfbopfaa", sum := "c97957c7823bc483acfacff99c5eebc59f924ceae21f13c8dcc0388d99d4377c", func := "coldstore/coldstorelaw04.SealSums", spec := "sealSums", unfollowed := true, recurses := true, apart := false }
def SealSumsSaid : Prop := sealSumsRow.holds Try.pinned (OpenSpec.ofChange sealSumsSpec)

/-- ITS FALSE NEIGHBOUR: 'it returns false'. Refute it at one input. -/
def sealSumsWrong : ChangeSpec := { name := "sealSums", fn := fun _ => fun
  | [d1, d2] => { results := [.lit (.bool false)], args := [d1, d2] }
  | _ => none }
def SealSumsWrongFalsely : Prop := sealSumsRow.holds Try.pinned (OpenSpec.ofChange sealSumsWrong)

/- THE SECOND FORM. 'bulk': how many values and letters a reading holds, each counted each time it is reached (what is shared counts as often as it is met; a slice's spare places count too). A statement '..UptoSaid' is the law's where the arguments, and the package variables that the reading takes, are together of bulk at most 1048576: NARROWER than '..Said'. Prove '..Said' where nothing that the law and all that it calls make is longer than what came in: it says more and counts as full. Else prove '..UptoSaid'. A law counts once. -/
mutual
def uptoBulk {H : Type} : DataW H → Nat
  | .lit (.string bytes) => bytes.length + 1
  | .lit _ => 1
  | .nil => 1
  | .ptr d => uptoBulk d + 1
  | .slice elems spare => uptoBulkAll elems + uptoBulkAll spare + 1
  | .agg parts => uptoBulkAll parts + 1
  | .iface _ d => uptoBulk d + 1
  | .map entries => uptoBulkEntries entries + 1
  | .held _ => 1
def uptoBulkAll {H : Type} : List (DataW H) → Nat
  | [] => 0
  | d :: r => uptoBulk d + uptoBulkAll r
def uptoBulkEntries {H : Type} : List (Lit × DataW H) → Nat
  | [] => 0
  | x :: r => uptoBulkEntry x + uptoBulkEntries r
def uptoBulkEntry {H : Type} : Lit × DataW H → Nat
  | (.string bytes, d) => bytes.length + uptoBulk d + 1
  | (_, d) => uptoBulk d + 1
 end
def uptoSmall : (H : Type) → List (DataW H) → Bool := fun _ ds => decide (uptoBulkAll ds ≤ 1048576)
def OpenSpec.upto (s : _root_.Go.ChangeSpec) : _root_.Go.OpenSpec := { _root_.Go.OpenSpec.ofChange s with cond := some uptoSmall }

/-- 'coldstorelaw04.SealBytes', WHERE WHAT IT READS IS OF BULK AT MOST 1048576: true; the input reads as it did. -/
def sealBytesUptoRow : OpenClaim := { program := "ytbiacehmfbopfaa", sum := "c97957c7823bc483acfacff99c5eebc59f924ceae21f13c8dcc0388d99d4377c", func := "coldstore/coldstorelaw04.SealBytes", spec := "sealBytes", unfollowed := true, recurses := true, apart := false, narrowed := true }
def SealBytesUptoSaid : Prop := sealBytesUptoRow.holds Try.pinned (OpenSpec.upto sealBytesSpec)

/-- 'coldstorelaw04.SealBursts', WHERE WHAT IT READS IS OF BULK AT MOST 1048576: true; the input reads as it did. -/
def sealBurstsUptoRow : OpenClaim := { program := "ytbiacehmfbopfaa", sum := "c97957c7823bc483acfacff99c5eebc59f924ceae21f13c8dcc0388d99d4377c", func := "coldstore/coldstorelaw04.SealBursts", spec := "sealBursts", unfollowed := true, recurses := true, apart := false, narrowed := true }
def SealBurstsUptoSaid : Prop := sealBurstsUptoRow.holds Try.pinned (OpenSpec.upto sealBurstsSpec)

/-- 'coldstorelaw04.SealCuts', WHERE WHAT IT READS IS OF BULK AT MOST 1048576: true; the input reads as it did. -/
def sealCutsUptoRow : OpenClaim := { program := "ytbiacehmfbopfaa", sum := "c97957c7823bc483acfacff99c5eebc59f924ceae21f13c8dcc0388d99d4377c", func := "coldstore/coldstorelaw04.SealCuts", spec := "sealCuts", unfollowed := true, recurses := true, apart := false, narrowed := true }
def SealCutsUptoSaid : Prop := sealCutsUptoRow.holds Try.pinned (OpenSpec.upto sealCutsSpec)

/-- 'coldstorelaw04.SealKinds', WHERE WHAT IT READS IS OF BULK AT MOST 1048576: true; the input reads as it did. -/
def sealKindsUptoRow : OpenClaim := { program := "ytbiacehmfbopfaa", sum := "c97957c7823bc483acfacff99c5eebc59f924ceae21f13c8dcc0388d99d4377c", func := "coldstore/coldstorelaw04.SealKinds", spec := "sealKinds", unfollowed := true, recurses := true, apart := false, narrowed := true }
def SealKindsUptoSaid : Prop := sealKindsUptoRow.holds Try.pinned (OpenSpec.upto sealKindsSpec)

/-- 'coldstorelaw04.SealJoins', WHERE WHAT IT READS IS OF BULK AT MOST 1048576: true; the input reads as it did. -/
def sealJoinsUptoRow : OpenClaim := { program := "ytbiacehmfbopfaa", sum := "c97957c7823bc483acfacff99c5eebc59f924ceae21f13c8dcc0388d99d4377c", func := "coldstore/coldstorelaw04.SealJoins", spec := "sealJoins", unfollowed := true, recurses := true, apart := false, narrowed := true }
def SealJoinsUptoSaid : Prop := sealJoinsUptoRow.holds Try.pinned (OpenSpec.upto sealJoinsSpec)

/-- 'coldstorelaw04.SealSums', WHERE WHAT IT READS IS OF BULK AT MOST 1048576: true; the input reads as it did. -/
def sealSumsUptoRow : OpenClaim := { program := "ytbiacehmfbopfaa", sum := "c97957c7823bc483acfacff99c5eebc59f924ceae21f13c8dcc0388d99d4377c", func := "coldstore/coldstorelaw04.SealSums", spec := "sealSums", unfollowed := true, recurses := true, apart := false, narrowed := true }
def SealSumsUptoSaid : Prop := sealSumsUptoRow.holds Try.pinned (OpenSpec.upto sealSumsSpec)

end Rows
end Go.Proofs.Ytbiacehmfbopfaa
