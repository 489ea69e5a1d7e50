/-
  No cell of these rows narrows 'for every input' (looked for: loops, veiled, ifaces, maps, wideKeys, modest, calm, conditions, laid).
  DERIVED. THE GIVEN ROWS OF THIS SEAT. 7 by the template 'for every input the law returns true; each argument reads behind the call as it read before'; 0 by the template 'total and deterministic' (their statements: YtgblfhobiibeaaaTotals.lean).
  GIVEN WITH THE SEED: the statements are not yours to turn. If you find one false, say at which input.
  Laid BY PROGRAM, IN A SANDBOX (cutbox-rows.mjs): the forced cells as the released guide's own fill.sh prints them over the translation d5ac1041a75e0d7a… (all of the seat's roots in one cut). By AI agents, Wed Nov 11 2026. No macro, syntax, notation, axiom, sorry.
-/
import Derived.Test.YtgblfhobiibeaaaChecked
import GoSem.Claim
import GoSem.ClaimJoined
import GoSem.ClaimMapViews
import Derived.JoinedTies
import Derived.KernelRfl
namespace Go.Proofs.Ytgblfhobiibeaaa
/- THE CELL 'sum', in the pinned program and in every row, IS THE sha256 OF THE DUMP (.gsa) THAT YtgblfhobiibeaaaProg.lean LOADS. Nothing in Lean hashes anything: it is a label: what it is worth is what the hold of that sum in a sandbox is worth. -/
noncomputable def Try.pinned : Pinned := { name := "ytgblfhobiibeaaa", sum := "d5ac1041a75e0d7a40f7fff40aebc2a329b50a72d59ccd6140eb640d83abaa03", checked := Try.checked }
namespace Rows
def none {H : Type} : Left H := { results := [], args := [] }

/-- 'burgagelaw02.AclMatchesReference': WHATEVER THE INPUT: true; the input reads as it did. -/
def aclMatchesReferenceSpec : ChangeSpec := { name := "aclMatchesReference", fn := fun _ => fun
  | [d1, d2, d3] => { results := [.lit (.bool true)], args := [d1, d2, d3] }
  | _ => none }
def aclMatchesReferenceRow : OpenClaim := { program := "ytgblfhobiibeaaa", sum := "d5ac1041a75e0d7a40f7fff40aebc2a329b50a72d59ccd6140eb640d83abaa03", func := "burgage/burgagelaw02.AclMatchesReference", spec := "aclMatchesReference", inPlace := ["slices.overlaps[burgage/api.Ace]"], unfollowed := true, recurses := true, plainKeys := false, apart := false }
def AclMatchesReferenceSaid : Prop := aclMatchesReferenceRow.holds Try.pinned (OpenSpec.ofChange aclMatchesReferenceSpec)

/-- ITS FALSE NEIGHBOUR: 'it returns false'. Refute it at one input. -/
def aclMatchesReferenceWrong : ChangeSpec := { name := "aclMatchesReference", fn := fun _ => fun
  | [d1, d2, d3] => { results := [.lit (.bool false)], args := [d1, d2, d3] }
  | _ => none }
def AclMatchesReferenceWrongFalsely : Prop := aclMatchesReferenceRow.holds Try.pinned (OpenSpec.ofChange aclMatchesReferenceWrong)

/-- 'burgagelaw02.AclRights': WHATEVER THE INPUT: true; the input reads as it did. -/
def aclRightsSpec : ChangeSpec := { name := "aclRights", fn := fun _ => fun
  | [d1, d2, d3] => { results := [.lit (.bool true)], args := [d1, d2, d3] }
  | _ => none }
def aclRightsRow : OpenClaim := { program := "ytgblfhobiibeaaa", sum := "d5ac1041a75e0d7a40f7fff40aebc2a329b50a72d59ccd6140eb640d83abaa03", func := "burgage/burgagelaw02.AclRights", spec := "aclRights", inPlace := ["slices.overlaps[burgage/api.Ace]"], unfollowed := true, recurses := true, plainKeys := false, apart := false }
def AclRightsSaid : Prop := aclRightsRow.holds Try.pinned (OpenSpec.ofChange aclRightsSpec)

/-- ITS FALSE NEIGHBOUR: 'it returns false'. Refute it at one input. -/
def aclRightsWrong : ChangeSpec := { name := "aclRights", fn := fun _ => fun
  | [d1, d2, d3] => { results := [.lit (.bool false)], args := [d1, d2, d3] }
  | _ => none }
def AclRightsWrongFalsely : Prop := aclRightsRow.holds Try.pinned (OpenSpec.ofChange aclRightsWrong)

/-- 'burgagelaw02.AclChild': WHATEVER THE INPUT: true; the input reads as it did. -/
def aclChildSpec : ChangeSpec := { name := "aclChild", fn := fun _ => fun
  | [d1, d2] => { results := [.lit (.bool true)], args := [d1, d2] }
  | _ => none }
def aclChildRow : OpenClaim := { program := "ytgblfhobiibeaaa", sum := "d5ac1041a75e0d7a40f7fff40aebc2a329b50a72d59ccd6140eb640d83abaa03", func := "burgage/burgagelaw02.AclChild", spec := "aclChild", inPlace := ["slices.overlaps[burgage/api.Ace]"], unfollowed := true, recurses := true, plainKeys := false, apart := false }
def AclChildSaid : Prop := aclChildRow.holds Try.pinned (OpenSpec.ofChange aclChildSpec)

/-- ITS FALSE NEIGHBOUR: 'it returns false'. Refute it at one input. -/
def aclChildWrong : ChangeSpec := { name := "aclChild", fn := fun _ => fun
  | [d1, d2] => { results := [.lit (.bool false)], args := [d1, d2] }
  | _ => none }
def AclChildWrongFalsely : Prop := aclChildRow.holds Try.pinned (OpenSpec.ofChange aclChildWrong)

/-- 'burgagelaw02.AclAgain': WHATEVER THE INPUT: true; the input reads as it did. -/
def aclAgainSpec : ChangeSpec := { name := "aclAgain", fn := fun _ => fun
  | [d1, d2, d3] => { results := [.lit (.bool true)], args := [d1, d2, d3] }
  | _ => none }
def aclAgainRow : OpenClaim := { program := "ytgblfhobiibeaaa", sum := "d5ac1041a75e0d7a40f7fff40aebc2a329b50a72d59ccd6140eb640d83abaa03", func := "burgage/burgagelaw02.AclAgain", spec := "aclAgain", inPlace := ["slices.overlaps[burgage/api.Ace]"], unfollowed := true, recurses := true, plainKeys := false, apart := false }
def AclAgainSaid : Prop := aclAgainRow.holds Try.pinned (OpenSpec.ofChange aclAgainSpec)

/-- ITS FALSE NEIGHBOUR: 'it returns false'. Refute it at one input. -/
def aclAgainWrong : ChangeSpec := { name := "aclAgain", fn := fun _ => fun
  | [d1, d2, d3] => { results := [.lit (.bool false)], args := [d1, d2, d3] }
  | _ => none }
def AclAgainWrongFalsely : Prop := aclAgainRow.holds Try.pinned (OpenSpec.ofChange aclAgainWrong)

/-- 'burgagelaw02.AclPut': WHATEVER THE INPUT: true; the input reads as it did. -/
def aclPutSpec : ChangeSpec := { name := "aclPut", fn := fun _ => fun
  | [d1, d2, d3] => { results := [.lit (.bool true)], args := [d1, d2, d3] }
  | _ => none }
def aclPutRow : OpenClaim := { program := "ytgblfhobiibeaaa", sum := "d5ac1041a75e0d7a40f7fff40aebc2a329b50a72d59ccd6140eb640d83abaa03", func := "burgage/burgagelaw02.AclPut", spec := "aclPut", inPlace := ["slices.overlaps[burgage/api.Ace]"], unfollowed := true, recurses := true, plainKeys := false, apart := false }
def AclPutSaid : Prop := aclPutRow.holds Try.pinned (OpenSpec.ofChange aclPutSpec)

/-- ITS FALSE NEIGHBOUR: 'it returns false'. Refute it at one input. -/
def aclPutWrong : ChangeSpec := { name := "aclPut", fn := fun _ => fun
  | [d1, d2, d3] => { results := [.lit (.bool false)], args := [d1, d2, d3] }
  | _ => none }
def AclPutWrongFalsely : Prop := aclPutRow.holds Try.pinned (OpenSpec.ofChange aclPutWrong)

/-- 'burgagelaw02.AclMerge': WHATEVER THE INPUT: true; the input reads as it did. -/
def aclMergeSpec : ChangeSpec := { name := "aclMerge", fn := fun _ => fun
  | [d] => { results := [.lit (.bool true)], args := [d] }
  | _ => none }
def aclMergeRow : OpenClaim := { program := "ytgblfhobiibeaaa", sum := "d5ac1041a75e0d7a40f7fff40aebc2a329b50a72d59ccd6140eb640d83abaa03", func := "burgage/burgagelaw02.AclMerge", spec := "aclMerge", inPlace := ["slices.overlaps[burgage/api.Ace]"], unfollowed := true, recurses := true, plainKeys := false, apart := false }
def AclMergeSaid : Prop := aclMergeRow.holds Try.pinned (OpenSpec.ofChange aclMergeSpec)

/-- ITS FALSE NEIGHBOUR: 'it returns false'. Refute it at one input. -/
def aclMergeWrong : ChangeSpec := { name := "aclMerge", fn := fun _ => fun
  | [d] => { results := [.lit (.bool false)], args := [d] }
  | _ => none }
def AclMergeWrongFalsely : Prop := aclMergeRow.holds Try.pinned (OpenSpec.ofChange aclMergeWrong)

/-- 'burgagelaw02.AclLimits': WHATEVER THE INPUT: true; the input reads as it did. -/
def aclLimitsSpec : ChangeSpec := { name := "aclLimits", fn := fun _ => fun
  | [d1, d2] => { results := [.lit (.bool true)], args := [d1, d2] }
  | _ => none }
def aclLimitsRow : OpenClaim := { program := "ytgblfhobiibeaaa", sum := "d5ac1041a75e0d7a40f7fff40aebc2a329b50a72d59ccd6140eb640d83abaa03", func := "burgage/burgagelaw02.AclLimits", spec := "aclLimits", inPlace := ["slices.overlaps[burgage/api.Ace]"], unfollowed := true, recurses := true, plainKeys := false, apart := false }
def AclLimitsSaid : Prop := aclLimitsRow.holds Try.pinned (OpenSpec.ofChange aclLimitsSpec)

/-- ITS FALSE NEIGHBOUR: 'it returns false'. Refute it at one input. -/
def aclLimitsWrong : ChangeSpec := { name := "aclLimits", fn := fun _ => fun
  | [d1, d2] => { results := [.lit (.bool false)], args := [d1, d2] }
  | _ => none }
def AclLimitsWrongFalsely : Prop := aclLimitsRow.holds Try.pinned (OpenSpec.ofChange aclLimitsWrong)

/- THE SECOND FORM. 'bulk': how many values and letters a reading holds, each counted each time it is reached (what is shared counts as often as it is met; a slice's spare places count too). A statement '..UptoSaid' is the law's where the arguments, and the package variables that the reading takes, are together of bulk at most 1048576: NARROWER than '..Said'. Prove '..Said' where nothing that the law and all that it calls make is longer than what came in: it says more and counts as full. Else prove '..UptoSaid'. A law counts once. -/
mutual
def uptoBulk {H : Type} : DataW H → Nat
  | .lit (.string bytes) => bytes.length + 1
  | .lit _ => 1
  | .nil => 1
  | .ptr d => uptoBulk d + 1
  | .slice elems spare => uptoBulkAll elems + uptoBulkAll spare + 1
  | .agg parts => uptoBulkAll parts + 1
  | .iface _ d => uptoBulk d + 1
  | .map entries => uptoBulkEntries entries + 1
  | .held _ => 1
def uptoBulkAll {H : Type} : List (DataW H) → Nat
  | [] => 0
  | d :: r => uptoBulk d + uptoBulkAll r
def uptoBulkEntries {H : Type} : List (Lit × DataW H) → Nat
  | [] => 0
  | x :: r => uptoBulkEntry x + uptoBulkEntries r
def uptoBulkEntry {H : Type} : Lit × DataW H → Nat
  | (.string bytes, d) => bytes.length + uptoBulk d + 1
  | (_, d) => uptoBulk d + 1
 end
def uptoSmall : (H : Type) → List (DataW H) → Bool := fun _ ds => decide (uptoBulkAll ds ≤ 1048576)
def OpenSpec.upto (s : _root_.Go.ChangeSpec) : _root_.Go.OpenSpec := { _root_.Go.OpenSpec.ofChange s with cond := some uptoSmall }

/-- 'burgagelaw02.AclMatchesReference', WHERE WHAT IT READS IS OF BULK AT MOST 1048576: true; the input reads as it did. -/
def aclMatchesReferenceUptoRow : OpenClaim := { program := "ytgblfhobiibeaaa", sum := "d5ac1041a75e0d7a40f7fff40aebc2a329b50a72d59ccd6140eb640d83abaa03", func := "burgage/burgagelaw02.AclMatchesReference", spec := "aclMatchesReference", inPlace := ["slices.overlaps[burgage/api.Ace]"], unfollowed := true, recurses := true, plainKeys := false, apart := false, narrowed := true }
def AclMatchesReferenceUptoSaid : Prop := aclMatchesReferenceUptoRow.holds Try.pinned (OpenSpec.upto aclMatchesReferenceSpec)

/-- 'burgagelaw02.AclRights', WHERE WHAT IT READS IS OF BULK AT MOST 1048576: true; the input reads as it did. -/
def aclRightsUptoRow : OpenClaim := { program := "ytgblfhobiibeaaa", sum := "d5ac1041a75e0d7a40f7fff40aebc2a329b50a72d59ccd6140eb640d83abaa03", func := "burgage/burgagelaw02.AclRights", spec := "aclRights", inPlace := ["slices.overlaps[burgage/api.Ace]"], unfollowed := true, recurses := true, plainKeys := false, apart := false, narrowed := true }
def AclRightsUptoSaid : Prop := aclRightsUptoRow.holds Try.pinned (OpenSpec.upto aclRightsSpec)

/-- 'burgagelaw02.AclChild', WHERE WHAT IT READS IS OF BULK AT MOST 1048576: true; the input reads as it did. -/
def aclChildUptoRow : OpenClaim := { program := "ytgblfhobiibeaaa", sum := "d5ac1041a75e0d7a40f7fff40aebc2a329b50a72d59ccd6140eb640d83abaa03", func := "burgage/burgagelaw02.AclChild", spec := "aclChild", inPlace := ["slices.overlaps[burgage/api.Ace]"], unfollowed := true, recurses := true, plainKeys := false, apart := false, narrowed := true }
def AclChildUptoSaid : Prop := aclChildUptoRow.holds Try.pinned (OpenSpec.upto aclChildSpec)

/-- 'burgagelaw02.AclAgain', WHERE WHAT IT READS IS OF BULK AT MOST 1048576: true; the input reads as it did. -/
def aclAgainUptoRow : OpenClaim := { program := "ytgblfhobiibeaaa", sum := "d5ac1041a75e0d7a40f7fff40aebc2a329b50a72d59ccd6140eb640d83abaa03", func := "burgage/burgagelaw02.AclAgain", spec := "aclAgain", inPlace := ["slices.overlaps[burgage/api.Ace]"], unfollowed := true, recurses := true, plainKeys := false, apart := false, narrowed := true }
def AclAgainUptoSaid : Prop := aclAgainUptoRow.holds Try.pinned (OpenSpec.upto aclAgainSpec)

/-- 'burgagelaw02.AclPut', WHERE WHAT IT READS IS OF BULK AT MOST 1048576: true; the input reads as it did. -/
def aclPutUptoRow : OpenClaim := { program := "ytgblfhobiibeaaa", sum := "d5ac1041a75e0d7a40f7fff40aebc2a329b50a72d59ccd6140eb640d83abaa03", func := "burgage/burgagelaw02.AclPut", spec := "aclPut", inPlace := ["slices.overlaps[burgage/api.Ace]"], unfollowed := true, recurses := true, plainKeys := false, apart := false, narrowed := true }
def AclPutUptoSaid : Prop := aclPutUptoRow.holds Try.pinned (OpenSpec.upto aclPutSpec)

/-- 'burgagelaw02.AclMerge', WHERE WHAT IT READS IS OF BULK AT MOST 1048576: true; the input reads as it did. -/
def aclMergeUptoRow : OpenClaim := { program := "ytgblfhobiibeaaa", sum := "d5ac1041a75e0d7a40f7fff40aebc2a329b50a72d59ccd6140eb640d83abaa03", func := "burgage/burgagelaw02.AclMerge", spec := "aclMerge", inPlace := ["slices.overlaps[burgage/api.Ace]"], unfollowed := true, recurses := true, plainKeys := false, apart := false, narrowed := true }
def AclMergeUptoSaid : Prop := aclMergeUptoRow.holds Try.pinned (OpenSpec.upto aclMergeSpec)

/-- 'burgagelaw02.AclLimits', WHERE WHAT IT READS IS OF BULK AT MOST 1048576: true; the input reads as it did. -/
def aclLimitsUptoRow : OpenClaim := { program := "ytgblfhobiibeaaa", sum := "d5ac1041a75e0d7a40f7fff40aebc2a329b50a72d59ccd6140eb640d83abaa03", func := "burgage/burgagelaw02.AclLimits", spec := "aclLimits", inPlace := ["slices.overlaps[burgage/api.Ace]"], unfollowed := true, recurses := true, plainKeys := false, apart := false, narrowed := true }
def AclLimitsUptoSaid : Prop := aclLimitsUptoRow.holds Try.pinned (OpenSpec.upto aclLimitsSpec)

end Rows
end Go.Proofs.Ytgblfhobiibeaaa
