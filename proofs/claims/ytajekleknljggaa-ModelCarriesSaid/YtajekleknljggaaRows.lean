/-
  No cell of these rows narrows 'for every input' (looked for: loops, veiled, ifaces, maps, wideKeys, modest, calm, conditions, laid).
  DERIVED. THE GIVEN ROWS OF THIS SEAT. 5 by the template 'for every input the law returns true; each argument reads behind the call as it read before'; 0 by the template 'total and deterministic' (their statements: YtajekleknljggaaTotals.lean).
  GIVEN WITH THE SEED: the statements are not yours to turn. If you find one false, say at which input.
  Laid BY PROGRAM, IN A SANDBOX (cutbox-rows.mjs): the forced cells as the released guide's own fill.sh prints them over the translation 083253bd805b669b… (all of the seat's roots in one cut). By AI agents, Wed Nov 11 2026. No macro, syntax, notation, axiom, sorry.
-/
import Derived.Test.YtajekleknljggaaChecked
import GoSem.Claim
import GoSem.ClaimJoined
import GoSem.ClaimMapViews
import Derived.JoinedTies
import Derived.KernelRfl
namespace Go.Proofs.Ytajekleknljggaa
/- THE CELL 'sum', in the pinned program and in every row, IS THE sha256 OF THE DUMP (.gsa) THAT YtajekleknljggaaProg.lean LOADS. Nothing in Lean hashes anything: it is a label: what it is worth is what the hold of that sum in a sandbox is worth. -/
noncomputable def Try.pinned : Pinned := { name := "ytajekleknljggaa", sum := "083253bd805b669b900b34b8f09a4c4e1cb7a8d3967783c23288b5c968a92996", checked := Try.checked }
namespace Rows
def none {H : Type} : Left H := { results := [], args := [] }

/-- 'revetmentlaw29.ModelPlays': WHATEVER THE INPUT: true; the input reads as it did. -/
def modelPlaysSpec : ChangeSpec := { name := "modelPlays", fn := fun _ => fun
  | [d1, d2] => { results := [.lit (.bool true)], args := [d1, d2] }
  | _ => none }
def modelPlaysRow : OpenClaim := { program := "ytajekleknljggaa", sum := "083253bd805b669b900b34b8f09a4c4e1cb7a8d3967783c23288b5c968a92996", func := "revetment/revetmentlaw29.ModelPlays", spec := "modelPlays", unfollowed := true, recurses := true, apart := false }
def ModelPlaysSaid : Prop := modelPlaysRow.holds Try.pinned (OpenSpec.ofChange modelPlaysSpec)

/-- ITS FALSE NEIGHBOUR: 'it returns false'. Refute it at one input. -/
def modelPlaysWrong : ChangeSpec := { name := "modelPlays", fn := fun _ => fun
  | [d1, d2] => { results := [.lit (.bool false)], args := [d1, d2] }
  | _ => none }
def ModelPlaysWrongFalsely : Prop := modelPlaysRow.holds Try.pinned (OpenSpec.ofChange modelPlaysWrong)

/-- 'revetmentlaw29.ModelCarries': WHATEVER THE INPUT: true; the input reads as it did. -/
def modelCarriesSpec : ChangeSpec := { name := "modelCarries", fn := fun _ => fun
  | [d1, d2] => { results := [.lit (.bool true)], args := [d1, d2] }
  | _ => none }
def modelCarriesRow : OpenClaim := { program := "ytajekleknljggaa", sum := "083253bd805b669b900b34b8f09a4c4e1cb7a8d3967783c23288b5c968a92996", func := "revetment/revetmentlaw29.ModelCarries", spec := "modelCarries", unfollowed := true, recurses := true, apart := false }
def ModelCarriesSaid : Prop := modelCarriesRow.holds Try.pinned (OpenSpec.ofChange modelCarriesSpec)

/-- ITS FALSE NEIGHBOUR: 'it returns false'. Refute it at one input. -/
def modelCarriesWrong : ChangeSpec := { name := "modelCarries", fn := fun _ => fun
  | [d1, d2] => { results := [.lit (.bool false)], args := [d1, d2] }
  | _ => none }
def ModelCarriesWrongFalsely : Prop := modelCarriesRow.holds Try.pinned (OpenSpec.ofChange modelCarriesWrong)

/-- 'revetmentlaw29.ModelRolls': WHATEVER THE INPUT: true; the input reads as it did. -/
def modelRollsSpec : ChangeSpec := { name := "modelRolls", fn := fun _ => fun
  | [d1, d2, d3] => { results := [.lit (.bool true)], args := [d1, d2, d3] }
  | _ => none }
def modelRollsRow : OpenClaim := { program := "ytajekleknljggaa", sum := "083253bd805b669b900b34b8f09a4c4e1cb7a8d3967783c23288b5c968a92996", func := "revetment/revetmentlaw29.ModelRolls", spec := "modelRolls", unfollowed := true, recurses := true, apart := false }
def ModelRollsSaid : Prop := modelRollsRow.holds Try.pinned (OpenSpec.ofChange modelRollsSpec)

/-- ITS FALSE NEIGHBOUR: 'it returns false'. Refute it at one input. -/
def modelRollsWrong : ChangeSpec := { name := "modelRolls", fn := fun _ => fun
  | [d1, d2, d3] => { results := [.lit (.bool false)], args := [d1, d2, d3] }
  | _ => none }
def ModelRollsWrongFalsely : Prop := modelRollsRow.holds Try.pinned (OpenSpec.ofChange modelRollsWrong)

/-- 'revetmentlaw29.ModelDrops': WHATEVER THE INPUT: true; the input reads as it did. -/
def modelDropsSpec : ChangeSpec := { name := "modelDrops", fn := fun _ => fun
  | [d1, d2] => { results := [.lit (.bool true)], args := [d1, d2] }
  | _ => none }
def modelDropsRow : OpenClaim := { program := "ytajekleknljggaa", sum := "083253bd805b669b900b34b8f09a4c4e1cb7a8d3967783c23288b5c968a92996", func := "revetment/revetmentlaw29.ModelDrops", spec := "modelDrops", unfollowed := true, recurses := true, apart := false }
def ModelDropsSaid : Prop := modelDropsRow.holds Try.pinned (OpenSpec.ofChange modelDropsSpec)

/-- ITS FALSE NEIGHBOUR: 'it returns false'. Refute it at one input. -/
def modelDropsWrong : ChangeSpec := { name := "modelDrops", fn := fun _ => fun
  | [d1, d2] => { results := [.lit (.bool false)], args := [d1, d2] }
  | _ => none }
def ModelDropsWrongFalsely : Prop := modelDropsRow.holds Try.pinned (OpenSpec.ofChange modelDropsWrong)

/-- 'revetmentlaw29.ModelKeeps': WHATEVER THE INPUT: true; the input reads as it did. -/
def modelKeepsSpec : ChangeSpec := { name := "modelKeeps", fn := fun _ => fun
  | [d1, d2] => { results := [.lit (.bool true)], args := [d1, d2] }
  | _ => none }
def modelKeepsRow : OpenClaim := { program := "ytajekleknljggaa", sum := "083253bd805b669b900b34b8f09a4c4e1cb7a8d3967783c23288b5c968a92996", func := "revetment/revetmentlaw29.ModelKeeps", spec := "modelKeeps", unfollowed := true, recurses := true, apart := false }
def ModelKeepsSaid : Prop := modelKeepsRow.holds Try.pinned (OpenSpec.ofChange modelKeepsSpec)

/-- ITS FALSE NEIGHBOUR: 'it returns false'. Refute it at one input. -/
def modelKeepsWrong : ChangeSpec := { name := "modelKeeps", fn := fun _ => fun
  | [d1, d2] => { results := [.lit (.bool false)], args := [d1, d2] }
  | _ => none }
def ModelKeepsWrongFalsely : Prop := modelKeepsRow.holds Try.pinned (OpenSpec.ofChange modelKeepsWrong)

/- THE SECOND FORM. 'bulk': how many values and letters a reading holds, each counted each time it is reached (what is shared counts as often as it is met; a slice's spare places count too). A statement '..UptoSaid' is the law's where the arguments, and the package variables that the reading takes, are together of bulk at most 1048576: NARROWER than '..Said'. Prove '..Said' where nothing that the law and all that it calls make is longer than what came in: it says more and counts as full. Else prove '..UptoSaid'. A law counts once. -/
mutual
def uptoBulk {H : Type} : DataW H → Nat
  | .lit (.string bytes) => bytes.length + 1
  | .lit _ => 1
  | .nil => 1
  | .ptr d => uptoBulk d + 1
  | .slice elems spare => uptoBulkAll elems + uptoBulkAll spare + 1
  | .agg parts => uptoBulkAll parts + 1
  | .iface _ d => uptoBulk d + 1
  | .map entries => uptoBulkEntries entries + 1
  | .held _ => 1
def uptoBulkAll {H : Type} : List (DataW H) → Nat
  | [] => 0
  | d :: r => uptoBulk d + uptoBulkAll r
def uptoBulkEntries {H : Type} : List (Lit × DataW H) → Nat
  | [] => 0
  | x :: r => uptoBulkEntry x + uptoBulkEntries r
def uptoBulkEntry {H : Type} : Lit × DataW H → Nat
  | (.string bytes, d) => bytes.length + uptoBulk d + 1
  | (_, d) => uptoBulk d + 1
 end
def uptoSmall : (H : Type) → List (DataW H) → Bool := fun _ ds => decide (uptoBulkAll ds ≤ 1048576)
def OpenSpec.upto (s : _root_.Go.ChangeSpec) : _root_.Go.OpenSpec := { _root_.Go.OpenSpec.ofChange s with cond := some uptoSmall }

/-- 'revetmentlaw29.ModelPlays', WHERE WHAT IT READS IS OF BULK AT MOST 1048576: true; the input reads as it did. -/
def modelPlaysUptoRow : OpenClaim := { program := "ytajekleknljggaa", sum := "083253bd805b669b900b34b8f09a4c4e1cb7a8d3967783c23288b5c968a92996", func := "revetment/revetmentlaw29.ModelPlays", spec := "modelPlays", unfollowed := true, recurses := true, apart := false, narrowed := true }
def ModelPlaysUptoSaid : Prop := modelPlaysUptoRow.holds Try.pinned (OpenSpec.upto modelPlaysSpec)

/-- 'revetmentlaw29.ModelCarries', WHERE WHAT IT READS IS OF BULK AT MOST 1048576: true; the input reads as it did. -/
def modelCarriesUptoRow : OpenClaim := { program := "ytajekleknljggaa", sum := "083253bd805b669b900b34b8f09a4c4e1cb7a8d3967783c23288b5c968a92996", func := "revetment/revetmentlaw29.ModelCarries", spec := "modelCarries", unfollowed := true, recurses := true, apart := false, narrowed := true }
def ModelCarriesUptoSaid : Prop := modelCarriesUptoRow.holds Try.pinned (OpenSpec.upto modelCarriesSpec)

/-- 'revetmentlaw29.ModelRolls', WHERE WHAT IT READS IS OF BULK AT MOST 1048576: true; the input reads as it did. -/
def modelRollsUptoRow : OpenClaim := { program := "ytajekleknljggaa", sum := "083253bd805b669b900b34b8f09a4c4e1cb7a8d3967783c23288b5c968a92996", func := "revetment/revetmentlaw29.ModelRolls", spec := "modelRolls", unfollowed := true, recurses := true, apart := false, narrowed := true }
def ModelRollsUptoSaid : Prop := modelRollsUptoRow.holds Try.pinned (OpenSpec.upto modelRollsSpec)

/-- 'revetmentlaw29.ModelDrops', WHERE WHAT IT READS IS OF BULK AT MOST 1048576: true; the input reads as it did. -/
def modelDropsUptoRow : OpenClaim := { program := "ytajekleknljggaa", sum := "083253bd805b669b900b34b8f09a4c4e1cb7a8d3967783c23288b5c968a92996", func := "revetment/revetmentlaw29.ModelDrops", spec := "modelDrops", unfollowed := true, recurses := true, apart := false, narrowed := true }
def ModelDropsUptoSaid : Prop := modelDropsUptoRow.holds Try.pinned (OpenSpec.upto modelDropsSpec)

/-- 'revetmentlaw29.ModelKeeps', WHERE WHAT IT READS IS OF BULK AT MOST 1048576: true; the input reads as it did. -/
def modelKeepsUptoRow : OpenClaim := { program := "ytajekleknljggaa", sum := "083253bd805b669b900b34b8f09a4c4e1cb7a8d3967783c23288b5c968a92996", func := "revetment/revetmentlaw29.ModelKeeps", spec := "modelKeeps", unfollowed := true, recurses := true, apart := false, narrowed := true }
def ModelKeepsUptoSaid : Prop := modelKeepsUptoRow.holds Try.pinned (OpenSpec.upto modelKeepsSpec)

end Rows
end Go.Proofs.Ytajekleknljggaa
