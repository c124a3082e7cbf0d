/-
  No cell of these rows narrows 'for every input' (looked for: loops, veiled, ifaces, maps, wideKeys, modest, calm, conditions, laid).
  DERIVED. THE GIVEN ROWS OF THIS SEAT. 4 by the template 'for every input the law returns true; each argument reads behind the call as it read before'; 0 by the template 'total and deterministic' (their statements: YtkbfagkgiogllaaGreatTotals.lean).
  GIVEN WITH THE SEED: the statements are not yours to turn. If you find one false, say at which input.
  Laid BY PROGRAM, IN A SANDBOX (cutbox-rows.mjs): the forced cells as the released guide's own fill.sh prints them over the translation e72e5604da085521… (all of the seat's roots in one cut). By AI agents, Wed Nov 11 2026. No macro, syntax, notation, axiom, sorry.
-/
import Derived.Test.YtkbfagkgiogllaaGreatChecked
import GoSem.Claim
import GoSem.ClaimJoined
import GoSem.ClaimMapViews
import Derived.JoinedTies
import Derived.KernelRfl
namespace Go.Proofs.YtkbfagkgiogllaaGreat
/- THE CELL 'sum', in the pinned program and in every row, IS THE sha256 OF THE DUMP (.gsa) THAT YtkbfagkgiogllaaGreatProg.lean LOADS. Nothing in Lean hashes anything: it is a label: what it is worth is what the hold of that sum in a sandbox is worth. -/
noncomputable def Tryz.pinned : Pinned := { name := "ytkbfagkgiogllaagreat", sum := "e72e5604da0855218c94d9b1a6594801db2248232868fdb4aea85399a5a30f1d", checked := Tryz.checked }
namespace Rows
def none {H : Type} : Left H := { results := [], args := [] }

/-- 'revetmentlaw19.KeepNone': WHATEVER THE INPUT: true; the input reads as it did. -/
def keepNoneSpec : ChangeSpec := { name := "keepNone", fn := fun _ => fun
  | [d1, d2] => { results := [.lit (.bool true)], args := [d1, d2] }
  | _ => none }
def keepNoneRow : OpenClaim := { program := "ytkbfagkgiogllaagreat", sum := "e72e5604da0855218c94d9b1a6594801db2248232868fdb4aea85399a5a30f1d", func := "revetment/revetmentlaw19.KeepNone", spec := "keepNone", inPlace := ["slices.overlaps[revetment/api.Pair]"], unfollowed := true, recurses := true, apart := false }
def KeepNoneSaid : Prop := keepNoneRow.holds Tryz.pinned (OpenSpec.ofChange keepNoneSpec)

/-- ITS FALSE NEIGHBOUR: 'it returns false'. Refute it at one input. -/
def keepNoneWrong : ChangeSpec := { name := "keepNone", fn := fun _ => fun
  | [d1, d2] => { results := [.lit (.bool false)], args := [d1, d2] }
  | _ => none }
def KeepNoneWrongFalsely : Prop := keepNoneRow.holds Tryz.pinned (OpenSpec.ofChange keepNoneWrong)

/-- 'revetmentlaw26.ExportNone': WHATEVER THE INPUT: true; the input reads as it did. -/
def exportNoneSpec : ChangeSpec := { name := "exportNone", fn := fun _ => fun
  | [d1, d2] => { results := [.lit (.bool true)], args := [d1, d2] }
  | _ => none }
def exportNoneRow : OpenClaim := { program := "ytkbfagkgiogllaagreat", sum := "e72e5604da0855218c94d9b1a6594801db2248232868fdb4aea85399a5a30f1d", func := "revetment/revetmentlaw26.ExportNone", spec := "exportNone", inPlace := ["slices.overlaps[revetment/api.Pair]"], unfollowed := true, recurses := true, apart := false }
def ExportNoneSaid : Prop := exportNoneRow.holds Tryz.pinned (OpenSpec.ofChange exportNoneSpec)

/-- ITS FALSE NEIGHBOUR: 'it returns false'. Refute it at one input. -/
def exportNoneWrong : ChangeSpec := { name := "exportNone", fn := fun _ => fun
  | [d1, d2] => { results := [.lit (.bool false)], args := [d1, d2] }
  | _ => none }
def ExportNoneWrongFalsely : Prop := exportNoneRow.holds Tryz.pinned (OpenSpec.ofChange exportNoneWrong)

/-- 'revetmentlaw27.ImportNone': WHATEVER THE INPUT: true; the input reads as it did. -/
def importNoneSpec : ChangeSpec := { name := "importNone", fn := fun _ => fun
  | [d1, d2] => { results := [.lit (.bool true)], args := [d1, d2] }
  | _ => none }
def importNoneRow : OpenClaim := { program := "ytkbfagkgiogllaagreat", sum := "e72e5604da0855218c94d9b1a6594801db2248232868fdb4aea85399a5a30f1d", func := "revetment/revetmentlaw27.ImportNone", spec := "importNone", inPlace := ["slices.overlaps[revetment/api.Pair]"], unfollowed := true, recurses := true, apart := false }
def ImportNoneSaid : Prop := importNoneRow.holds Tryz.pinned (OpenSpec.ofChange importNoneSpec)

/-- ITS FALSE NEIGHBOUR: 'it returns false'. Refute it at one input. -/
def importNoneWrong : ChangeSpec := { name := "importNone", fn := fun _ => fun
  | [d1, d2] => { results := [.lit (.bool false)], args := [d1, d2] }
  | _ => none }
def ImportNoneWrongFalsely : Prop := importNoneRow.holds Tryz.pinned (OpenSpec.ofChange importNoneWrong)

/-- 'revetmentlaw28.VolumeNone': WHATEVER THE INPUT: true; the input reads as it did. -/
def volumeNoneSpec : ChangeSpec := { name := "volumeNone", fn := fun _ => fun
  | [d] => { results := [.lit (.bool true)], args := [d] }
  | _ => none }
def volumeNoneRow : OpenClaim := { program := "ytkbfagkgiogllaagreat", sum := "e72e5604da0855218c94d9b1a6594801db2248232868fdb4aea85399a5a30f1d", func := "revetment/revetmentlaw28.VolumeNone", spec := "volumeNone", inPlace := ["slices.overlaps[revetment/api.Pair]"], unfollowed := true, recurses := true, apart := false }
def VolumeNoneSaid : Prop := volumeNoneRow.holds Tryz.pinned (OpenSpec.ofChange volumeNoneSpec)

/-- ITS FALSE NEIGHBOUR: 'it returns false'. Refute it at one input. -/
def volumeNoneWrong : ChangeSpec := { name := "volumeNone", fn := fun _ => fun
  | [d] => { results := [.lit (.bool false)], args := [d] }
  | _ => none }
def VolumeNoneWrongFalsely : Prop := volumeNoneRow.holds Tryz.pinned (OpenSpec.ofChange volumeNoneWrong)

/- THE SECOND FORM. 'bulk': how many values and letters a reading holds, each counted each time it is reached (what is shared counts as often as it is met; a slice's spare places count too). A statement '..UptoSaid' is the law's where the arguments, and the package variables that the reading takes, are together of bulk at most 1048576: NARROWER than '..Said'. Prove '..Said' where nothing that the law and all that it calls make is longer than what came in: it says more and counts as full. Else prove '..UptoSaid'. A law counts once. -/
mutual
def uptoBulk {H : Type} : DataW H → Nat
  | .lit (.string bytes) => bytes.length + 1
  | .lit _ => 1
  | .nil => 1
  | .ptr d => uptoBulk d + 1
  | .slice elems spare => uptoBulkAll elems + uptoBulkAll spare + 1
  | .agg parts => uptoBulkAll parts + 1
  | .iface _ d => uptoBulk d + 1
  | .map entries => uptoBulkEntries entries + 1
  | .held _ => 1
def uptoBulkAll {H : Type} : List (DataW H) → Nat
  | [] => 0
  | d :: r => uptoBulk d + uptoBulkAll r
def uptoBulkEntries {H : Type} : List (Lit × DataW H) → Nat
  | [] => 0
  | x :: r => uptoBulkEntry x + uptoBulkEntries r
def uptoBulkEntry {H : Type} : Lit × DataW H → Nat
  | (.string bytes, d) => bytes.length + uptoBulk d + 1
  | (_, d) => uptoBulk d + 1
 end
def uptoSmall : (H : Type) → List (DataW H) → Bool := fun _ ds => decide (uptoBulkAll ds ≤ 1048576)
def OpenSpec.upto (s : _root_.Go.ChangeSpec) : _root_.Go.OpenSpec := { _root_.Go.OpenSpec.ofChange s with cond := some uptoSmall }

/-- 'revetmentlaw19.KeepNone', WHERE WHAT IT READS IS OF BULK AT MOST 1048576: true; the input reads as it did. -/
def keepNoneUptoRow : OpenClaim := { program := "ytkbfagkgiogllaagreat", sum := "e72e5604da0855218c94d9b1a6594801db2248232868fdb4aea85399a5a30f1d", func := "revetment/revetmentlaw19.KeepNone", spec := "keepNone", inPlace := ["slices.overlaps[revetment/api.Pair]"], unfollowed := true, recurses := true, apart := false, narrowed := true }
def KeepNoneUptoSaid : Prop := keepNoneUptoRow.holds Tryz.pinned (OpenSpec.upto keepNoneSpec)

/-- 'revetmentlaw26.ExportNone', WHERE WHAT IT READS IS OF BULK AT MOST 1048576: true; the input reads as it did. -/
def exportNoneUptoRow : OpenClaim := { program := "ytkbfagkgiogllaagreat", sum := "e72e5604da0855218c94d9b1a6594801db2248232868fdb4aea85399a5a30f1d", func := "revetment/revetmentlaw26.ExportNone", spec := "exportNone", inPlace := ["slices.overlaps[revetment/api.Pair]"], unfollowed := true, recurses := true, apart := false, narrowed := true }
def ExportNoneUptoSaid : Prop := exportNoneUptoRow.holds Tryz.pinned (OpenSpec.upto exportNoneSpec)

/-- 'revetmentlaw27.ImportNone', WHERE WHAT IT READS IS OF BULK AT MOST 1048576: true; the input reads as it did. -/
def importNoneUptoRow : OpenClaim := { program := "ytkbfagkgiogllaagreat", sum := "e72e5604da0855218c94d9b1a6594801db2248232868fdb4aea85399a5a30f1d", func := "revetment/revetmentlaw27.ImportNone", spec := "importNone", inPlace := ["slices.overlaps[revetment/api.Pair]"], unfollowed := true, recurses := true, apart := false, narrowed := true }
def ImportNoneUptoSaid : Prop := importNoneUptoRow.holds Tryz.pinned (OpenSpec.upto importNoneSpec)

/-- 'revetmentlaw28.VolumeNone', WHERE WHAT IT READS IS OF BULK AT MOST 1048576: true; the input reads as it did. -/
def volumeNoneUptoRow : OpenClaim := { program := "ytkbfagkgiogllaagreat", sum := "e72e5604da0855218c94d9b1a6594801db2248232868fdb4aea85399a5a30f1d", func := "revetment/revetmentlaw28.VolumeNone", spec := "volumeNone", inPlace := ["slices.overlaps[revetment/api.Pair]"], unfollowed := true, recurses := true, apart := false, narrowed := true }
def VolumeNoneUptoSaid : Prop := volumeNoneUptoRow.holds Tryz.pinned (OpenSpec.upto volumeNoneSpec)

end Rows
end Go.Proofs.YtkbfagkgiogllaaGreat
