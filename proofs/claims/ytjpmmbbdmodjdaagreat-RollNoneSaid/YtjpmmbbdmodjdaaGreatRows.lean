/-
  No cell of these rows narrows 'for every input' (looked for: loops, veiled, ifaces, maps, wideKeys, modest, calm, conditions, laid).
  DERIVED. THE GIVEN ROWS OF THIS SEAT. 5 by the template 'for every input the law returns true; each argument reads behind the call as it read before'; 0 by the template 'total and deterministic' (their statements: YtjpmmbbdmodjdaaGreatTotals.lean).
  GIVEN WITH THE SEED: the statements are not yours to turn. If you find one false, say at which input.
  Laid BY PROGRAM, IN A SANDBOX (cutbox-rows.mjs): the forced cells as the released guide's own fill.sh prints them over the translation 31df8113f60d8cac… (all of the seat's roots in one cut). By AI agents, Wed Nov 11 2026. No macro, syntax, notation, axiom, sorry.
-/
import Derived.Test.YtjpmmbbdmodjdaaGreatChecked
import GoSem.Claim
import GoSem.ClaimJoined
import GoSem.ClaimMapViews
import Derived.JoinedTies
import Derived.KernelRfl
namespace Go.Proofs.YtjpmmbbdmodjdaaGreat
/- THE CELL 'sum', in the pinned program and in every row, IS THE sha256 OF THE DUMP (.gsa) THAT YtjpmmbbdmodjdaaGreatProg.lean LOADS. Nothing in Lean hashes anything: it is a label: what it is worth is what the hold of that sum in a sandbox is worth. -/
noncomputable def Tryz.pinned : Pinned := { name := "ytjpmmbbdmodjdaagreat", sum := "31df8113f60d8cac51d9e225c7ba5d2acda629203a6f266b6da0e50b621d0bd7", checked := Tryz.checked }
namespace Rows
def none {H : Type} : Left H := { results := [], args := [] }

/-- 'revetmentlaw19.KeepNone': WHATEVER THE INPUT: true; the input reads as it did. -/
def keepNoneSpec : ChangeSpec := { name := "keepNone", fn := fun _ => fun
  | [d1, d2] => { results := [.lit (.bool true)], args := [d1, d2] }
  | _ => none }
def keepNoneRow : OpenClaim := { program := "ytjpmmbbdmodjdaagreat", sum := "31df8113f60d8cac51d9e225c7ba5d2acda629203a6f266b6da0e50b621d0bd7", func := "revetment/revetmentlaw19.KeepNone", spec := "keepNone", inPlace := ["slices.overlaps[revetment/api.Pair]"], unfollowed := true, recurses := true, apart := false }
def KeepNoneSaid : Prop := keepNoneRow.holds Tryz.pinned (OpenSpec.ofChange keepNoneSpec)

/-- ITS FALSE NEIGHBOUR: 'it returns false'. Refute it at one input. -/
def keepNoneWrong : ChangeSpec := { name := "keepNone", fn := fun _ => fun
  | [d1, d2] => { results := [.lit (.bool false)], args := [d1, d2] }
  | _ => none }
def KeepNoneWrongFalsely : Prop := keepNoneRow.holds Tryz.pinned (OpenSpec.ofChange keepNoneWrong)

/-- 'revetmentlaw20.DestageNone': WHATEVER THE INPUT: true; the input reads as it did. -/
def destageNoneSpec : ChangeSpec := { name := "destageNone", fn := fun _ => fun
  | [d] => { results := [.lit (.bool true)], args := [d] }
  | _ => none }
def destageNoneRow : OpenClaim := { program := "ytjpmmbbdmodjdaagreat", sum := "31df8113f60d8cac51d9e225c7ba5d2acda629203a6f266b6da0e50b621d0bd7", func := "revetment/revetmentlaw20.DestageNone", spec := "destageNone", inPlace := ["slices.overlaps[revetment/api.Pair]"], unfollowed := true, recurses := true, apart := false }
def DestageNoneSaid : Prop := destageNoneRow.holds Tryz.pinned (OpenSpec.ofChange destageNoneSpec)

/-- ITS FALSE NEIGHBOUR: 'it returns false'. Refute it at one input. -/
def destageNoneWrong : ChangeSpec := { name := "destageNone", fn := fun _ => fun
  | [d] => { results := [.lit (.bool false)], args := [d] }
  | _ => none }
def DestageNoneWrongFalsely : Prop := destageNoneRow.holds Tryz.pinned (OpenSpec.ofChange destageNoneWrong)

/-- 'revetmentlaw21.CacheNone': WHATEVER THE INPUT: true; the input reads as it did. -/
def cacheNoneSpec : ChangeSpec := { name := "cacheNone", fn := fun _ => fun
  | [d] => { results := [.lit (.bool true)], args := [d] }
  | _ => none }
def cacheNoneRow : OpenClaim := { program := "ytjpmmbbdmodjdaagreat", sum := "31df8113f60d8cac51d9e225c7ba5d2acda629203a6f266b6da0e50b621d0bd7", func := "revetment/revetmentlaw21.CacheNone", spec := "cacheNone", inPlace := ["slices.overlaps[revetment/api.Pair]"], unfollowed := true, recurses := true, apart := false }
def CacheNoneSaid : Prop := cacheNoneRow.holds Tryz.pinned (OpenSpec.ofChange cacheNoneSpec)

/-- ITS FALSE NEIGHBOUR: 'it returns false'. Refute it at one input. -/
def cacheNoneWrong : ChangeSpec := { name := "cacheNone", fn := fun _ => fun
  | [d] => { results := [.lit (.bool false)], args := [d] }
  | _ => none }
def CacheNoneWrongFalsely : Prop := cacheNoneRow.holds Tryz.pinned (OpenSpec.ofChange cacheNoneWrong)

/-- 'revetmentlaw23.SnapNone': WHATEVER THE INPUT: true; the input reads as it did. -/
def snapNoneSpec : ChangeSpec := { name := "snapNone", fn := fun _ => fun
  | [d1, d2] => { results := [.lit (.bool true)], args := [d1, d2] }
  | _ => none }
def snapNoneRow : OpenClaim := { program := "ytjpmmbbdmodjdaagreat", sum := "31df8113f60d8cac51d9e225c7ba5d2acda629203a6f266b6da0e50b621d0bd7", func := "revetment/revetmentlaw23.SnapNone", spec := "snapNone", inPlace := ["slices.overlaps[revetment/api.Pair]"], unfollowed := true, recurses := true, apart := false }
def SnapNoneSaid : Prop := snapNoneRow.holds Tryz.pinned (OpenSpec.ofChange snapNoneSpec)

/-- ITS FALSE NEIGHBOUR: 'it returns false'. Refute it at one input. -/
def snapNoneWrong : ChangeSpec := { name := "snapNone", fn := fun _ => fun
  | [d1, d2] => { results := [.lit (.bool false)], args := [d1, d2] }
  | _ => none }
def SnapNoneWrongFalsely : Prop := snapNoneRow.holds Tryz.pinned (OpenSpec.ofChange snapNoneWrong)

/-- 'revetmentlaw25.RollNone': WHATEVER THE INPUT: true; the input reads as it did. -/
def rollNoneSpec : ChangeSpec := { name := "rollNone", fn := fun _ => fun
  | [d] => { results := [.lit (.bool true)], args := [d] }
  | _ => none }
def rollNoneRow : OpenClaim := { program := "ytjpmmbbdmodjdaagreat", sum := "31df8113f60d8cac51d9e225c7ba5d2acda629203a6f266b6da0e50b621d0bd7", func := "revetment/revetmentlaw25.RollNone", spec := "rollNone", inPlace := ["slices.overlaps[revetment/api.Pair]"], unfollowed := true, recurses := true, apart := false }
def RollNoneSaid : Prop := rollNoneRow.holds Tryz.pinned (OpenSpec.ofChange rollNoneSpec)

/-- ITS FALSE NEIGHBOUR: 'it returns false'. Refute it at one input. -/
def rollNoneWrong : ChangeSpec := { name := "rollNone", fn := fun _ => fun
  | [d] => { results := [.lit (.bool false)], args := [d] }
  | _ => none }
def RollNoneWrongFalsely : Prop := rollNoneRow.holds Tryz.pinned (OpenSpec.ofChange rollNoneWrong)

/- THE SECOND FORM. 'bulk': how many values and letters a reading holds, each counted each time it is reached (what is shared counts as often as it is met; a slice's spare places count too). A statement '..UptoSaid' is the law's where the arguments, and the package variables that the reading takes, are together of bulk at most 1048576: NARROWER than '..Said'. Prove '..Said' where nothing that the law and all that it calls make is longer than what came in: it says more and counts as full. Else prove '..UptoSaid'. A law counts once. -/
mutual
def uptoBulk {H : Type} : DataW H → Nat
  | .lit (.string bytes) => bytes.length + 1
  | .lit _ => 1
  | .nil => 1
  | .ptr d => uptoBulk d + 1
  | .slice elems spare => uptoBulkAll elems + uptoBulkAll spare + 1
  | .agg parts => uptoBulkAll parts + 1
  | .iface _ d => uptoBulk d + 1
  | .map entries => uptoBulkEntries entries + 1
  | .held _ => 1
def uptoBulkAll {H : Type} : List (DataW H) → Nat
  | [] => 0
  | d :: r => uptoBulk d + uptoBulkAll r
def uptoBulkEntries {H : Type} : List (Lit × DataW H) → Nat
  | [] => 0
  | x :: r => uptoBulkEntry x + uptoBulkEntries r
def uptoBulkEntry {H : Type} : Lit × DataW H → Nat
  | (.string bytes, d) => bytes.length + uptoBulk d + 1
  | (_, d) => uptoBulk d + 1
 end
def uptoSmall : (H : Type) → List (DataW H) → Bool := fun _ ds => decide (uptoBulkAll ds ≤ 1048576)
def OpenSpec.upto (s : _root_.Go.ChangeSpec) : _root_.Go.OpenSpec := { _root_.Go.OpenSpec.ofChange s with cond := some uptoSmall }

/-- 'revetmentlaw19.KeepNone', WHERE WHAT IT READS IS OF BULK AT MOST 1048576: true; the input reads as it did. -/
def keepNoneUptoRow : OpenClaim := { program := "ytjpmmbbdmodjdaagreat", sum := "31df8113f60d8cac51d9e225c7ba5d2acda629203a6f266b6da0e50b621d0bd7", func := "revetment/revetmentlaw19.KeepNone", spec := "keepNone", inPlace := ["slices.overlaps[revetment/api.Pair]"], unfollowed := true, recurses := true, apart := false, narrowed := true }
def KeepNoneUptoSaid : Prop := keepNoneUptoRow.holds Tryz.pinned (OpenSpec.upto keepNoneSpec)

/-- 'revetmentlaw20.DestageNone', WHERE WHAT IT READS IS OF BULK AT MOST 1048576: true; the input reads as it did. -/
def destageNoneUptoRow : OpenClaim := { program := "ytjpmmbbdmodjdaagreat", sum := "31df8113f60d8cac51d9e225c7ba5d2acda629203a6f266b6da0e50b621d0bd7", func := "revetment/revetmentlaw20.DestageNone", spec := "destageNone", inPlace := ["slices.overlaps[revetment/api.Pair]"], unfollowed := true, recurses := true, apart := false, narrowed := true }
def DestageNoneUptoSaid : Prop := destageNoneUptoRow.holds Tryz.pinned (OpenSpec.upto destageNoneSpec)

/-- 'revetmentlaw21.CacheNone', WHERE WHAT IT READS IS OF BULK AT MOST 1048576: true; the input reads as it did. -/
def cacheNoneUptoRow : OpenClaim := { program := "ytjpmmbbdmodjdaagreat", sum := "31df8113f60d8cac51d9e225c7ba5d2acda629203a6f266b6da0e50b621d0bd7", func := "revetment/revetmentlaw21.CacheNone", spec := "cacheNone", inPlace := ["slices.overlaps[revetment/api.Pair]"], unfollowed := true, recurses := true, apart := false, narrowed := true }
def CacheNoneUptoSaid : Prop := cacheNoneUptoRow.holds Tryz.pinned (OpenSpec.upto cacheNoneSpec)

/-- 'revetmentlaw23.SnapNone', WHERE WHAT IT READS IS OF BULK AT MOST 1048576: true; the input reads as it did. -/
def snapNoneUptoRow : OpenClaim := { program := "ytjpmmbbdmodjdaagreat", sum := "31df8113f60d8cac51d9e225c7ba5d2acda629203a6f266b6da0e50b621d0bd7", func := "revetment/revetmentlaw23.SnapNone", spec := "snapNone", inPlace := ["slices.overlaps[revetment/api.Pair]"], unfollowed := true, recurses := true, apart := false, narrowed := true }
def SnapNoneUptoSaid : Prop := snapNoneUptoRow.holds Tryz.pinned (OpenSpec.upto snapNoneSpec)

/-- 'revetmentlaw25.RollNone', WHERE WHAT IT READS IS OF BULK AT MOST 1048576: true; the input reads as it did. -/
def rollNoneUptoRow : OpenClaim := { program := "ytjpmmbbdmodjdaagreat", sum := "31df8113f60d8cac51d9e225c7ba5d2acda629203a6f266b6da0e50b621d0bd7", func := "revetment/revetmentlaw25.RollNone", spec := "rollNone", inPlace := ["slices.overlaps[revetment/api.Pair]"], unfollowed := true, recurses := true, apart := false, narrowed := true }
def RollNoneUptoSaid : Prop := rollNoneUptoRow.holds Tryz.pinned (OpenSpec.upto rollNoneSpec)

end Rows
end Go.Proofs.YtjpmmbbdmodjdaaGreat
