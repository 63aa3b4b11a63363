/-
  No cell of these rows narrows 'for every input' (looked for: loops, veiled, ifaces, maps, wideKeys, modest, calm, conditions, laid).
  DERIVED. THE GIVEN ROWS OF THIS SEAT. 8 by the template 'for every input the law returns true; each argument reads behind the call as it read before'; 0 by the template 'total and deterministic' (their statements: YtnholkjgdpapbaaTotals.lean).
  GIVEN WITH THE SEED: the statements are not yours to turn. If you find one false, say at which input.
  Laid BY PROGRAM, IN A SANDBOX (cutbox-rows.mjs): the forced cells as the released guide's own fill.sh prints them over the translation 65f7e9fd7078f013… (all of the seat's roots in one cut). By AI agents, Wed Nov 11 2026. No macro, syntax, notation, axiom, sorry.
-/
import Derived.Test.YtnholkjgdpapbaaChecked
import GoSem.Claim
import GoSem.ClaimJoined
import GoSem.ClaimMapViews
import Derived.JoinedTies
import Derived.KernelRfl
namespace Go.Proofs.Ytnholkjgdpapbaa
/- THE CELL 'sum', in the pinned program and in every row, IS THE sha256 OF THE DUMP (.gsa) THAT YtnholkjgdpapbaaProg.lean LOADS. Nothing in Lean hashes anything: it is a label: what it is worth is what the hold of that sum in a sandbox is worth. -/
noncomputable def Try.pinned : Pinned := { name := "ytnholkjgdpapbaa", sum := "65f7e9fd7078f013d9b747c7340798dda989adf56306432e86d6b41a1996c198", checked := Try.checked }
namespace Rows
def none {H : Type} : Left H := { results := [], args := [] }

/-- 'bulletinlaw06.MerkleNodes': WHATEVER THE INPUT: true; the input reads as it did. -/
def merkleNodesSpec : ChangeSpec := { name := "merkleNodes", fn := fun _ => fun
  | [d1, d2, d3] => { results := [.lit (.bool true)], args := [d1, d2, d3] }
  | _ => none }
def merkleNodesRow : OpenClaim := { program := "ytnholkjgdpapbaa", sum := "65f7e9fd7078f013d9b747c7340798dda989adf56306432e86d6b41a1996c198", func := "bulletin/bulletinlaw06.MerkleNodes", spec := "merkleNodes", unfollowed := true, recurses := true, apart := false }
def MerkleNodesSaid : Prop := merkleNodesRow.holds Try.pinned (OpenSpec.ofChange merkleNodesSpec)

/-- ITS FALSE NEIGHBOUR: 'it returns false'. Refute it at one input. -/
def merkleNodesWrong : ChangeSpec := { name := "merkleNodes", fn := fun _ => fun
  | [d1, d2, d3] => { results := [.lit (.bool false)], args := [d1, d2, d3] }
  | _ => none }
def MerkleNodesWrongFalsely : Prop := merkleNodesRow.holds Try.pinned (OpenSpec.ofChange merkleNodesWrong)

/-- 'bulletinlaw06.MerkleCollision': WHATEVER THE INPUT: true; the input reads as it did. -/
def merkleCollisionSpec : ChangeSpec := { name := "merkleCollision", fn := fun _ => fun
  | [d1, d2] => { results := [.lit (.bool true)], args := [d1, d2] }
  | _ => none }
def merkleCollisionRow : OpenClaim := { program := "ytnholkjgdpapbaa", sum := "65f7e9fd7078f013d9b747c7340798dda989adf56306432e86d6b41a1996c198", func := "bulletin/bulletinlaw06.MerkleCollision", spec := "merkleCollision", unfollowed := true, recurses := true, apart := false }
def MerkleCollisionSaid : Prop := merkleCollisionRow.holds Try.pinned (OpenSpec.ofChange merkleCollisionSpec)

/-- ITS FALSE NEIGHBOUR: 'it returns false'. Refute it at one input. -/
def merkleCollisionWrong : ChangeSpec := { name := "merkleCollision", fn := fun _ => fun
  | [d1, d2] => { results := [.lit (.bool false)], args := [d1, d2] }
  | _ => none }
def MerkleCollisionWrongFalsely : Prop := merkleCollisionRow.holds Try.pinned (OpenSpec.ofChange merkleCollisionWrong)

/-- 'bulletinlaw06.MerkleRoot': WHATEVER THE INPUT: true; the input reads as it did. -/
def merkleRootSpec : ChangeSpec := { name := "merkleRoot", fn := fun _ => fun
  | [d1, d2] => { results := [.lit (.bool true)], args := [d1, d2] }
  | _ => none }
def merkleRootRow : OpenClaim := { program := "ytnholkjgdpapbaa", sum := "65f7e9fd7078f013d9b747c7340798dda989adf56306432e86d6b41a1996c198", func := "bulletin/bulletinlaw06.MerkleRoot", spec := "merkleRoot", unfollowed := true, recurses := true, apart := false }
def MerkleRootSaid : Prop := merkleRootRow.holds Try.pinned (OpenSpec.ofChange merkleRootSpec)

/-- ITS FALSE NEIGHBOUR: 'it returns false'. Refute it at one input. -/
def merkleRootWrong : ChangeSpec := { name := "merkleRoot", fn := fun _ => fun
  | [d1, d2] => { results := [.lit (.bool false)], args := [d1, d2] }
  | _ => none }
def MerkleRootWrongFalsely : Prop := merkleRootRow.holds Try.pinned (OpenSpec.ofChange merkleRootWrong)

/-- 'bulletinlaw06.MerkleVerify': WHATEVER THE INPUT: true; the input reads as it did. -/
def merkleVerifySpec : ChangeSpec := { name := "merkleVerify", fn := fun _ => fun
  | [d1, d2] => { results := [.lit (.bool true)], args := [d1, d2] }
  | _ => none }
def merkleVerifyRow : OpenClaim := { program := "ytnholkjgdpapbaa", sum := "65f7e9fd7078f013d9b747c7340798dda989adf56306432e86d6b41a1996c198", func := "bulletin/bulletinlaw06.MerkleVerify", spec := "merkleVerify", unfollowed := true, recurses := true, apart := false }
def MerkleVerifySaid : Prop := merkleVerifyRow.holds Try.pinned (OpenSpec.ofChange merkleVerifySpec)

/-- ITS FALSE NEIGHBOUR: 'it returns false'. Refute it at one input. -/
def merkleVerifyWrong : ChangeSpec := { name := "merkleVerify", fn := fun _ => fun
  | [d1, d2] => { results := [.lit (.bool false)], args := [d1, d2] }
  | _ => none }
def MerkleVerifyWrongFalsely : Prop := merkleVerifyRow.holds Try.pinned (OpenSpec.ofChange merkleVerifyWrong)

/-- 'bulletinlaw06.MerklePaths': WHATEVER THE INPUT: true; the input reads as it did. -/
def merklePathsSpec : ChangeSpec := { name := "merklePaths", fn := fun _ => fun
  | [d1, d2] => { results := [.lit (.bool true)], args := [d1, d2] }
  | _ => none }
def merklePathsRow : OpenClaim := { program := "ytnholkjgdpapbaa", sum := "65f7e9fd7078f013d9b747c7340798dda989adf56306432e86d6b41a1996c198", func := "bulletin/bulletinlaw06.MerklePaths", spec := "merklePaths", unfollowed := true, recurses := true, apart := false }
def MerklePathsSaid : Prop := merklePathsRow.holds Try.pinned (OpenSpec.ofChange merklePathsSpec)

/-- ITS FALSE NEIGHBOUR: 'it returns false'. Refute it at one input. -/
def merklePathsWrong : ChangeSpec := { name := "merklePaths", fn := fun _ => fun
  | [d1, d2] => { results := [.lit (.bool false)], args := [d1, d2] }
  | _ => none }
def MerklePathsWrongFalsely : Prop := merklePathsRow.holds Try.pinned (OpenSpec.ofChange merklePathsWrong)

/-- 'bulletinlaw06.MerkleForged': WHATEVER THE INPUT: true; the input reads as it did. -/
def merkleForgedSpec : ChangeSpec := { name := "merkleForged", fn := fun _ => fun
  | [d1, d2, d3] => { results := [.lit (.bool true)], args := [d1, d2, d3] }
  | _ => none }
def merkleForgedRow : OpenClaim := { program := "ytnholkjgdpapbaa", sum := "65f7e9fd7078f013d9b747c7340798dda989adf56306432e86d6b41a1996c198", func := "bulletin/bulletinlaw06.MerkleForged", spec := "merkleForged", unfollowed := true, recurses := true, apart := false }
def MerkleForgedSaid : Prop := merkleForgedRow.holds Try.pinned (OpenSpec.ofChange merkleForgedSpec)

/-- ITS FALSE NEIGHBOUR: 'it returns false'. Refute it at one input. -/
def merkleForgedWrong : ChangeSpec := { name := "merkleForged", fn := fun _ => fun
  | [d1, d2, d3] => { results := [.lit (.bool false)], args := [d1, d2, d3] }
  | _ => none }
def MerkleForgedWrongFalsely : Prop := merkleForgedRow.holds Try.pinned (OpenSpec.ofChange merkleForgedWrong)

/-- 'bulletinlaw06.MerkleBuilder': WHATEVER THE INPUT: true; the input reads as it did. -/
def merkleBuilderSpec : ChangeSpec := { name := "merkleBuilder", fn := fun _ => fun
  | [d] => { results := [.lit (.bool true)], args := [d] }
  | _ => none }
def merkleBuilderRow : OpenClaim := { program := "ytnholkjgdpapbaa", sum := "65f7e9fd7078f013d9b747c7340798dda989adf56306432e86d6b41a1996c198", func := "bulletin/bulletinlaw06.MerkleBuilder", spec := "merkleBuilder", unfollowed := true, recurses := true, apart := false }
def MerkleBuilderSaid : Prop := merkleBuilderRow.holds Try.pinned (OpenSpec.ofChange merkleBuilderSpec)

/-- ITS FALSE NEIGHBOUR: 'it returns false'. Refute it at one input. -/
def merkleBuilderWrong : ChangeSpec := { name := "merkleBuilder", fn := fun _ => fun
  | [d] => { results := [.lit (.bool false)], args := [d] }
  | _ => none }
def MerkleBuilderWrongFalsely : Prop := merkleBuilderRow.holds Try.pinned (OpenSpec.ofChange merkleBuilderWrong)

/-- 'bulletinlaw06.MerkleLimits': WHATEVER THE INPUT: true; the input reads as it did. -/
def merkleLimitsSpec : ChangeSpec := { name := "merkleLimits", fn := fun _ => fun
  | [d1, d2] => { results := [.lit (.bool true)], args := [d1, d2] }
  | _ => none }
def merkleLimitsRow : OpenClaim := { program := "ytnholkjgdpapbaa", sum := "65f7e9fd7078f013d9b747c7340798dda989adf56306432e86d6b41a1996c198", func := "bulletin/bulletinlaw06.MerkleLimits", spec := "merkleLimits", unfollowed := true, recurses := true, apart := false }
def MerkleLimitsSaid : Prop := merkleLimitsRow.holds Try.pinned (OpenSpec.ofChange merkleLimitsSpec)

/-- ITS FALSE NEIGHBOUR: 'it returns false'. Refute it at one input. -/
def merkleLimitsWrong : ChangeSpec := { name := "merkleLimits", fn := fun _ => fun
  | [d1, d2] => { results := [.lit (.bool false)], args := [d1, d2] }
  | _ => none }
def MerkleLimitsWrongFalsely : Prop := merkleLimitsRow.holds Try.pinned (OpenSpec.ofChange merkleLimitsWrong)

/- THE SECOND FORM. 'bulk': how many values and letters a reading holds, each counted each time it is reached (what is shared counts as often as it is met; a slice's spare places count too). A statement '..UptoSaid' is the law's where the arguments, and the package variables that the reading takes, are together of bulk at most 1048576: NARROWER than '..Said'. Prove '..Said' where nothing that the law and all that it calls make is longer than what came in: it says more and counts as full. Else prove '..UptoSaid'. A law counts once. -/
mutual
def uptoBulk {H : Type} : DataW H → Nat
  | .lit (.string bytes) => bytes.length + 1
  | .lit _ => 1
  | .nil => 1
  | .ptr d => uptoBulk d + 1
  | .slice elems spare => uptoBulkAll elems + uptoBulkAll spare + 1
  | .agg parts => uptoBulkAll parts + 1
  | .iface _ d => uptoBulk d + 1
  | .map entries => uptoBulkEntries entries + 1
  | .held _ => 1
def uptoBulkAll {H : Type} : List (DataW H) → Nat
  | [] => 0
  | d :: r => uptoBulk d + uptoBulkAll r
def uptoBulkEntries {H : Type} : List (Lit × DataW H) → Nat
  | [] => 0
  | x :: r => uptoBulkEntry x + uptoBulkEntries r
def uptoBulkEntry {H : Type} : Lit × DataW H → Nat
  | (.string bytes, d) => bytes.length + uptoBulk d + 1
  | (_, d) => uptoBulk d + 1
 end
def uptoSmall : (H : Type) → List (DataW H) → Bool := fun _ ds => decide (uptoBulkAll ds ≤ 1048576)
def OpenSpec.upto (s : _root_.Go.ChangeSpec) : _root_.Go.OpenSpec := { _root_.Go.OpenSpec.ofChange s with cond := some uptoSmall }

/-- 'bulletinlaw06.MerkleNodes', WHERE WHAT IT READS IS OF BULK AT MOST 1048576: true; the input reads as it did. -/
def merkleNodesUptoRow : OpenClaim := { program := "ytnholkjgdpapbaa", sum := "65f7e9fd7078f013d9b747c7340798dda989adf56306432e86d6b41a1996c198", func := "bulletin/bulletinlaw06.MerkleNodes", spec := "merkleNodes", unfollowed := true, recurses := true, apart := false, narrowed := true }
def MerkleNodesUptoSaid : Prop := merkleNodesUptoRow.holds Try.pinned (OpenSpec.upto merkleNodesSpec)

/-- 'bulletinlaw06.MerkleCollision', WHERE WHAT IT READS IS OF BULK AT MOST 1048576: true; the input reads as it did. -/
def merkleCollisionUptoRow : OpenClaim := { program := "ytnholkjgdpapbaa", sum := "65f7e9fd7078f013d9b747c7340798dda989adf56306432e86d6b41a1996c198", func := "bulletin/bulletinlaw06.MerkleCollision", spec := "merkleCollision", unfollowed := true, recurses := true, apart := false, narrowed := true }
def MerkleCollisionUptoSaid : Prop := merkleCollisionUptoRow.holds Try.pinned (OpenSpec.upto merkleCollisionSpec)

/-- 'bulletinlaw06.MerkleRoot', WHERE WHAT IT READS IS OF BULK AT MOST 1048576: true; the input reads as it did. -/
def merkleRootUptoRow : OpenClaim := { program := "ytnholkjgdpapbaa", sum := "65f7e9fd7078f013d9b747c7340798dda989adf56306432e86d6b41a1996c198", func := "bulletin/bulletinlaw06.MerkleRoot", spec := "merkleRoot", unfollowed := true, recurses := true, apart := false, narrowed := true }
def MerkleRootUptoSaid : Prop := merkleRootUptoRow.holds Try.pinned (OpenSpec.upto merkleRootSpec)

/-- 'bulletinlaw06.MerkleVerify', WHERE WHAT IT READS IS OF BULK AT MOST 1048576: true; the input reads as it did. -/
def merkleVerifyUptoRow : OpenClaim := { program := "ytnholkjgdpapbaa", sum := "65f7e9fd7078f013d9b747c7340798dda989adf56306432e86d6b41a1996c198", func := "bulletin/bulletinlaw06.MerkleVerify", spec := "merkleVerify", unfollowed := true, recurses := true, apart := false, narrowed := true }
def MerkleVerifyUptoSaid : Prop := merkleVerifyUptoRow.holds Try.pinned (OpenSpec.upto merkleVerifySpec)

/-- 'bulletinlaw06.MerklePaths', WHERE WHAT IT READS IS OF BULK AT MOST 1048576: true; the input reads as it did. -/
def merklePathsUptoRow : OpenClaim := { program := "ytnholkjgdpapbaa", sum := "65f7e9fd7078f013d9b747c7340798dda989adf56306432e86d6b41a1996c198", func := "bulletin/bulletinlaw06.MerklePaths", spec := "merklePaths", unfollowed := true, recurses := true, apart := false, narrowed := true }
def MerklePathsUptoSaid : Prop := merklePathsUptoRow.holds Try.pinned (OpenSpec.upto merklePathsSpec)

/-- 'bulletinlaw06.MerkleForged', WHERE WHAT IT READS IS OF BULK AT MOST 1048576: true; the input reads as it did. -/
def merkleForgedUptoRow : OpenClaim := { program := "ytnholkjgdpapbaa", sum := "65f7e9fd7078f013d9b747c7340798dda989adf56306432e86d6b41a1996c198", func := "bulletin/bulletinlaw06.MerkleForged", spec := "merkleForged", unfollowed := true, recurses := true, apart := false, narrowed := true }
def MerkleForgedUptoSaid : Prop := merkleForgedUptoRow.holds Try.pinned (OpenSpec.upto merkleForgedSpec)

/-- 'bulletinlaw06.MerkleBuilder', WHERE WHAT IT READS IS OF BULK AT MOST 1048576: true; the input reads as it did. -/
def merkleBuilderUptoRow : OpenClaim := { program := "ytnholkjgdpapbaa", sum := "65f7e9fd7078f013d9b747c7340798dda989adf56306432e86d6b41a1996c198", func := "bulletin/bulletinlaw06.MerkleBuilder", spec := "merkleBuilder", unfollowed := true, recurses := true, apart := false, narrowed := true }
def MerkleBuilderUptoSaid : Prop := merkleBuilderUptoRow.holds Try.pinned (OpenSpec.upto merkleBuilderSpec)

/-- 'bulletinlaw06.MerkleLimits', WHERE WHAT IT READS IS OF BULK AT MOST 1048576: true; the input reads as it did. -/
def merkleLimitsUptoRow : OpenClaim := { program := "ytnholkjgdpapbaa", sum := "65f7e9fd7078f013d9b747c7340798dda989adf56306432e86d6b41a1996c198", func := "bulletin/bulletinlaw06.MerkleLimits", spec := "merkleLimits", unfollowed := true, recurses := true, apart := false, narrowed := true }
def MerkleLimitsUptoSaid : Prop := merkleLimitsUptoRow.holds Try.pinned (OpenSpec.upto merkleLimitsSpec)

end Rows
end Go.Proofs.Ytnholkjgdpapbaa
