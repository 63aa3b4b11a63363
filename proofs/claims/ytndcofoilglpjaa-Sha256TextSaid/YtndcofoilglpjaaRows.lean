/-
  No cell of these rows narrows 'for every input' (looked for: loops, veiled, ifaces, maps, wideKeys, modest, calm, conditions, laid).
  DERIVED. THE GIVEN ROWS OF THIS SEAT. 8 by the template 'for every input the law returns true; each argument reads behind the call as it read before'; 0 by the template 'total and deterministic' (their statements: YtndcofoilglpjaaTotals.lean).
  GIVEN WITH THE SEED: the statements are not yours to turn. If you find one false, say at which input.
  Laid BY PROGRAM, IN A SANDBOX (cutbox-rows.mjs): the forced cells as the released guide's own fill.sh prints them over the translation 8f3e56ecc7bc9120… (all of the seat's roots in one cut). By AI agents, Wed Nov 11 2026. No macro, syntax, notation, axiom, sorry.
-/
import Derived.Test.YtndcofoilglpjaaChecked
import GoSem.Claim
import GoSem.ClaimJoined
import GoSem.ClaimMapViews
import Derived.JoinedTies
import Derived.KernelRfl
namespace Go.Proofs.Ytndcofoilglpjaa
/- THE CELL 'sum', in the pinned program and in every row, IS THE sha256 OF THE DUMP (.gsa) THAT YtndcofoilglpjaaProg.lean LOADS. Nothing in Lean hashes anything: it is a label: what it is worth is what the hold of that sum in a sandbox is worth. -/
noncomputable def Try.pinned : Pinned := { name := "ytndcofoilglpjaa", sum := "8f3e56ecc7bc912071cd943fb5ce6f2e25a9fd8fc227c14dc04c83fea37f4f04", checked := Try.checked }
namespace Rows
def none {H : Type} : Left H := { results := [], args := [] }

/-- 'bulletinlaw05.Sha256Sum': WHATEVER THE INPUT: true; the input reads as it did. -/
def sha256SumSpec : ChangeSpec := { name := "sha256Sum", fn := fun _ => fun
  | [d] => { results := [.lit (.bool true)], args := [d] }
  | _ => none }
def sha256SumRow : OpenClaim := { program := "ytndcofoilglpjaa", sum := "8f3e56ecc7bc912071cd943fb5ce6f2e25a9fd8fc227c14dc04c83fea37f4f04", func := "bulletin/bulletinlaw05.Sha256Sum", spec := "sha256Sum", inPlace := ["internal/abi.NoEscape"], apart := false }
def Sha256SumSaid : Prop := sha256SumRow.holds Try.pinned (OpenSpec.ofChange sha256SumSpec)

/-- ITS FALSE NEIGHBOUR: 'it returns false'. Refute it at one input. -/
def sha256SumWrong : ChangeSpec := { name := "sha256Sum", fn := fun _ => fun
  | [d] => { results := [.lit (.bool false)], args := [d] }
  | _ => none }
def Sha256SumWrongFalsely : Prop := sha256SumRow.holds Try.pinned (OpenSpec.ofChange sha256SumWrong)

/-- 'bulletinlaw05.Sha256Lengths': WHATEVER THE INPUT: true; the input reads as it did. -/
def sha256LengthsSpec : ChangeSpec := { name := "sha256Lengths", fn := fun _ => fun
  | [d] => { results := [.lit (.bool true)], args := [d] }
  | _ => none }
def sha256LengthsRow : OpenClaim := { program := "ytndcofoilglpjaa", sum := "8f3e56ecc7bc912071cd943fb5ce6f2e25a9fd8fc227c14dc04c83fea37f4f04", func := "bulletin/bulletinlaw05.Sha256Lengths", spec := "sha256Lengths", inPlace := ["internal/abi.NoEscape"], apart := false }
def Sha256LengthsSaid : Prop := sha256LengthsRow.holds Try.pinned (OpenSpec.ofChange sha256LengthsSpec)

/-- ITS FALSE NEIGHBOUR: 'it returns false'. Refute it at one input. -/
def sha256LengthsWrong : ChangeSpec := { name := "sha256Lengths", fn := fun _ => fun
  | [d] => { results := [.lit (.bool false)], args := [d] }
  | _ => none }
def Sha256LengthsWrongFalsely : Prop := sha256LengthsRow.holds Try.pinned (OpenSpec.ofChange sha256LengthsWrong)

/-- 'bulletinlaw05.Sha256Half': WHATEVER THE INPUT: true; the input reads as it did. -/
def sha256HalfSpec : ChangeSpec := { name := "sha256Half", fn := fun _ => fun
  | [d] => { results := [.lit (.bool true)], args := [d] }
  | _ => none }
def sha256HalfRow : OpenClaim := { program := "ytndcofoilglpjaa", sum := "8f3e56ecc7bc912071cd943fb5ce6f2e25a9fd8fc227c14dc04c83fea37f4f04", func := "bulletin/bulletinlaw05.Sha256Half", spec := "sha256Half", inPlace := ["internal/abi.NoEscape"], apart := false }
def Sha256HalfSaid : Prop := sha256HalfRow.holds Try.pinned (OpenSpec.ofChange sha256HalfSpec)

/-- ITS FALSE NEIGHBOUR: 'it returns false'. Refute it at one input. -/
def sha256HalfWrong : ChangeSpec := { name := "sha256Half", fn := fun _ => fun
  | [d] => { results := [.lit (.bool false)], args := [d] }
  | _ => none }
def Sha256HalfWrongFalsely : Prop := sha256HalfRow.holds Try.pinned (OpenSpec.ofChange sha256HalfWrong)

/-- 'bulletinlaw05.Sha256Write': WHATEVER THE INPUT: true; the input reads as it did. -/
def sha256WriteSpec : ChangeSpec := { name := "sha256Write", fn := fun _ => fun
  | [d] => { results := [.lit (.bool true)], args := [d] }
  | _ => none }
def sha256WriteRow : OpenClaim := { program := "ytndcofoilglpjaa", sum := "8f3e56ecc7bc912071cd943fb5ce6f2e25a9fd8fc227c14dc04c83fea37f4f04", func := "bulletin/bulletinlaw05.Sha256Write", spec := "sha256Write", inPlace := ["internal/abi.NoEscape"], apart := false }
def Sha256WriteSaid : Prop := sha256WriteRow.holds Try.pinned (OpenSpec.ofChange sha256WriteSpec)

/-- ITS FALSE NEIGHBOUR: 'it returns false'. Refute it at one input. -/
def sha256WriteWrong : ChangeSpec := { name := "sha256Write", fn := fun _ => fun
  | [d] => { results := [.lit (.bool false)], args := [d] }
  | _ => none }
def Sha256WriteWrongFalsely : Prop := sha256WriteRow.holds Try.pinned (OpenSpec.ofChange sha256WriteWrong)

/-- 'bulletinlaw05.Sha256Clone': WHATEVER THE INPUT: true; the input reads as it did. -/
def sha256CloneSpec : ChangeSpec := { name := "sha256Clone", fn := fun _ => fun
  | [d1, d2, d3] => { results := [.lit (.bool true)], args := [d1, d2, d3] }
  | _ => none }
def sha256CloneRow : OpenClaim := { program := "ytndcofoilglpjaa", sum := "8f3e56ecc7bc912071cd943fb5ce6f2e25a9fd8fc227c14dc04c83fea37f4f04", func := "bulletin/bulletinlaw05.Sha256Clone", spec := "sha256Clone", inPlace := ["internal/abi.NoEscape"], apart := false }
def Sha256CloneSaid : Prop := sha256CloneRow.holds Try.pinned (OpenSpec.ofChange sha256CloneSpec)

/-- ITS FALSE NEIGHBOUR: 'it returns false'. Refute it at one input. -/
def sha256CloneWrong : ChangeSpec := { name := "sha256Clone", fn := fun _ => fun
  | [d1, d2, d3] => { results := [.lit (.bool false)], args := [d1, d2, d3] }
  | _ => none }
def Sha256CloneWrongFalsely : Prop := sha256CloneRow.holds Try.pinned (OpenSpec.ofChange sha256CloneWrong)

/-- 'bulletinlaw05.Sha256Nil': WHATEVER THE INPUT: true; the input reads as it did. -/
def sha256NilSpec : ChangeSpec := { name := "sha256Nil", fn := fun _ => fun
  | [d] => { results := [.lit (.bool true)], args := [d] }
  | _ => none }
def sha256NilRow : OpenClaim := { program := "ytndcofoilglpjaa", sum := "8f3e56ecc7bc912071cd943fb5ce6f2e25a9fd8fc227c14dc04c83fea37f4f04", func := "bulletin/bulletinlaw05.Sha256Nil", spec := "sha256Nil", inPlace := ["internal/abi.NoEscape"], apart := false }
def Sha256NilSaid : Prop := sha256NilRow.holds Try.pinned (OpenSpec.ofChange sha256NilSpec)

/-- ITS FALSE NEIGHBOUR: 'it returns false'. Refute it at one input. -/
def sha256NilWrong : ChangeSpec := { name := "sha256Nil", fn := fun _ => fun
  | [d] => { results := [.lit (.bool false)], args := [d] }
  | _ => none }
def Sha256NilWrongFalsely : Prop := sha256NilRow.holds Try.pinned (OpenSpec.ofChange sha256NilWrong)

/-- 'bulletinlaw05.Sha256Text': WHATEVER THE INPUT: true; the input reads as it did. -/
def sha256TextSpec : ChangeSpec := { name := "sha256Text", fn := fun _ => fun
  | [d] => { results := [.lit (.bool true)], args := [d] }
  | _ => none }
def sha256TextRow : OpenClaim := { program := "ytndcofoilglpjaa", sum := "8f3e56ecc7bc912071cd943fb5ce6f2e25a9fd8fc227c14dc04c83fea37f4f04", func := "bulletin/bulletinlaw05.Sha256Text", spec := "sha256Text", inPlace := ["internal/abi.NoEscape", "internal/bytealg.IndexByteString"], unfollowed := true, recurses := true, apart := false }
def Sha256TextSaid : Prop := sha256TextRow.holds Try.pinned (OpenSpec.ofChange sha256TextSpec)

/-- ITS FALSE NEIGHBOUR: 'it returns false'. Refute it at one input. -/
def sha256TextWrong : ChangeSpec := { name := "sha256Text", fn := fun _ => fun
  | [d] => { results := [.lit (.bool false)], args := [d] }
  | _ => none }
def Sha256TextWrongFalsely : Prop := sha256TextRow.holds Try.pinned (OpenSpec.ofChange sha256TextWrong)

/-- 'bulletinlaw05.Sha256Parse': WHATEVER THE INPUT: true; the input reads as it did. -/
def sha256ParseSpec : ChangeSpec := { name := "sha256Parse", fn := fun _ => fun
  | [d] => { results := [.lit (.bool true)], args := [d] }
  | _ => none }
def sha256ParseRow : OpenClaim := { program := "ytndcofoilglpjaa", sum := "8f3e56ecc7bc912071cd943fb5ce6f2e25a9fd8fc227c14dc04c83fea37f4f04", func := "bulletin/bulletinlaw05.Sha256Parse", spec := "sha256Parse", inPlace := ["internal/bytealg.IndexByteString", "internal/abi.NoEscape"], unfollowed := true, recurses := true, apart := false }
def Sha256ParseSaid : Prop := sha256ParseRow.holds Try.pinned (OpenSpec.ofChange sha256ParseSpec)

/-- ITS FALSE NEIGHBOUR: 'it returns false'. Refute it at one input. -/
def sha256ParseWrong : ChangeSpec := { name := "sha256Parse", fn := fun _ => fun
  | [d] => { results := [.lit (.bool false)], args := [d] }
  | _ => none }
def Sha256ParseWrongFalsely : Prop := sha256ParseRow.holds Try.pinned (OpenSpec.ofChange sha256ParseWrong)

/- THE SECOND FORM. 'bulk': how many values and letters a reading holds, each counted each time it is reached (what is shared counts as often as it is met; a slice's spare places count too). A statement '..UptoSaid' is the law's where the arguments, and the package variables that the reading takes, are together of bulk at most 1048576: NARROWER than '..Said'. Prove '..Said' where nothing that the law and all that it calls make is longer than what came in: it says more and counts as full. Else prove '..UptoSaid'. A law counts once. -/
mutual
def uptoBulk {H : Type} : DataW H → Nat
  | .lit (.string bytes) => bytes.length + 1
  | .lit _ => 1
  | .nil => 1
  | .ptr d => uptoBulk d + 1
  | .slice elems spare => uptoBulkAll elems + uptoBulkAll spare + 1
  | .agg parts => uptoBulkAll parts + 1
  | .iface _ d => uptoBulk d + 1
  | .map entries => uptoBulkEntries entries + 1
  | .held _ => 1
def uptoBulkAll {H : Type} : List (DataW H) → Nat
  | [] => 0
  | d :: r => uptoBulk d + uptoBulkAll r
def uptoBulkEntries {H : Type} : List (Lit × DataW H) → Nat
  | [] => 0
  | x :: r => uptoBulkEntry x + uptoBulkEntries r
def uptoBulkEntry {H : Type} : Lit × DataW H → Nat
  | (.string bytes, d) => bytes.length + uptoBulk d + 1
  | (_, d) => uptoBulk d + 1
 end
def uptoSmall : (H : Type) → List (DataW H) → Bool := fun _ ds => decide (uptoBulkAll ds ≤ 1048576)
def OpenSpec.upto (s : _root_.Go.ChangeSpec) : _root_.Go.OpenSpec := { _root_.Go.OpenSpec.ofChange s with cond := some uptoSmall }

/-- 'bulletinlaw05.Sha256Sum', WHERE WHAT IT READS IS OF BULK AT MOST 1048576: true; the input reads as it did. -/
def sha256SumUptoRow : OpenClaim := { program := "ytndcofoilglpjaa", sum := "8f3e56ecc7bc912071cd943fb5ce6f2e25a9fd8fc227c14dc04c83fea37f4f04", func := "bulletin/bulletinlaw05.Sha256Sum", spec := "sha256Sum", inPlace := ["internal/abi.NoEscape"], apart := false, narrowed := true }
def Sha256SumUptoSaid : Prop := sha256SumUptoRow.holds Try.pinned (OpenSpec.upto sha256SumSpec)

/-- 'bulletinlaw05.Sha256Lengths', WHERE WHAT IT READS IS OF BULK AT MOST 1048576: true; the input reads as it did. -/
def sha256LengthsUptoRow : OpenClaim := { program := "ytndcofoilglpjaa", sum := "8f3e56ecc7bc912071cd943fb5ce6f2e25a9fd8fc227c14dc04c83fea37f4f04", func := "bulletin/bulletinlaw05.Sha256Lengths", spec := "sha256Lengths", inPlace := ["internal/abi.NoEscape"], apart := false, narrowed := true }
def Sha256LengthsUptoSaid : Prop := sha256LengthsUptoRow.holds Try.pinned (OpenSpec.upto sha256LengthsSpec)

/-- 'bulletinlaw05.Sha256Half', WHERE WHAT IT READS IS OF BULK AT MOST 1048576: true; the input reads as it did. -/
def sha256HalfUptoRow : OpenClaim := { program := "ytndcofoilglpjaa", sum := "8f3e56ecc7bc912071cd943fb5ce6f2e25a9fd8fc227c14dc04c83fea37f4f04", func := "bulletin/bulletinlaw05.Sha256Half", spec := "sha256Half", inPlace := ["internal/abi.NoEscape"], apart := false, narrowed := true }
def Sha256HalfUptoSaid : Prop := sha256HalfUptoRow.holds Try.pinned (OpenSpec.upto sha256HalfSpec)

/-- 'bulletinlaw05.Sha256Write', WHERE WHAT IT READS IS OF BULK AT MOST 1048576: true; the input reads as it did. -/
def sha256WriteUptoRow : OpenClaim := { program := "ytndcofoilglpjaa", sum := "8f3e56ecc7bc912071cd943fb5ce6f2e25a9fd8fc227c14dc04c83fea37f4f04", func := "bulletin/bulletinlaw05.Sha256Write", spec := "sha256Write", inPlace := ["internal/abi.NoEscape"], apart := false, narrowed := true }
def Sha256WriteUptoSaid : Prop := sha256WriteUptoRow.holds Try.pinned (OpenSpec.upto sha256WriteSpec)

/-- 'bulletinlaw05.Sha256Clone', WHERE WHAT IT READS IS OF BULK AT MOST 1048576: true; the input reads as it did. -/
def sha256CloneUptoRow : OpenClaim := { program := "ytndcofoilglpjaa", sum := "8f3e56ecc7bc912071cd943fb5ce6f2e25a9fd8fc227c14dc04c83fea37f4f04", func := "bulletin/bulletinlaw05.Sha256Clone", spec := "sha256Clone", inPlace := ["internal/abi.NoEscape"], apart := false, narrowed := true }
def Sha256CloneUptoSaid : Prop := sha256CloneUptoRow.holds Try.pinned (OpenSpec.upto sha256CloneSpec)

/-- 'bulletinlaw05.Sha256Nil', WHERE WHAT IT READS IS OF BULK AT MOST 1048576: true; the input reads as it did. -/
def sha256NilUptoRow : OpenClaim := { program := "ytndcofoilglpjaa", sum := "8f3e56ecc7bc912071cd943fb5ce6f2e25a9fd8fc227c14dc04c83fea37f4f04", func := "bulletin/bulletinlaw05.Sha256Nil", spec := "sha256Nil", inPlace := ["internal/abi.NoEscape"], apart := false, narrowed := true }
def Sha256NilUptoSaid : Prop := sha256NilUptoRow.holds Try.pinned (OpenSpec.upto sha256NilSpec)

/-- 'bulletinlaw05.Sha256Text', WHERE WHAT IT READS IS OF BULK AT MOST 1048576: true; the input reads as it did. -/
def sha256TextUptoRow : OpenClaim := { program := "ytndcofoilglpjaa", sum := "8f3e56ecc7bc912071cd943fb5ce6f2e25a9fd8fc227c14dc04c83fea37f4f04", func := "bulletin/bulletinlaw05.Sha256Text", spec := "sha256Text", inPlace := ["internal/abi.NoEscape", "internal/bytealg.IndexByteString"], unfollowed := true, recurses := true, apart := false, narrowed := true }
def Sha256TextUptoSaid : Prop := sha256TextUptoRow.holds Try.pinned (OpenSpec.upto sha256TextSpec)

/-- 'bulletinlaw05.Sha256Parse', WHERE WHAT IT READS IS OF BULK AT MOST 1048576: true; the input reads as it did. -/
def sha256ParseUptoRow : OpenClaim := { program := "ytndcofoilglpjaa", sum := "8f3e56ecc7bc912071cd943fb5ce6f2e25a9fd8fc227c14dc04c83fea37f4f04", func := "bulletin/bulletinlaw05.Sha256Parse", spec := "sha256Parse", inPlace := ["internal/bytealg.IndexByteString", "internal/abi.NoEscape"], unfollowed := true, recurses := true, apart := false, narrowed := true }
def Sha256ParseUptoSaid : Prop := sha256ParseUptoRow.holds Try.pinned (OpenSpec.upto sha256ParseSpec)

end Rows
end Go.Proofs.Ytndcofoilglpjaa
