/-
  No cell of these rows narrows 'for every input' (looked for: loops, veiled, ifaces, maps, wideKeys, modest, calm, conditions, laid).
  DERIVED. THE GIVEN ROWS OF THIS SEAT. 8 by the template 'for every input the law returns true; each argument reads behind the call as it read before'; 0 by the template 'total and deterministic' (their statements: YtbcconeebjmjdaaTotals.lean).
  GIVEN WITH THE SEED: the statements are not yours to turn. If you find one false, say at which input.
  Laid BY PROGRAM, IN A SANDBOX (cutbox-rows.mjs): the forced cells as the released guide's own fill.sh prints them over the translation 18f8e8d10ef9b10f… (all of the seat's roots in one cut). By AI agents, Wed Nov 11 2026. No macro, syntax, notation, axiom, sorry.
-/
import Derived.Test.YtbcconeebjmjdaaChecked
import GoSem.Claim
import GoSem.ClaimJoined
import GoSem.ClaimMapViews
import Derived.JoinedTies
import Derived.KernelRfl
namespace Go.Proofs.Ytbcconeebjmjdaa
/- THE CELL 'sum', in the pinned program and in every row, IS THE sha256 OF THE DUMP (.gsa) THAT YtbcconeebjmjdaaProg.lean LOADS. Nothing in Lean hashes anything: it is a label: what it is worth is what the hold of that sum in a sandbox is worth. -/
noncomputable def Try.pinned : Pinned := { name := "ytbcconeebjmjdaa", sum := "18f8e8d10ef9b10f49d1ec98e3bc5b9eb4a0c0bdbabc3cea86625202577427f0", checked := Try.checked }
namespace Rows
def none {H : Type} : Left H := { results := [], args := [] }

/-- 'bulletinlaw36.WindowOneByOne': WHATEVER THE INPUT: true; the input reads as it did. -/
def windowOneByOneSpec : ChangeSpec := { name := "windowOneByOne", fn := fun _ => fun
  | [d1, d2, d3] => { results := [.lit (.bool true)], args := [d1, d2, d3] }
  | _ => none }
def windowOneByOneRow : OpenClaim := { program := "ytbcconeebjmjdaa", sum := "18f8e8d10ef9b10f49d1ec98e3bc5b9eb4a0c0bdbabc3cea86625202577427f0", func := "bulletin/bulletinlaw36.WindowOneByOne", spec := "windowOneByOne", unfollowed := true, recurses := true, plainKeys := false, apart := false }
def WindowOneByOneSaid : Prop := windowOneByOneRow.holds Try.pinned (OpenSpec.ofChange windowOneByOneSpec)

/-- ITS FALSE NEIGHBOUR: 'it returns false'. Refute it at one input. -/
def windowOneByOneWrong : ChangeSpec := { name := "windowOneByOne", fn := fun _ => fun
  | [d1, d2, d3] => { results := [.lit (.bool false)], args := [d1, d2, d3] }
  | _ => none }
def WindowOneByOneWrongFalsely : Prop := windowOneByOneRow.holds Try.pinned (OpenSpec.ofChange windowOneByOneWrong)

/-- 'bulletinlaw36.WindowSizes': WHATEVER THE INPUT: true; the input reads as it did. -/
def windowSizesSpec : ChangeSpec := { name := "windowSizes", fn := fun _ => fun
  | [d] => { results := [.lit (.bool true)], args := [d] }
  | _ => none }
def windowSizesRow : OpenClaim := { program := "ytbcconeebjmjdaa", sum := "18f8e8d10ef9b10f49d1ec98e3bc5b9eb4a0c0bdbabc3cea86625202577427f0", func := "bulletin/bulletinlaw36.WindowSizes", spec := "windowSizes", unfollowed := true, recurses := true, plainKeys := false, apart := false }
def WindowSizesSaid : Prop := windowSizesRow.holds Try.pinned (OpenSpec.ofChange windowSizesSpec)

/-- ITS FALSE NEIGHBOUR: 'it returns false'. Refute it at one input. -/
def windowSizesWrong : ChangeSpec := { name := "windowSizes", fn := fun _ => fun
  | [d] => { results := [.lit (.bool false)], args := [d] }
  | _ => none }
def WindowSizesWrongFalsely : Prop := windowSizesRow.holds Try.pinned (OpenSpec.ofChange windowSizesWrong)

/-- 'bulletinlaw36.WindowBound': WHATEVER THE INPUT: true; the input reads as it did. -/
def windowBoundSpec : ChangeSpec := { name := "windowBound", fn := fun _ => fun
  | [d1, d2] => { results := [.lit (.bool true)], args := [d1, d2] }
  | _ => none }
def windowBoundRow : OpenClaim := { program := "ytbcconeebjmjdaa", sum := "18f8e8d10ef9b10f49d1ec98e3bc5b9eb4a0c0bdbabc3cea86625202577427f0", func := "bulletin/bulletinlaw36.WindowBound", spec := "windowBound", unfollowed := true, recurses := true, plainKeys := false, apart := false }
def WindowBoundSaid : Prop := windowBoundRow.holds Try.pinned (OpenSpec.ofChange windowBoundSpec)

/-- ITS FALSE NEIGHBOUR: 'it returns false'. Refute it at one input. -/
def windowBoundWrong : ChangeSpec := { name := "windowBound", fn := fun _ => fun
  | [d1, d2] => { results := [.lit (.bool false)], args := [d1, d2] }
  | _ => none }
def WindowBoundWrongFalsely : Prop := windowBoundRow.holds Try.pinned (OpenSpec.ofChange windowBoundWrong)

/-- 'bulletinlaw36.WindowOnce': WHATEVER THE INPUT: true; the input reads as it did. -/
def windowOnceSpec : ChangeSpec := { name := "windowOnce", fn := fun _ => fun
  | [d1, d2] => { results := [.lit (.bool true)], args := [d1, d2] }
  | _ => none }
def windowOnceRow : OpenClaim := { program := "ytbcconeebjmjdaa", sum := "18f8e8d10ef9b10f49d1ec98e3bc5b9eb4a0c0bdbabc3cea86625202577427f0", func := "bulletin/bulletinlaw36.WindowOnce", spec := "windowOnce", unfollowed := true, recurses := true, plainKeys := false, apart := false }
def WindowOnceSaid : Prop := windowOnceRow.holds Try.pinned (OpenSpec.ofChange windowOnceSpec)

/-- ITS FALSE NEIGHBOUR: 'it returns false'. Refute it at one input. -/
def windowOnceWrong : ChangeSpec := { name := "windowOnce", fn := fun _ => fun
  | [d1, d2] => { results := [.lit (.bool false)], args := [d1, d2] }
  | _ => none }
def WindowOnceWrongFalsely : Prop := windowOnceRow.holds Try.pinned (OpenSpec.ofChange windowOnceWrong)

/-- 'bulletinlaw36.WindowDrop': WHATEVER THE INPUT: true; the input reads as it did. -/
def windowDropSpec : ChangeSpec := { name := "windowDrop", fn := fun _ => fun
  | [d1, d2] => { results := [.lit (.bool true)], args := [d1, d2] }
  | _ => none }
def windowDropRow : OpenClaim := { program := "ytbcconeebjmjdaa", sum := "18f8e8d10ef9b10f49d1ec98e3bc5b9eb4a0c0bdbabc3cea86625202577427f0", func := "bulletin/bulletinlaw36.WindowDrop", spec := "windowDrop", unfollowed := true, recurses := true, plainKeys := false, apart := false }
def WindowDropSaid : Prop := windowDropRow.holds Try.pinned (OpenSpec.ofChange windowDropSpec)

/-- ITS FALSE NEIGHBOUR: 'it returns false'. Refute it at one input. -/
def windowDropWrong : ChangeSpec := { name := "windowDrop", fn := fun _ => fun
  | [d1, d2] => { results := [.lit (.bool false)], args := [d1, d2] }
  | _ => none }
def WindowDropWrongFalsely : Prop := windowDropRow.holds Try.pinned (OpenSpec.ofChange windowDropWrong)

/-- 'bulletinlaw36.WindowAnswers': WHATEVER THE INPUT: true; the input reads as it did. -/
def windowAnswersSpec : ChangeSpec := { name := "windowAnswers", fn := fun _ => fun
  | [d1, d2, d3, d4] => { results := [.lit (.bool true)], args := [d1, d2, d3, d4] }
  | _ => none }
def windowAnswersRow : OpenClaim := { program := "ytbcconeebjmjdaa", sum := "18f8e8d10ef9b10f49d1ec98e3bc5b9eb4a0c0bdbabc3cea86625202577427f0", func := "bulletin/bulletinlaw36.WindowAnswers", spec := "windowAnswers", unfollowed := true, recurses := true, plainKeys := false, apart := false }
def WindowAnswersSaid : Prop := windowAnswersRow.holds Try.pinned (OpenSpec.ofChange windowAnswersSpec)

/-- ITS FALSE NEIGHBOUR: 'it returns false'. Refute it at one input. -/
def windowAnswersWrong : ChangeSpec := { name := "windowAnswers", fn := fun _ => fun
  | [d1, d2, d3, d4] => { results := [.lit (.bool false)], args := [d1, d2, d3, d4] }
  | _ => none }
def WindowAnswersWrongFalsely : Prop := windowAnswersRow.holds Try.pinned (OpenSpec.ofChange windowAnswersWrong)

/-- 'bulletinlaw36.WindowClone': WHATEVER THE INPUT: true; the input reads as it did. -/
def windowCloneSpec : ChangeSpec := { name := "windowClone", fn := fun _ => fun
  | [d1, d2, d3] => { results := [.lit (.bool true)], args := [d1, d2, d3] }
  | _ => none }
def windowCloneRow : OpenClaim := { program := "ytbcconeebjmjdaa", sum := "18f8e8d10ef9b10f49d1ec98e3bc5b9eb4a0c0bdbabc3cea86625202577427f0", func := "bulletin/bulletinlaw36.WindowClone", spec := "windowClone", unfollowed := true, recurses := true, plainKeys := false, apart := false }
def WindowCloneSaid : Prop := windowCloneRow.holds Try.pinned (OpenSpec.ofChange windowCloneSpec)

/-- ITS FALSE NEIGHBOUR: 'it returns false'. Refute it at one input. -/
def windowCloneWrong : ChangeSpec := { name := "windowClone", fn := fun _ => fun
  | [d1, d2, d3] => { results := [.lit (.bool false)], args := [d1, d2, d3] }
  | _ => none }
def WindowCloneWrongFalsely : Prop := windowCloneRow.holds Try.pinned (OpenSpec.ofChange windowCloneWrong)

/-- 'bulletinlaw36.WindowNil': WHATEVER THE INPUT: true; the input reads as it did. -/
def windowNilSpec : ChangeSpec := { name := "windowNil", fn := fun _ => fun
  | [d1, d2] => { results := [.lit (.bool true)], args := [d1, d2] }
  | _ => none }
def windowNilRow : OpenClaim := { program := "ytbcconeebjmjdaa", sum := "18f8e8d10ef9b10f49d1ec98e3bc5b9eb4a0c0bdbabc3cea86625202577427f0", func := "bulletin/bulletinlaw36.WindowNil", spec := "windowNil", unfollowed := true, recurses := true, plainKeys := false, apart := false }
def WindowNilSaid : Prop := windowNilRow.holds Try.pinned (OpenSpec.ofChange windowNilSpec)

/-- ITS FALSE NEIGHBOUR: 'it returns false'. Refute it at one input. -/
def windowNilWrong : ChangeSpec := { name := "windowNil", fn := fun _ => fun
  | [d1, d2] => { results := [.lit (.bool false)], args := [d1, d2] }
  | _ => none }
def WindowNilWrongFalsely : Prop := windowNilRow.holds Try.pinned (OpenSpec.ofChange windowNilWrong)

/- THE SECOND FORM. 'bulk': how many values and letters a reading holds, each counted each time it is reached (what is shared counts as often as it is met; a slice's spare places count too). A statement '..UptoSaid' is the law's where the arguments, and the package variables that the reading takes, are together of bulk at most 1048576: NARROWER than '..Said'. Prove '..Said' where nothing that the law and all that it calls make is longer than what came in: it says more and counts as full. Else prove '..UptoSaid'. A law counts once. -/
mutual
def uptoBulk {H : Type} : DataW H → Nat
  | .lit (.string bytes) => bytes.length + 1
  | .lit _ => 1
  | .nil => 1
  | .ptr d => uptoBulk d + 1
  | .slice elems spare => uptoBulkAll elems + uptoBulkAll spare + 1
  | .agg parts => uptoBulkAll parts + 1
  | .iface _ d => uptoBulk d + 1
  | .map entries => uptoBulkEntries entries + 1
  | .held _ => 1
def uptoBulkAll {H : Type} : List (DataW H) → Nat
  | [] => 0
  | d :: r => uptoBulk d + uptoBulkAll r
def uptoBulkEntries {H : Type} : List (Lit × DataW H) → Nat
  | [] => 0
  | x :: r => uptoBulkEntry x + uptoBulkEntries r
def uptoBulkEntry {H : Type} : Lit × DataW H → Nat
  | (.string bytes, d) => bytes.length + uptoBulk d + 1
  | (_, d) => uptoBulk d + 1
 end
def uptoSmall : (H : Type) → List (DataW H) → Bool := fun _ ds => decide (uptoBulkAll ds ≤ 1048576)
def OpenSpec.upto (s : _root_.Go.ChangeSpec) : _root_.Go.OpenSpec := { _root_.Go.OpenSpec.ofChange s with cond := some uptoSmall }

/-- 'bulletinlaw36.WindowOneByOne', WHERE WHAT IT READS IS OF BULK AT MOST 1048576: true; the input reads as it did. -/
def windowOneByOneUptoRow : OpenClaim := { program := "ytbcconeebjmjdaa", sum := "18f8e8d10ef9b10f49d1ec98e3bc5b9eb4a0c0bdbabc3cea86625202577427f0", func := "bulletin/bulletinlaw36.WindowOneByOne", spec := "windowOneByOne", unfollowed := true, recurses := true, plainKeys := false, apart := false, narrowed := true }
def WindowOneByOneUptoSaid : Prop := windowOneByOneUptoRow.holds Try.pinned (OpenSpec.upto windowOneByOneSpec)

/-- 'bulletinlaw36.WindowSizes', WHERE WHAT IT READS IS OF BULK AT MOST 1048576: true; the input reads as it did. -/
def windowSizesUptoRow : OpenClaim := { program := "ytbcconeebjmjdaa", sum := "18f8e8d10ef9b10f49d1ec98e3bc5b9eb4a0c0bdbabc3cea86625202577427f0", func := "bulletin/bulletinlaw36.WindowSizes", spec := "windowSizes", unfollowed := true, recurses := true, plainKeys := false, apart := false, narrowed := true }
def WindowSizesUptoSaid : Prop := windowSizesUptoRow.holds Try.pinned (OpenSpec.upto windowSizesSpec)

/-- 'bulletinlaw36.WindowBound', WHERE WHAT IT READS IS OF BULK AT MOST 1048576: true; the input reads as it did. -/
def windowBoundUptoRow : OpenClaim := { program := "ytbcconeebjmjdaa", sum := "18f8e8d10ef9b10f49d1ec98e3bc5b9eb4a0c0bdbabc3cea86625202577427f0", func := "bulletin/bulletinlaw36.WindowBound", spec := "windowBound", unfollowed := true, recurses := true, plainKeys := false, apart := false, narrowed := true }
def WindowBoundUptoSaid : Prop := windowBoundUptoRow.holds Try.pinned (OpenSpec.upto windowBoundSpec)

/-- 'bulletinlaw36.WindowOnce', WHERE WHAT IT READS IS OF BULK AT MOST 1048576: true; the input reads as it did. -/
def windowOnceUptoRow : OpenClaim := { program := "ytbcconeebjmjdaa", sum := "18f8e8d10ef9b10f49d1ec98e3bc5b9eb4a0c0bdbabc3cea86625202577427f0", func := "bulletin/bulletinlaw36.WindowOnce", spec := "windowOnce", unfollowed := true, recurses := true, plainKeys := false, apart := false, narrowed := true }
def WindowOnceUptoSaid : Prop := windowOnceUptoRow.holds Try.pinned (OpenSpec.upto windowOnceSpec)

/-- 'bulletinlaw36.WindowDrop', WHERE WHAT IT READS IS OF BULK AT MOST 1048576: true; the input reads as it did. -/
def windowDropUptoRow : OpenClaim := { program := "ytbcconeebjmjdaa", sum := "18f8e8d10ef9b10f49d1ec98e3bc5b9eb4a0c0bdbabc3cea86625202577427f0", func := "bulletin/bulletinlaw36.WindowDrop", spec := "windowDrop", unfollowed := true, recurses := true, plainKeys := false, apart := false, narrowed := true }
def WindowDropUptoSaid : Prop := windowDropUptoRow.holds Try.pinned (OpenSpec.upto windowDropSpec)

/-- 'bulletinlaw36.WindowAnswers', WHERE WHAT IT READS IS OF BULK AT MOST 1048576: true; the input reads as it did. -/
def windowAnswersUptoRow : OpenClaim := { program := "ytbcconeebjmjdaa", sum := "18f8e8d10ef9b10f49d1ec98e3bc5b9eb4a0c0bdbabc3cea86625202577427f0", func := "bulletin/bulletinlaw36.WindowAnswers", spec := "windowAnswers", unfollowed := true, recurses := true, plainKeys := false, apart := false, narrowed := true }
def WindowAnswersUptoSaid : Prop := windowAnswersUptoRow.holds Try.pinned (OpenSpec.upto windowAnswersSpec)

/-- 'bulletinlaw36.WindowClone', WHERE WHAT IT READS IS OF BULK AT MOST 1048576: true; the input reads as it did. -/
def windowCloneUptoRow : OpenClaim := { program := "ytbcconeebjmjdaa", sum := "18f8e8d10ef9b10f49d1ec98e3bc5b9eb4a0c0bdbabc3cea86625202577427f0", func := "bulletin/bulletinlaw36.WindowClone", spec := "windowClone", unfollowed := true, recurses := true, plainKeys := false, apart := false, narrowed := true }
def WindowCloneUptoSaid : Prop := windowCloneUptoRow.holds Try.pinned (OpenSpec.upto windowCloneSpec)

/-- 'bulletinlaw36.WindowNil', WHERE WHAT IT READS IS OF BULK AT MOST 1048576: true; the input reads as it did. -/
def windowNilUptoRow : OpenClaim := { program := "ytbcconeebjmjdaa", sum := "18f8e8d10ef9b10f49d1ec98e3bc5b9eb4a0c0bdbabc3cea86625202577427f0", func := "bulletin/bulletinlaw36.WindowNil", spec := "windowNil", unfollowed := true, recurses := true, plainKeys := false, apart := false, narrowed := true }
def WindowNilUptoSaid : Prop := windowNilUptoRow.holds Try.pinned (OpenSpec.upto windowNilSpec)

end Rows
end Go.Proofs.Ytbcconeebjmjdaa
