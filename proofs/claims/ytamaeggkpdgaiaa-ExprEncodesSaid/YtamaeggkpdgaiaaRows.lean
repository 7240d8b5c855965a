/-
  No cell of these rows narrows 'for every input' (looked for: loops, veiled, ifaces, maps, wideKeys, modest, calm, conditions, laid).
  DERIVED. THE GIVEN ROWS OF THIS SEAT. 6 by the template 'for every input the law returns true; each argument reads behind the call as it read before'; 0 by the template 'total and deterministic' (their statements: YtamaeggkpdgaiaaTotals.lean).
  GIVEN WITH THE SEED: the statements are not yours to turn. If you find one false, say at which input.
  Laid BY PROGRAM, IN A SANDBOX (cutbox-rows.mjs): the forced cells as the released guide's own fill.sh prints them over the translation 334c55b0ed30c5b9… (all of the seat's roots in one cut). By AI agents, Wed Nov 11 2026. No macro, syntax, notation, axiom, sorry.
-/
import Derived.Test.YtamaeggkpdgaiaaChecked
import GoSem.Claim
import GoSem.ClaimJoined
import GoSem.ClaimMapViews
import Derived.JoinedTies
import Derived.KernelRfl
namespace Go.Proofs.Ytamaeggkpdgaiaa
/- THE CELL 'sum', in the pinned program and in every row, IS THE sha256 OF THE DUMP (.gsa) THAT YtamaeggkpdgaiaaProg.lean LOADS. Nothing in Lean hashes anything: it is a label: what it is worth is what the hold of that sum in a sandbox is worth. -/
noncomputable def Try.pinned : Pinned := { name := "ytamaeggkpdgaiaa", sum := "334c55b0ed30c5b96715694626a70456add6838aab4ad1f8f11598b54e02d72e", checked := Try.checked }
namespace Rows
def none {H : Type} : Left H := { results := [], args := [] }

/-- 'vergelaw14.ShortWides': WHATEVER THE INPUT: true; the input reads as it did. -/
def shortWidesSpec : ChangeSpec := { name := "shortWides", fn := fun _ => fun
  | [d] => { results := [.lit (.bool true)], args := [d] }
  | _ => none }
def shortWidesRow : OpenClaim := { program := "ytamaeggkpdgaiaa", sum := "334c55b0ed30c5b96715694626a70456add6838aab4ad1f8f11598b54e02d72e", func := "verge/vergelaw14.ShortWides", spec := "shortWides", inPlace := ["math.Float32frombits", "math.Float64bits", "math.Float64frombits"], apart := false }
def ShortWidesSaid : Prop := shortWidesRow.holds Try.pinned (OpenSpec.ofChange shortWidesSpec)

/-- ITS FALSE NEIGHBOUR: 'it returns false'. Refute it at one input. -/
def shortWidesWrong : ChangeSpec := { name := "shortWides", fn := fun _ => fun
  | [d] => { results := [.lit (.bool false)], args := [d] }
  | _ => none }
def ShortWidesWrongFalsely : Prop := shortWidesRow.holds Try.pinned (OpenSpec.ofChange shortWidesWrong)

/-- 'vergelaw14.ShortMeets': WHATEVER THE INPUT: true; the input reads as it did. -/
def shortMeetsSpec : ChangeSpec := { name := "shortMeets", fn := fun _ => fun
  | [d1, d2, d3, d4] => { results := [.lit (.bool true)], args := [d1, d2, d3, d4] }
  | _ => none }
def shortMeetsRow : OpenClaim := { program := "ytamaeggkpdgaiaa", sum := "334c55b0ed30c5b96715694626a70456add6838aab4ad1f8f11598b54e02d72e", func := "verge/vergelaw14.ShortMeets", spec := "shortMeets", inPlace := ["math.Float32frombits", "math.Float64bits", "math.Float64frombits", "math.Float32bits"], apart := false }
def ShortMeetsSaid : Prop := shortMeetsRow.holds Try.pinned (OpenSpec.ofChange shortMeetsSpec)

/-- ITS FALSE NEIGHBOUR: 'it returns false'. Refute it at one input. -/
def shortMeetsWrong : ChangeSpec := { name := "shortMeets", fn := fun _ => fun
  | [d1, d2, d3, d4] => { results := [.lit (.bool false)], args := [d1, d2, d3, d4] }
  | _ => none }
def ShortMeetsWrongFalsely : Prop := shortMeetsRow.holds Try.pinned (OpenSpec.ofChange shortMeetsWrong)

/-- 'vergelaw16.ExprChecks': WHATEVER THE INPUT: true; the input reads as it did. -/
def exprChecksSpec : ChangeSpec := { name := "exprChecks", fn := fun _ => fun
  | [d] => { results := [.lit (.bool true)], args := [d] }
  | _ => none }
def exprChecksRow : OpenClaim := { program := "ytamaeggkpdgaiaa", sum := "334c55b0ed30c5b96715694626a70456add6838aab4ad1f8f11598b54e02d72e", func := "verge/vergelaw16.ExprChecks", spec := "exprChecks", inPlace := ["math.Float64frombits", "math.Float64bits"], apart := false }
def ExprChecksSaid : Prop := exprChecksRow.holds Try.pinned (OpenSpec.ofChange exprChecksSpec)

/-- ITS FALSE NEIGHBOUR: 'it returns false'. Refute it at one input. -/
def exprChecksWrong : ChangeSpec := { name := "exprChecks", fn := fun _ => fun
  | [d] => { results := [.lit (.bool false)], args := [d] }
  | _ => none }
def ExprChecksWrongFalsely : Prop := exprChecksRow.holds Try.pinned (OpenSpec.ofChange exprChecksWrong)

/-- 'vergelaw14.ShortNarrows': WHATEVER THE INPUT: true; the input reads as it did. -/
def shortNarrowsSpec : ChangeSpec := { name := "shortNarrows", fn := fun _ => fun
  | [d] => { results := [.lit (.bool true)], args := [d] }
  | _ => none }
def shortNarrowsRow : OpenClaim := { program := "ytamaeggkpdgaiaa", sum := "334c55b0ed30c5b96715694626a70456add6838aab4ad1f8f11598b54e02d72e", func := "verge/vergelaw14.ShortNarrows", spec := "shortNarrows", inPlace := ["math.Float64frombits", "math.Float64bits", "math.Float32bits", "math.Float32frombits"], apart := false }
def ShortNarrowsSaid : Prop := shortNarrowsRow.holds Try.pinned (OpenSpec.ofChange shortNarrowsSpec)

/-- ITS FALSE NEIGHBOUR: 'it returns false'. Refute it at one input. -/
def shortNarrowsWrong : ChangeSpec := { name := "shortNarrows", fn := fun _ => fun
  | [d] => { results := [.lit (.bool false)], args := [d] }
  | _ => none }
def ShortNarrowsWrongFalsely : Prop := shortNarrowsRow.holds Try.pinned (OpenSpec.ofChange shortNarrowsWrong)

/-- 'vergelaw14.ShortReads': WHATEVER THE INPUT: true; the input reads as it did. -/
def shortReadsSpec : ChangeSpec := { name := "shortReads", fn := fun _ => fun
  | [d] => { results := [.lit (.bool true)], args := [d] }
  | _ => none }
def shortReadsRow : OpenClaim := { program := "ytamaeggkpdgaiaa", sum := "334c55b0ed30c5b96715694626a70456add6838aab4ad1f8f11598b54e02d72e", func := "verge/vergelaw14.ShortReads", spec := "shortReads", inPlace := ["math.Float32frombits", "math.Float64bits", "math.Float64frombits", "math.Float32bits"], apart := false }
def ShortReadsSaid : Prop := shortReadsRow.holds Try.pinned (OpenSpec.ofChange shortReadsSpec)

/-- ITS FALSE NEIGHBOUR: 'it returns false'. Refute it at one input. -/
def shortReadsWrong : ChangeSpec := { name := "shortReads", fn := fun _ => fun
  | [d] => { results := [.lit (.bool false)], args := [d] }
  | _ => none }
def ShortReadsWrongFalsely : Prop := shortReadsRow.holds Try.pinned (OpenSpec.ofChange shortReadsWrong)

/-- 'vergelaw16.ExprEncodes': WHATEVER THE INPUT: true; the input reads as it did. -/
def exprEncodesSpec : ChangeSpec := { name := "exprEncodes", fn := fun _ => fun
  | [d] => { results := [.lit (.bool true)], args := [d] }
  | _ => none }
def exprEncodesRow : OpenClaim := { program := "ytamaeggkpdgaiaa", sum := "334c55b0ed30c5b96715694626a70456add6838aab4ad1f8f11598b54e02d72e", func := "verge/vergelaw16.ExprEncodes", spec := "exprEncodes", inPlace := ["math.Float64frombits", "math.Float64bits"], unfollowed := true, recurses := true, apart := false }
def ExprEncodesSaid : Prop := exprEncodesRow.holds Try.pinned (OpenSpec.ofChange exprEncodesSpec)

/-- ITS FALSE NEIGHBOUR: 'it returns false'. Refute it at one input. -/
def exprEncodesWrong : ChangeSpec := { name := "exprEncodes", fn := fun _ => fun
  | [d] => { results := [.lit (.bool false)], args := [d] }
  | _ => none }
def ExprEncodesWrongFalsely : Prop := exprEncodesRow.holds Try.pinned (OpenSpec.ofChange exprEncodesWrong)

/- THE SECOND FORM. 'bulk': how many values and letters a reading holds, each counted each time it is reached (what is shared counts as often as it is met; a slice's spare places count too). A statement '..UptoSaid' is the law's where the arguments, and the package variables that the reading takes, are together of bulk at most 1048576: NARROWER than '..Said'. Prove '..Said' where nothing that the law and all that it calls make is longer than what came in: it says more and counts as full. Else prove '..UptoSaid'. A law counts once. -/
mutual
def uptoBulk {H : Type} : DataW H → Nat
  | .lit (.string bytes) => bytes.length + 1
  | .lit _ => 1
  | .nil => 1
  | .ptr d => uptoBulk d + 1
  | .slice elems spare => uptoBulkAll elems + uptoBulkAll spare + 1
  | .agg parts => uptoBulkAll parts + 1
  | .iface _ d => uptoBulk d + 1
  | .map entries => uptoBulkEntries entries + 1
  | .held _ => 1
def uptoBulkAll {H : Type} : List (DataW H) → Nat
  | [] => 0
  | d :: r => uptoBulk d + uptoBulkAll r
def uptoBulkEntries {H : Type} : List (Lit × DataW H) → Nat
  | [] => 0
  | x :: r => uptoBulkEntry x + uptoBulkEntries r
def uptoBulkEntry {H : Type} : Lit × DataW H → Nat
  | (.string bytes, d) => bytes.length + uptoBulk d + 1
  | (_, d) => uptoBulk d + 1
 end
def uptoSmall : (H : Type) → List (DataW H) → Bool := fun _ ds => decide (uptoBulkAll ds ≤ 1048576)
def OpenSpec.upto (s : _root_.Go.ChangeSpec) : _root_.Go.OpenSpec := { _root_.Go.OpenSpec.ofChange s with cond := some uptoSmall }

/-- 'vergelaw14.ShortWides', WHERE WHAT IT READS IS OF BULK AT MOST 1048576: true; the input reads as it did. -/
def shortWidesUptoRow : OpenClaim := { program := "ytamaeggkpdgaiaa", sum := "334c55b0ed30c5b96715694626a70456add6838aab4ad1f8f11598b54e02d72e", func := "verge/vergelaw14.ShortWides", spec := "shortWides", inPlace := ["math.Float32frombits", "math.Float64bits", "math.Float64frombits"], apart := false, narrowed := true }
def ShortWidesUptoSaid : Prop := shortWidesUptoRow.holds Try.pinned (OpenSpec.upto shortWidesSpec)

/-- 'vergelaw14.ShortMeets', WHERE WHAT IT READS IS OF BULK AT MOST 1048576: true; the input reads as it did. -/
def shortMeetsUptoRow : OpenClaim := { program := "ytamaeggkpdgaiaa", sum := "334c55b0ed30c5b96715694626a70456add6838aab4ad1f8f11598b54e02d72e", func := "verge/vergelaw14.ShortMeets", spec := "shortMeets", inPlace := ["math.Float32frombits", "math.Float64bits", "math.Float64frombits", "math.Float32bits"], apart := false, narrowed := true }
def ShortMeetsUptoSaid : Prop := shortMeetsUptoRow.holds Try.pinned (OpenSpec.upto shortMeetsSpec)

/-- 'vergelaw16.ExprChecks', WHERE WHAT IT READS IS OF BULK AT MOST 1048576: true; the input reads as it did. -/
def exprChecksUptoRow : OpenClaim := { program := "ytamaeggkpdgaiaa", sum := "334c55b0ed30c5b96715694626a70456add6838aab4ad1f8f11598b54e02d72e", func := "verge/vergelaw16.ExprChecks", spec := "exprChecks", inPlace := ["math.Float64frombits", "math.Float64bits"], apart := false, narrowed := true }
def ExprChecksUptoSaid : Prop := exprChecksUptoRow.holds Try.pinned (OpenSpec.upto exprChecksSpec)

/-- 'vergelaw14.ShortNarrows', WHERE WHAT IT READS IS OF BULK AT MOST 1048576: true; the input reads as it did. -/
def shortNarrowsUptoRow : OpenClaim := { program := "ytamaeggkpdgaiaa", sum := "334c55b0ed30c5b96715694626a70456add6838aab4ad1f8f11598b54e02d72e", func := "verge/vergelaw14.ShortNarrows", spec := "shortNarrows", inPlace := ["math.Float64frombits", "math.Float64bits", "math.Float32bits", "math.Float32frombits"], apart := false, narrowed := true }
def ShortNarrowsUptoSaid : Prop := shortNarrowsUptoRow.holds Try.pinned (OpenSpec.upto shortNarrowsSpec)

/-- 'vergelaw14.ShortReads', WHERE WHAT IT READS IS OF BULK AT MOST 1048576: true; the input reads as it did. -/
def shortReadsUptoRow : OpenClaim := { program := "ytamaeggkpdgaiaa", sum := "334c55b0ed30c5b96715694626a70456add6838aab4ad1f8f11598b54e02d72e", func := "verge/vergelaw14.ShortReads", spec := "shortReads", inPlace := ["math.Float32frombits", "math.Float64bits", "math.Float64frombits", "math.Float32bits"], apart := false, narrowed := true }
def ShortReadsUptoSaid : Prop := shortReadsUptoRow.holds Try.pinned (OpenSpec.upto shortReadsSpec)

/-- 'vergelaw16.ExprEncodes', WHERE WHAT IT READS IS OF BULK AT MOST 1048576: true; the input reads as it did. -/
def exprEncodesUptoRow : OpenClaim := { program := "ytamaeggkpdgaiaa", sum := "334c55b0ed30c5b96715694626a70456add6838aab4ad1f8f11598b54e02d72e", func := "verge/vergelaw16.ExprEncodes", spec := "exprEncodes", inPlace := ["math.Float64frombits", "math.Float64bits"], unfollowed := true, recurses := true, apart := false, narrowed := true }
def ExprEncodesUptoSaid : Prop := exprEncodesUptoRow.holds Try.pinned (OpenSpec.upto exprEncodesSpec)

end Rows
end Go.Proofs.Ytamaeggkpdgaiaa
