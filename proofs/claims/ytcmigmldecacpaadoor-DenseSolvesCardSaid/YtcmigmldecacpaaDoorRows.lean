/-
  NARROWER THAN 'FOR EVERY INPUT', by the rows' own cells (each row's printed sentence says how): VectorAdds: laid · VectorDots: laid · DenseSolves: laid · DenseAny: laid.
  DERIVED. THE GIVEN ROWS OF THIS SEAT. 4 by the template 'for every input the law returns true; each argument reads behind the call as it read before'; 0 by the template 'total and deterministic' (their statements: YtcmigmldecacpaaDoorTotals.lean).
  GIVEN WITH THE SEED: the statements are not yours to turn. If you find one false, say at which input.
  Laid BY PROGRAM, IN A SANDBOX (cutbox-rows.mjs): the forced cells as the released guide's own fill.sh prints them over the translation fe5c1411d5af06a4… (all of the seat's roots in one cut). By AI agents, Wed Nov 11 2026. No macro, syntax, notation, axiom, sorry.
-/
import Derived.Test.YtcmigmldecacpaaDoorChecked
import GoSem.PinnedTables
import GoSem.Claim
import GoSem.ClaimJoined
import GoSem.ClaimMapViews
import Derived.JoinedTies
import Derived.KernelRfl
namespace Go.Proofs.YtcmigmldecacpaaDoor
/- THE CELL 'sum', in the pinned program and in every row, IS THE sha256 OF THE DUMP (.gsa) THAT YtcmigmldecacpaaDoorProg.lean LOADS. Nothing in Lean hashes anything: it is a label: what it is worth is what the hold of that sum in a sandbox is worth. -/
noncomputable def Tryd.pinned : Pinned := { name := "ytcmigmldecacpaadoor", sum := "fe5c1411d5af06a4b1da043532c63ff34ec502e371b5469e3015822dd2465d52", checked := Tryd.checked }
namespace Rows
def none {H : Type} : Left H := { results := [], args := [] }

/- WHAT THE LISTED PACKAGE-LEVEL VARIABLES READ AS WHEN THE CALL BEGINS. Each datum BY PROGRAM (the guide's laid-datum.mjs) off the statement by which the dump's own 'gosem.cut.vars' lays the variable. In a bare row this is a premise. The card (YtcmigmldecacpaaDoorCards.lean) ties it to the program's text. -/
def laid_unicode_utf8_acceptRanges {H : Type} : DataW H := .agg [.agg [.lit (.int .u8 128), .lit (.int .u8 191)], .agg [.lit (.int .u8 160), .lit (.int .u8 191)], .agg [.lit (.int .u8 128), .lit (.int .u8 159)], .agg [.lit (.int .u8 144), .lit (.int .u8 191)], .agg [.lit (.int .u8 128), .lit (.int .u8 143)], .agg [.lit (.int .u8 0), .lit (.int .u8 0)], .agg [.lit (.int .u8 0), .lit (.int .u8 0)], .agg [.lit (.int .u8 0), .lit (.int .u8 0)], .agg [.lit (.int .u8 0), .lit (.int .u8 0)], .agg [.lit (.int .u8 0), .lit (.int .u8 0)], .agg [.lit (.int .u8 0), .lit (.int .u8 0)], .agg [.lit (.int .u8 0), .lit (.int .u8 0)], .agg [.lit (.int .u8 0), .lit (.int .u8 0)], .agg [.lit (.int .u8 0), .lit (.int .u8 0)], .agg [.lit (.int .u8 0), .lit (.int .u8 0)], .agg [.lit (.int .u8 0), .lit (.int .u8 0)]]
/-- One of Go's own tables, pinned by name: the form's constant. -/
def laid_unicode_utf8_first : DataW Unit := Go.Pinned.utf8First

/-- 'geyserlaw04.VectorAdds': WHATEVER THE INPUT: true; the input reads as it did. -/
def vectorAddsSpec : ChangeSpec := { name := "vectorAdds", fn := fun _ => fun
  | [d1, d2, d3] => { results := [.lit (.bool true)], args := [d1, d2, d3] }
  | _ => none }
def vectorAddsRow : OpenClaim := { program := "ytcmigmldecacpaadoor", sum := "fe5c1411d5af06a4b1da043532c63ff34ec502e371b5469e3015822dd2465d52", func := "geyser/geyserlaw04.VectorAdds", spec := "vectorAdds", named := ["unicode/utf8.first", "unicode/utf8.acceptRanges"], apart := false, laid := [("unicode/utf8.acceptRanges", laid_unicode_utf8_acceptRanges), ("unicode/utf8.first", laid_unicode_utf8_first)] }
def VectorAddsSaid : Prop := vectorAddsRow.holds Tryd.pinned (OpenSpec.ofChange vectorAddsSpec)

/-- ITS FALSE NEIGHBOUR: 'it returns false'. Refute it at one input. -/
def vectorAddsWrong : ChangeSpec := { name := "vectorAdds", fn := fun _ => fun
  | [d1, d2, d3] => { results := [.lit (.bool false)], args := [d1, d2, d3] }
  | _ => none }
def VectorAddsWrongFalsely : Prop := vectorAddsRow.holds Tryd.pinned (OpenSpec.ofChange vectorAddsWrong)

/-- 'geyserlaw04.VectorDots': WHATEVER THE INPUT: true; the input reads as it did. -/
def vectorDotsSpec : ChangeSpec := { name := "vectorDots", fn := fun _ => fun
  | [d1, d2] => { results := [.lit (.bool true)], args := [d1, d2] }
  | _ => none }
def vectorDotsRow : OpenClaim := { program := "ytcmigmldecacpaadoor", sum := "fe5c1411d5af06a4b1da043532c63ff34ec502e371b5469e3015822dd2465d52", func := "geyser/geyserlaw04.VectorDots", spec := "vectorDots", named := ["unicode/utf8.first", "unicode/utf8.acceptRanges"], apart := false, laid := [("unicode/utf8.acceptRanges", laid_unicode_utf8_acceptRanges), ("unicode/utf8.first", laid_unicode_utf8_first)] }
def VectorDotsSaid : Prop := vectorDotsRow.holds Tryd.pinned (OpenSpec.ofChange vectorDotsSpec)

/-- ITS FALSE NEIGHBOUR: 'it returns false'. Refute it at one input. -/
def vectorDotsWrong : ChangeSpec := { name := "vectorDots", fn := fun _ => fun
  | [d1, d2] => { results := [.lit (.bool false)], args := [d1, d2] }
  | _ => none }
def VectorDotsWrongFalsely : Prop := vectorDotsRow.holds Tryd.pinned (OpenSpec.ofChange vectorDotsWrong)

/-- 'geyserlaw05.DenseSolves': WHATEVER THE INPUT: true; the input reads as it did. -/
def denseSolvesSpec : ChangeSpec := { name := "denseSolves", fn := fun _ => fun
  | [d1, d2, d3, d4] => { results := [.lit (.bool true)], args := [d1, d2, d3, d4] }
  | _ => none }
def denseSolvesRow : OpenClaim := { program := "ytcmigmldecacpaadoor", sum := "fe5c1411d5af06a4b1da043532c63ff34ec502e371b5469e3015822dd2465d52", func := "geyser/geyserlaw05.DenseSolves", spec := "denseSolves", named := ["unicode/utf8.first", "unicode/utf8.acceptRanges"], apart := false, laid := [("unicode/utf8.acceptRanges", laid_unicode_utf8_acceptRanges), ("unicode/utf8.first", laid_unicode_utf8_first)] }
def DenseSolvesSaid : Prop := denseSolvesRow.holds Tryd.pinned (OpenSpec.ofChange denseSolvesSpec)

/-- ITS FALSE NEIGHBOUR: 'it returns false'. Refute it at one input. -/
def denseSolvesWrong : ChangeSpec := { name := "denseSolves", fn := fun _ => fun
  | [d1, d2, d3, d4] => { results := [.lit (.bool false)], args := [d1, d2, d3, d4] }
  | _ => none }
def DenseSolvesWrongFalsely : Prop := denseSolvesRow.holds Tryd.pinned (OpenSpec.ofChange denseSolvesWrong)

/-- 'geyserlaw05.DenseAny': WHATEVER THE INPUT: true; the input reads as it did. -/
def denseAnySpec : ChangeSpec := { name := "denseAny", fn := fun _ => fun
  | [d1, d2, d3] => { results := [.lit (.bool true)], args := [d1, d2, d3] }
  | _ => none }
def denseAnyRow : OpenClaim := { program := "ytcmigmldecacpaadoor", sum := "fe5c1411d5af06a4b1da043532c63ff34ec502e371b5469e3015822dd2465d52", func := "geyser/geyserlaw05.DenseAny", spec := "denseAny", named := ["unicode/utf8.first", "unicode/utf8.acceptRanges"], apart := false, laid := [("unicode/utf8.acceptRanges", laid_unicode_utf8_acceptRanges), ("unicode/utf8.first", laid_unicode_utf8_first)] }
def DenseAnySaid : Prop := denseAnyRow.holds Tryd.pinned (OpenSpec.ofChange denseAnySpec)

/-- ITS FALSE NEIGHBOUR: 'it returns false'. Refute it at one input. -/
def denseAnyWrong : ChangeSpec := { name := "denseAny", fn := fun _ => fun
  | [d1, d2, d3] => { results := [.lit (.bool false)], args := [d1, d2, d3] }
  | _ => none }
def DenseAnyWrongFalsely : Prop := denseAnyRow.holds Tryd.pinned (OpenSpec.ofChange denseAnyWrong)

/- THE SECOND FORM. 'bulk': how many values and letters a reading holds, each counted each time it is reached (what is shared counts as often as it is met; a slice's spare places count too). A statement '..UptoSaid' is the law's where the arguments, and the package variables that the reading takes, are together of bulk at most 1048576: NARROWER than '..Said'. Prove '..Said' where nothing that the law and all that it calls make is longer than what came in: it says more and counts as full. Else prove '..UptoSaid'. A law counts once. -/
mutual
def uptoBulk {H : Type} : DataW H → Nat
  | .lit (.string bytes) => bytes.length + 1
  | .lit _ => 1
  | .nil => 1
  | .ptr d => uptoBulk d + 1
  | .slice elems spare => uptoBulkAll elems + uptoBulkAll spare + 1
  | .agg parts => uptoBulkAll parts + 1
  | .iface _ d => uptoBulk d + 1
  | .map entries => uptoBulkEntries entries + 1
  | .held _ => 1
def uptoBulkAll {H : Type} : List (DataW H) → Nat
  | [] => 0
  | d :: r => uptoBulk d + uptoBulkAll r
def uptoBulkEntries {H : Type} : List (Lit × DataW H) → Nat
  | [] => 0
  | x :: r => uptoBulkEntry x + uptoBulkEntries r
def uptoBulkEntry {H : Type} : Lit × DataW H → Nat
  | (.string bytes, d) => bytes.length + uptoBulk d + 1
  | (_, d) => uptoBulk d + 1
 end
def uptoSmall : (H : Type) → List (DataW H) → Bool := fun _ ds => decide (uptoBulkAll ds ≤ 1048576)
def OpenSpec.upto (s : _root_.Go.ChangeSpec) : _root_.Go.OpenSpec := { _root_.Go.OpenSpec.ofChange s with cond := some uptoSmall }

/-- 'geyserlaw04.VectorAdds', WHERE WHAT IT READS IS OF BULK AT MOST 1048576: true; the input reads as it did. -/
def vectorAddsUptoRow : OpenClaim := { program := "ytcmigmldecacpaadoor", sum := "fe5c1411d5af06a4b1da043532c63ff34ec502e371b5469e3015822dd2465d52", func := "geyser/geyserlaw04.VectorAdds", spec := "vectorAdds", named := ["unicode/utf8.first", "unicode/utf8.acceptRanges"], apart := false, laid := [("unicode/utf8.acceptRanges", laid_unicode_utf8_acceptRanges), ("unicode/utf8.first", laid_unicode_utf8_first)], narrowed := true }
def VectorAddsUptoSaid : Prop := vectorAddsUptoRow.holds Tryd.pinned (OpenSpec.upto vectorAddsSpec)

/-- 'geyserlaw04.VectorDots', WHERE WHAT IT READS IS OF BULK AT MOST 1048576: true; the input reads as it did. -/
def vectorDotsUptoRow : OpenClaim := { program := "ytcmigmldecacpaadoor", sum := "fe5c1411d5af06a4b1da043532c63ff34ec502e371b5469e3015822dd2465d52", func := "geyser/geyserlaw04.VectorDots", spec := "vectorDots", named := ["unicode/utf8.first", "unicode/utf8.acceptRanges"], apart := false, laid := [("unicode/utf8.acceptRanges", laid_unicode_utf8_acceptRanges), ("unicode/utf8.first", laid_unicode_utf8_first)], narrowed := true }
def VectorDotsUptoSaid : Prop := vectorDotsUptoRow.holds Tryd.pinned (OpenSpec.upto vectorDotsSpec)

/-- 'geyserlaw05.DenseSolves', WHERE WHAT IT READS IS OF BULK AT MOST 1048576: true; the input reads as it did. -/
def denseSolvesUptoRow : OpenClaim := { program := "ytcmigmldecacpaadoor", sum := "fe5c1411d5af06a4b1da043532c63ff34ec502e371b5469e3015822dd2465d52", func := "geyser/geyserlaw05.DenseSolves", spec := "denseSolves", named := ["unicode/utf8.first", "unicode/utf8.acceptRanges"], apart := false, laid := [("unicode/utf8.acceptRanges", laid_unicode_utf8_acceptRanges), ("unicode/utf8.first", laid_unicode_utf8_first)], narrowed := true }
def DenseSolvesUptoSaid : Prop := denseSolvesUptoRow.holds Tryd.pinned (OpenSpec.upto denseSolvesSpec)

/-- 'geyserlaw05.DenseAny', WHERE WHAT IT READS IS OF BULK AT MOST 1048576: true; the input reads as it did. -/
def denseAnyUptoRow : OpenClaim := { program := "ytcmigmldecacpaadoor", sum := "fe5c1411d5af06a4b1da043532c63ff34ec502e371b5469e3015822dd2465d52", func := "geyser/geyserlaw05.DenseAny", spec := "denseAny", named := ["unicode/utf8.first", "unicode/utf8.acceptRanges"], apart := false, laid := [("unicode/utf8.acceptRanges", laid_unicode_utf8_acceptRanges), ("unicode/utf8.first", laid_unicode_utf8_first)], narrowed := true }
def DenseAnyUptoSaid : Prop := denseAnyUptoRow.holds Tryd.pinned (OpenSpec.upto denseAnySpec)

end Rows
end Go.Proofs.YtcmigmldecacpaaDoor
