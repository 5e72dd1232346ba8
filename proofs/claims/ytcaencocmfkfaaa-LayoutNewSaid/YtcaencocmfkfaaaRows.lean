/-
  No cell of these rows narrows 'for every input' (looked for: loops, veiled, ifaces, maps, wideKeys, modest, calm, conditions, laid).
  DERIVED. THE GIVEN ROWS OF THIS SEAT. 4 by the template 'for every input the law returns true; each argument reads behind the call as it read before'; 0 by the template 'total and deterministic' (their statements: YtcaencocmfkfaaaTotals.lean).
  GIVEN WITH THE SEED: the statements are not yours to turn. If you find one false, say at which input.
  Laid BY PROGRAM, IN A SANDBOX (cutbox-rows.mjs): the forced cells as the released guide's own fill.sh prints them over the translation 08f61e6b73bb3cff… (all of the seat's roots in one cut). By AI agents, Wed Nov 11 2026. No macro, syntax, notation, axiom, sorry.
-/
import Derived.Test.YtcaencocmfkfaaaChecked
import GoSem.Claim
import GoSem.ClaimJoined
import GoSem.ClaimMapViews
import Derived.JoinedTies
import Derived.KernelRfl
namespace Go.Proofs.Ytcaencocmfkfaaa
/- THE CELL 'sum', in the pinned program and in every row, IS THE sha256 OF THE DUMP (.gsa) THAT YtcaencocmfkfaaaProg.lean LOADS. Nothing in Lean hashes anything: it is a label: what it is worth is what the hold of that sum in a sandbox is worth. -/
noncomputable def Try.pinned : Pinned := { name := "ytcaencocmfkfaaa", sum := "08f61e6b73bb3cffb36f553e291dad988df1f5eb049cae332618c320df055f01", checked := Try.checked }
namespace Rows
def none {H : Type} : Left H := { results := [], args := [] }

/-- 'chanfabriclaw5.LayoutChecks': WHATEVER THE INPUT: true; the input reads as it did. -/
def layoutChecksSpec : ChangeSpec := { name := "layoutChecks", fn := fun _ => fun
  | [d1, d2] => { results := [.lit (.bool true)], args := [d1, d2] }
  | _ => none }
def layoutChecksRow : OpenClaim := { program := "ytcaencocmfkfaaa", sum := "08f61e6b73bb3cffb36f553e291dad988df1f5eb049cae332618c320df055f01", func := "chanfabric/chanfabriclaw5.LayoutChecks", spec := "layoutChecks", apart := false }
def LayoutChecksSaid : Prop := layoutChecksRow.holds Try.pinned (OpenSpec.ofChange layoutChecksSpec)

/-- ITS FALSE NEIGHBOUR: 'it returns false'. Refute it at one input. -/
def layoutChecksWrong : ChangeSpec := { name := "layoutChecks", fn := fun _ => fun
  | [d1, d2] => { results := [.lit (.bool false)], args := [d1, d2] }
  | _ => none }
def LayoutChecksWrongFalsely : Prop := layoutChecksRow.holds Try.pinned (OpenSpec.ofChange layoutChecksWrong)

/-- 'chanfabriclaw5.LayoutDistinct': WHATEVER THE INPUT: true; the input reads as it did. -/
def layoutDistinctSpec : ChangeSpec := { name := "layoutDistinct", fn := fun _ => fun
  | [d] => { results := [.lit (.bool true)], args := [d] }
  | _ => none }
def layoutDistinctRow : OpenClaim := { program := "ytcaencocmfkfaaa", sum := "08f61e6b73bb3cffb36f553e291dad988df1f5eb049cae332618c320df055f01", func := "chanfabric/chanfabriclaw5.LayoutDistinct", spec := "layoutDistinct", unfollowed := true, recurses := true, apart := false }
def LayoutDistinctSaid : Prop := layoutDistinctRow.holds Try.pinned (OpenSpec.ofChange layoutDistinctSpec)

/-- ITS FALSE NEIGHBOUR: 'it returns false'. Refute it at one input. -/
def layoutDistinctWrong : ChangeSpec := { name := "layoutDistinct", fn := fun _ => fun
  | [d] => { results := [.lit (.bool false)], args := [d] }
  | _ => none }
def LayoutDistinctWrongFalsely : Prop := layoutDistinctRow.holds Try.pinned (OpenSpec.ofChange layoutDistinctWrong)

/-- 'chanfabriclaw5.LayoutWords': WHATEVER THE INPUT: true; the input reads as it did. -/
def layoutWordsSpec : ChangeSpec := { name := "layoutWords", fn := fun _ => fun
  | [d1, d2] => { results := [.lit (.bool true)], args := [d1, d2] }
  | _ => none }
def layoutWordsRow : OpenClaim := { program := "ytcaencocmfkfaaa", sum := "08f61e6b73bb3cffb36f553e291dad988df1f5eb049cae332618c320df055f01", func := "chanfabric/chanfabriclaw5.LayoutWords", spec := "layoutWords", apart := false }
def LayoutWordsSaid : Prop := layoutWordsRow.holds Try.pinned (OpenSpec.ofChange layoutWordsSpec)

/-- ITS FALSE NEIGHBOUR: 'it returns false'. Refute it at one input. -/
def layoutWordsWrong : ChangeSpec := { name := "layoutWords", fn := fun _ => fun
  | [d1, d2] => { results := [.lit (.bool false)], args := [d1, d2] }
  | _ => none }
def LayoutWordsWrongFalsely : Prop := layoutWordsRow.holds Try.pinned (OpenSpec.ofChange layoutWordsWrong)

/-- 'chanfabriclaw5.LayoutNew': WHATEVER THE INPUT: true; the input reads as it did. -/
def layoutNewSpec : ChangeSpec := { name := "layoutNew", fn := fun _ => fun
  | [d1, d2] => { results := [.lit (.bool true)], args := [d1, d2] }
  | _ => none }
def layoutNewRow : OpenClaim := { program := "ytcaencocmfkfaaa", sum := "08f61e6b73bb3cffb36f553e291dad988df1f5eb049cae332618c320df055f01", func := "chanfabric/chanfabriclaw5.LayoutNew", spec := "layoutNew", apart := false }
def LayoutNewSaid : Prop := layoutNewRow.holds Try.pinned (OpenSpec.ofChange layoutNewSpec)

/-- ITS FALSE NEIGHBOUR: 'it returns false'. Refute it at one input. -/
def layoutNewWrong : ChangeSpec := { name := "layoutNew", fn := fun _ => fun
  | [d1, d2] => { results := [.lit (.bool false)], args := [d1, d2] }
  | _ => none }
def LayoutNewWrongFalsely : Prop := layoutNewRow.holds Try.pinned (OpenSpec.ofChange layoutNewWrong)

/- THE SECOND FORM. 'bulk': how many values and letters a reading holds, each counted each time it is reached (what is shared counts as often as it is met; a slice's spare places count too). A statement '..UptoSaid' is the law's where the arguments, and the package variables that the reading takes, are together of bulk at most 1048576: NARROWER than '..Said'. Prove '..Said' where nothing that the law and all that it calls make is longer than what came in: it says more and counts as full. Else prove '..UptoSaid'. A law counts once. -/
mutual
def uptoBulk {H : Type} : DataW H → Nat
  | .lit (.string bytes) => bytes.length + 1
  | .lit _ => 1
  | .nil => 1
  | .ptr d => uptoBulk d + 1
  | .slice elems spare => uptoBulkAll elems + uptoBulkAll spare + 1
  | .agg parts => uptoBulkAll parts + 1
  | .iface _ d => uptoBulk d + 1
  | .map entries => uptoBulkEntries entries + 1
  | .held _ => 1
def uptoBulkAll {H : Type} : List (DataW H) → Nat
  | [] => 0
  | d :: r => uptoBulk d + uptoBulkAll r
def uptoBulkEntries {H : Type} : List (Lit × DataW H) → Nat
  | [] => 0
  | x :: r => uptoBulkEntry x + uptoBulkEntries r
def uptoBulkEntry {H : Type} : Lit × DataW H → Nat
  | (.string bytes, d) => bytes.length + uptoBulk d + 1
  | (_, d) => uptoBulk d + 1
 end
def uptoSmall : (H : Type) → List (DataW H) → Bool := fun _ ds => decide (uptoBulkAll ds ≤ 1048576)
def OpenSpec.upto (s : _root_.Go.ChangeSpec) : _root_.Go.OpenSpec := { _root_.Go.OpenSpec.ofChange s with cond := some uptoSmall }

/-- 'chanfabriclaw5.LayoutChecks', WHERE WHAT IT READS IS OF BULK AT MOST 1048576: true; the input reads as it did. -/
def layoutChecksUptoRow : OpenClaim := { program := "ytcaencocmfkfaaa", sum := "08f61e6b73bb3cffb36f553e291dad988df1f5eb049cae332618c320df055f01", func := "chanfabric/chanfabriclaw5.LayoutChecks", spec := "layoutChecks", apart := false, narrowed := true }
def LayoutChecksUptoSaid : Prop := layoutChecksUptoRow.holds Try.pinned (OpenSpec.upto layoutChecksSpec)

/-- 'chanfabriclaw5.LayoutDistinct', WHERE WHAT IT READS IS OF BULK AT MOST 1048576: true; the input reads as it did. -/
def layoutDistinctUptoRow : OpenClaim := { program := "ytcaencocmfkfaaa", sum := "08f61e6b73bb3cffb36f553e291dad988df1f5eb049cae332618c320df055f01", func := "chanfabric/chanfabriclaw5.LayoutDistinct", spec := "layoutDistinct", unfollowed := true, recurses := true, apart := false, narrowed := true }
def LayoutDistinctUptoSaid : Prop := layoutDistinctUptoRow.holds Try.pinned (OpenSpec.upto layoutDistinctSpec)

/-- 'chanfabriclaw5.LayoutWords', WHERE WHAT IT READS IS OF BULK AT MOST 1048576: true; the input reads as it did. -/
def layoutWordsUptoRow : OpenClaim := { program := "ytcaencocmfkfaaa", sum := "08f61e6b73bb3cffb36f553e291dad988df1f5eb049cae332618c320df055f01", func := "chanfabric/chanfabriclaw5.LayoutWords", spec := "layoutWords", apart := false, narrowed := true }
def LayoutWordsUptoSaid : Prop := layoutWordsUptoRow.holds Try.pinned (OpenSpec.upto layoutWordsSpec)

/-- 'chanfabriclaw5.LayoutNew', WHERE WHAT IT READS IS OF BULK AT MOST 1048576: true; the input reads as it did. -/
def layoutNewUptoRow : OpenClaim := { program := "ytcaencocmfkfaaa", sum := "08f61e6b73bb3cffb36f553e291dad988df1f5eb049cae332618c320df055f01", func := "chanfabric/chanfabriclaw5.LayoutNew", spec := "layoutNew", apart := false, narrowed := true }
def LayoutNewUptoSaid : Prop := layoutNewUptoRow.holds Try.pinned (OpenSpec.upto layoutNewSpec)

end Rows
end Go.Proofs.Ytcaencocmfkfaaa
