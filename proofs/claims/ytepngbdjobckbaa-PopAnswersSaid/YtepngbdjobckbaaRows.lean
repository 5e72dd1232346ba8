/-
  No cell of these rows narrows 'for every input' (looked for: loops, veiled, ifaces, maps, wideKeys, modest, calm, conditions, laid).
  DERIVED. THE GIVEN ROWS OF THIS SEAT. 9 by the template 'for every input the law returns true; each argument reads behind the call as it read before'; 0 by the template 'total and deterministic' (their statements: YtepngbdjobckbaaTotals.lean).
  GIVEN WITH THE SEED: the statements are not yours to turn. If you find one false, say at which input.
  Laid BY PROGRAM, IN A SANDBOX (cutbox-rows.mjs): the forced cells as the released guide's own fill.sh prints them over the translation 9d935807cbea6e11… (all of the seat's roots in one cut). By AI agents, Wed Nov 11 2026. No macro, syntax, notation, axiom, sorry.
-/
import Derived.Test.YtepngbdjobckbaaChecked
import GoSem.Claim
import GoSem.ClaimJoined
import GoSem.ClaimMapViews
import Derived.JoinedTies
import Derived.KernelRfl
namespace Go.Proofs.Ytepngbdjobckbaa
/- THE CELL 'sum', in the pinned program and in every row, IS THE sha256 OF THE DUMP (.gsa) THAT YtepngbdjobckbaaProg.lean LOADS. Nothing in Lean hashes anything: it is a label: what it is worth is what the hold of that sum in a sandbox is worth. -/
noncomputable def Try.pinned : Pinned := { name := "ytepngbdjobckbaa", sum := "9d935807cbea6e110f679627a5aca93dfb2a934de4b7d9488897bc76e908e3a2", checked := Try.checked }
namespace Rows
def none {H : Type} : Left H := { results := [], args := [] }

/-- 'chanfabriclaw11.CountAccesses': WHATEVER THE INPUT: true; the input reads as it did. -/
def countAccessesSpec : ChangeSpec := { name := "countAccesses", fn := fun _ => fun
  | [d1, d2] => { results := [.lit (.bool true)], args := [d1, d2] }
  | _ => none }
def countAccessesRow : OpenClaim := { program := "ytepngbdjobckbaa", sum := "9d935807cbea6e110f679627a5aca93dfb2a934de4b7d9488897bc76e908e3a2", func := "chanfabric/chanfabriclaw11.CountAccesses", spec := "countAccesses", apart := false }
def CountAccessesSaid : Prop := countAccessesRow.holds Try.pinned (OpenSpec.ofChange countAccessesSpec)

/-- ITS FALSE NEIGHBOUR: 'it returns false'. Refute it at one input. -/
def countAccessesWrong : ChangeSpec := { name := "countAccesses", fn := fun _ => fun
  | [d1, d2] => { results := [.lit (.bool false)], args := [d1, d2] }
  | _ => none }
def CountAccessesWrongFalsely : Prop := countAccessesRow.holds Try.pinned (OpenSpec.ofChange countAccessesWrong)

/-- 'chanfabriclaw11.CountAnswers': WHATEVER THE INPUT: true; the input reads as it did. -/
def countAnswersSpec : ChangeSpec := { name := "countAnswers", fn := fun _ => fun
  | [d1, d2, d3] => { results := [.lit (.bool true)], args := [d1, d2, d3] }
  | _ => none }
def countAnswersRow : OpenClaim := { program := "ytepngbdjobckbaa", sum := "9d935807cbea6e110f679627a5aca93dfb2a934de4b7d9488897bc76e908e3a2", func := "chanfabric/chanfabriclaw11.CountAnswers", spec := "countAnswers", apart := false }
def CountAnswersSaid : Prop := countAnswersRow.holds Try.pinned (OpenSpec.ofChange countAnswersSpec)

/-- ITS FALSE NEIGHBOUR: 'it returns false'. Refute it at one input. -/
def countAnswersWrong : ChangeSpec := { name := "countAnswers", fn := fun _ => fun
  | [d1, d2, d3] => { results := [.lit (.bool false)], args := [d1, d2, d3] }
  | _ => none }
def CountAnswersWrongFalsely : Prop := countAnswersRow.holds Try.pinned (OpenSpec.ofChange countAnswersWrong)

/-- 'chanfabriclaw11.CountTruth': WHATEVER THE INPUT: true; the input reads as it did. -/
def countTruthSpec : ChangeSpec := { name := "countTruth", fn := fun _ => fun
  | [d1, d2] => { results := [.lit (.bool true)], args := [d1, d2] }
  | _ => none }
def countTruthRow : OpenClaim := { program := "ytepngbdjobckbaa", sum := "9d935807cbea6e110f679627a5aca93dfb2a934de4b7d9488897bc76e908e3a2", func := "chanfabric/chanfabriclaw11.CountTruth", spec := "countTruth", apart := false }
def CountTruthSaid : Prop := countTruthRow.holds Try.pinned (OpenSpec.ofChange countTruthSpec)

/-- ITS FALSE NEIGHBOUR: 'it returns false'. Refute it at one input. -/
def countTruthWrong : ChangeSpec := { name := "countTruth", fn := fun _ => fun
  | [d1, d2] => { results := [.lit (.bool false)], args := [d1, d2] }
  | _ => none }
def CountTruthWrongFalsely : Prop := countTruthRow.holds Try.pinned (OpenSpec.ofChange countTruthWrong)

/-- 'chanfabriclaw9.PopAccesses': WHATEVER THE INPUT: true; the input reads as it did. -/
def popAccessesSpec : ChangeSpec := { name := "popAccesses", fn := fun _ => fun
  | [d1, d2] => { results := [.lit (.bool true)], args := [d1, d2] }
  | _ => none }
def popAccessesRow : OpenClaim := { program := "ytepngbdjobckbaa", sum := "9d935807cbea6e110f679627a5aca93dfb2a934de4b7d9488897bc76e908e3a2", func := "chanfabric/chanfabriclaw9.PopAccesses", spec := "popAccesses", apart := false }
def PopAccessesSaid : Prop := popAccessesRow.holds Try.pinned (OpenSpec.ofChange popAccessesSpec)

/-- ITS FALSE NEIGHBOUR: 'it returns false'. Refute it at one input. -/
def popAccessesWrong : ChangeSpec := { name := "popAccesses", fn := fun _ => fun
  | [d1, d2] => { results := [.lit (.bool false)], args := [d1, d2] }
  | _ => none }
def PopAccessesWrongFalsely : Prop := popAccessesRow.holds Try.pinned (OpenSpec.ofChange popAccessesWrong)

/-- 'chanfabriclaw9.PopAnswers': WHATEVER THE INPUT: true; the input reads as it did. -/
def popAnswersSpec : ChangeSpec := { name := "popAnswers", fn := fun _ => fun
  | [d1, d2] => { results := [.lit (.bool true)], args := [d1, d2] }
  | _ => none }
def popAnswersRow : OpenClaim := { program := "ytepngbdjobckbaa", sum := "9d935807cbea6e110f679627a5aca93dfb2a934de4b7d9488897bc76e908e3a2", func := "chanfabric/chanfabriclaw9.PopAnswers", spec := "popAnswers", apart := false }
def PopAnswersSaid : Prop := popAnswersRow.holds Try.pinned (OpenSpec.ofChange popAnswersSpec)

/-- ITS FALSE NEIGHBOUR: 'it returns false'. Refute it at one input. -/
def popAnswersWrong : ChangeSpec := { name := "popAnswers", fn := fun _ => fun
  | [d1, d2] => { results := [.lit (.bool false)], args := [d1, d2] }
  | _ => none }
def PopAnswersWrongFalsely : Prop := popAnswersRow.holds Try.pinned (OpenSpec.ofChange popAnswersWrong)

/-- 'chanfabriclaw9.PopAlone': WHATEVER THE INPUT: true; the input reads as it did. -/
def popAloneSpec : ChangeSpec := { name := "popAlone", fn := fun _ => fun
  | [d1, d2, d3] => { results := [.lit (.bool true)], args := [d1, d2, d3] }
  | _ => none }
def popAloneRow : OpenClaim := { program := "ytepngbdjobckbaa", sum := "9d935807cbea6e110f679627a5aca93dfb2a934de4b7d9488897bc76e908e3a2", func := "chanfabric/chanfabriclaw9.PopAlone", spec := "popAlone", apart := false }
def PopAloneSaid : Prop := popAloneRow.holds Try.pinned (OpenSpec.ofChange popAloneSpec)

/-- ITS FALSE NEIGHBOUR: 'it returns false'. Refute it at one input. -/
def popAloneWrong : ChangeSpec := { name := "popAlone", fn := fun _ => fun
  | [d1, d2, d3] => { results := [.lit (.bool false)], args := [d1, d2, d3] }
  | _ => none }
def PopAloneWrongFalsely : Prop := popAloneRow.holds Try.pinned (OpenSpec.ofChange popAloneWrong)

/-- 'chanfabriclaw8.PushAccesses': WHATEVER THE INPUT: true; the input reads as it did. -/
def pushAccessesSpec : ChangeSpec := { name := "pushAccesses", fn := fun _ => fun
  | [d1, d2] => { results := [.lit (.bool true)], args := [d1, d2] }
  | _ => none }
def pushAccessesRow : OpenClaim := { program := "ytepngbdjobckbaa", sum := "9d935807cbea6e110f679627a5aca93dfb2a934de4b7d9488897bc76e908e3a2", func := "chanfabric/chanfabriclaw8.PushAccesses", spec := "pushAccesses", apart := false }
def PushAccessesSaid : Prop := pushAccessesRow.holds Try.pinned (OpenSpec.ofChange pushAccessesSpec)

/-- ITS FALSE NEIGHBOUR: 'it returns false'. Refute it at one input. -/
def pushAccessesWrong : ChangeSpec := { name := "pushAccesses", fn := fun _ => fun
  | [d1, d2] => { results := [.lit (.bool false)], args := [d1, d2] }
  | _ => none }
def PushAccessesWrongFalsely : Prop := pushAccessesRow.holds Try.pinned (OpenSpec.ofChange pushAccessesWrong)

/-- 'chanfabriclaw8.PushAnswers': WHATEVER THE INPUT: true; the input reads as it did. -/
def pushAnswersSpec : ChangeSpec := { name := "pushAnswers", fn := fun _ => fun
  | [d1, d2, d3] => { results := [.lit (.bool true)], args := [d1, d2, d3] }
  | _ => none }
def pushAnswersRow : OpenClaim := { program := "ytepngbdjobckbaa", sum := "9d935807cbea6e110f679627a5aca93dfb2a934de4b7d9488897bc76e908e3a2", func := "chanfabric/chanfabriclaw8.PushAnswers", spec := "pushAnswers", apart := false }
def PushAnswersSaid : Prop := pushAnswersRow.holds Try.pinned (OpenSpec.ofChange pushAnswersSpec)

/-- ITS FALSE NEIGHBOUR: 'it returns false'. Refute it at one input. -/
def pushAnswersWrong : ChangeSpec := { name := "pushAnswers", fn := fun _ => fun
  | [d1, d2, d3] => { results := [.lit (.bool false)], args := [d1, d2, d3] }
  | _ => none }
def PushAnswersWrongFalsely : Prop := pushAnswersRow.holds Try.pinned (OpenSpec.ofChange pushAnswersWrong)

/-- 'chanfabriclaw8.PushAlone': WHATEVER THE INPUT: true; the input reads as it did. -/
def pushAloneSpec : ChangeSpec := { name := "pushAlone", fn := fun _ => fun
  | [d1, d2, d3, d4] => { results := [.lit (.bool true)], args := [d1, d2, d3, d4] }
  | _ => none }
def pushAloneRow : OpenClaim := { program := "ytepngbdjobckbaa", sum := "9d935807cbea6e110f679627a5aca93dfb2a934de4b7d9488897bc76e908e3a2", func := "chanfabric/chanfabriclaw8.PushAlone", spec := "pushAlone", apart := false }
def PushAloneSaid : Prop := pushAloneRow.holds Try.pinned (OpenSpec.ofChange pushAloneSpec)

/-- ITS FALSE NEIGHBOUR: 'it returns false'. Refute it at one input. -/
def pushAloneWrong : ChangeSpec := { name := "pushAlone", fn := fun _ => fun
  | [d1, d2, d3, d4] => { results := [.lit (.bool false)], args := [d1, d2, d3, d4] }
  | _ => none }
def PushAloneWrongFalsely : Prop := pushAloneRow.holds Try.pinned (OpenSpec.ofChange pushAloneWrong)

/- THE SECOND FORM. 'bulk': how many values and letters a reading holds, each counted each time it is reached (what is shared counts as often as it is met; a slice's spare places count too). A statement '..UptoSaid' is the law's where the arguments, and the package variables that the reading takes, are together of bulk at most 1048576: NARROWER than '..Said'. Prove '..Said' where nothing that the law and all that it calls make is longer than what came in: it says more and counts as full. Else prove '..UptoSaid'. A law counts once. -/
mutual
def uptoBulk {H : Type} : DataW H → Nat
  | .lit (.string bytes) => bytes.length + 1
  | .lit _ => 1
  | .nil => 1
  | .ptr d => uptoBulk d + 1
  | .slice elems spare => uptoBulkAll elems + uptoBulkAll spare + 1
  | .agg parts => uptoBulkAll parts + 1
  | .iface _ d => uptoBulk d + 1
  | .map entries => uptoBulkEntries entries + 1
  | .held _ => 1
def uptoBulkAll {H : Type} : List (DataW H) → Nat
  | [] => 0
  | d :: r => uptoBulk d + uptoBulkAll r
def uptoBulkEntries {H : Type} : List (Lit × DataW H) → Nat
  | [] => 0
  | x :: r => uptoBulkEntry x + uptoBulkEntries r
def uptoBulkEntry {H : Type} : Lit × DataW H → Nat
  | (.string bytes, d) => bytes.length + uptoBulk d + 1
  | (_, d) => uptoBulk d + 1
 end
def uptoSmall : (H : Type) → List (DataW H) → Bool := fun _ ds => decide (uptoBulkAll ds ≤ 1048576)
def OpenSpec.upto (s : _root_.Go.ChangeSpec) : _root_.Go.OpenSpec := { _root_.Go.OpenSpec.ofChange s with cond := some uptoSmall }

/-- 'chanfabriclaw11.CountAccesses', WHERE WHAT IT READS IS OF BULK AT MOST 1048576: true; the input reads as it did. -/
def countAccessesUptoRow : OpenClaim := { program := "ytepngbdjobckbaa", sum := "9d935807cbea6e110f679627a5aca93dfb2a934de4b7d9488897bc76e908e3a2", func := "chanfabric/chanfabriclaw11.CountAccesses", spec := "countAccesses", apart := false, narrowed := true }
def CountAccessesUptoSaid : Prop := countAccessesUptoRow.holds Try.pinned (OpenSpec.upto countAccessesSpec)

/-- 'chanfabriclaw11.CountAnswers', WHERE WHAT IT READS IS OF BULK AT MOST 1048576: true; the input reads as it did. -/
def countAnswersUptoRow : OpenClaim := { program := "ytepngbdjobckbaa", sum := "9d935807cbea6e110f679627a5aca93dfb2a934de4b7d9488897bc76e908e3a2", func := "chanfabric/chanfabriclaw11.CountAnswers", spec := "countAnswers", apart := false, narrowed := true }
def CountAnswersUptoSaid : Prop := countAnswersUptoRow.holds Try.pinned (OpenSpec.upto countAnswersSpec)

/-- 'chanfabriclaw11.CountTruth', WHERE WHAT IT READS IS OF BULK AT MOST 1048576: true; the input reads as it did. -/
def countTruthUptoRow : OpenClaim := { program := "ytepngbdjobckbaa", sum := "9d935807cbea6e110f679627a5aca93dfb2a934de4b7d9488897bc76e908e3a2", func := "chanfabric/chanfabriclaw11.CountTruth", spec := "countTruth", apart := false, narrowed := true }
def CountTruthUptoSaid : Prop := countTruthUptoRow.holds Try.pinned (OpenSpec.upto countTruthSpec)

/-- 'chanfabriclaw9.PopAccesses', WHERE WHAT IT READS IS OF BULK AT MOST 1048576: true; the input reads as it did. -/
def popAccessesUptoRow : OpenClaim := { program := "ytepngbdjobckbaa", sum := "9d935807cbea6e110f679627a5aca93dfb2a934de4b7d9488897bc76e908e3a2", func := "chanfabric/chanfabriclaw9.PopAccesses", spec := "popAccesses", apart := false, narrowed := true }
def PopAccessesUptoSaid : Prop := popAccessesUptoRow.holds Try.pinned (OpenSpec.upto popAccessesSpec)

/-- 'chanfabriclaw9.PopAnswers', WHERE WHAT IT READS IS OF BULK AT MOST 1048576: true; the input reads as it did. -/
def popAnswersUptoRow : OpenClaim := { program := "ytepngbdjobckbaa", sum := "9d935807cbea6e110f679627a5aca93dfb2a934de4b7d9488897bc76e908e3a2", func := "chanfabric/chanfabriclaw9.PopAnswers", spec := "popAnswers", apart := false, narrowed := true }
def PopAnswersUptoSaid : Prop := popAnswersUptoRow.holds Try.pinned (OpenSpec.upto popAnswersSpec)

/-- 'chanfabriclaw9.PopAlone', WHERE WHAT IT READS IS OF BULK AT MOST 1048576: true; the input reads as it did. -/
def popAloneUptoRow : OpenClaim := { program := "ytepngbdjobckbaa", sum := "9d935807cbea6e110f679627a5aca93dfb2a934de4b7d9488897bc76e908e3a2", func := "chanfabric/chanfabriclaw9.PopAlone", spec := "popAlone", apart := false, narrowed := true }
def PopAloneUptoSaid : Prop := popAloneUptoRow.holds Try.pinned (OpenSpec.upto popAloneSpec)

/-- 'chanfabriclaw8.PushAccesses', WHERE WHAT IT READS IS OF BULK AT MOST 1048576: true; the input reads as it did. -/
def pushAccessesUptoRow : OpenClaim := { program := "ytepngbdjobckbaa", sum := "9d935807cbea6e110f679627a5aca93dfb2a934de4b7d9488897bc76e908e3a2", func := "chanfabric/chanfabriclaw8.PushAccesses", spec := "pushAccesses", apart := false, narrowed := true }
def PushAccessesUptoSaid : Prop := pushAccessesUptoRow.holds Try.pinned (OpenSpec.upto pushAccessesSpec)

/-- 'chanfabriclaw8.PushAnswers', WHERE WHAT IT READS IS OF BULK AT MOST 1048576: true; the input reads as it did. -/
def pushAnswersUptoRow : OpenClaim := { program := "ytepngbdjobckbaa", sum := "9d935807cbea6e110f679627a5aca93dfb2a934de4b7d9488897bc76e908e3a2", func := "chanfabric/chanfabriclaw8.PushAnswers", spec := "pushAnswers", apart := false, narrowed := true }
def PushAnswersUptoSaid : Prop := pushAnswersUptoRow.holds Try.pinned (OpenSpec.upto pushAnswersSpec)

/-- 'chanfabriclaw8.PushAlone', WHERE WHAT IT READS IS OF BULK AT MOST 1048576: true; the input reads as it did. -/
def pushAloneUptoRow : OpenClaim := { program := "ytepngbdjobckbaa", sum := "9d935807cbea6e110f679627a5aca93dfb2a934de4b7d9488897bc76e908e3a2", func := "chanfabric/chanfabriclaw8.PushAlone", spec := "pushAlone", apart := false, narrowed := true }
def PushAloneUptoSaid : Prop := pushAloneUptoRow.holds Try.pinned (OpenSpec.upto pushAloneSpec)

end Rows
end Go.Proofs.Ytepngbdjobckbaa
