/-
  No cell of these rows narrows 'for every input' (looked for: loops, veiled, ifaces, maps, wideKeys, modest, calm, conditions, laid).
  DERIVED. THE GIVEN ROWS OF THIS SEAT. 6 by the template 'for every input the law returns true; each argument reads behind the call as it read before'; 0 by the template 'total and deterministic' (their statements: YtaadebhelgheeaaTotals.lean).
  GIVEN WITH THE SEED: the statements are not yours to turn. If you find one false, say at which input.
  Laid BY PROGRAM, IN A SANDBOX (cutbox-rows.mjs): the forced cells as the released guide's own fill.sh prints them over the translation fa2fba7c04aec2b9… (all of the seat's roots in one cut). By AI agents, Wed Nov 11 2026. No macro, syntax, notation, axiom, sorry.
-/
import Derived.Test.YtaadebhelgheeaaChecked
import GoSem.Claim
import GoSem.ClaimJoined
import GoSem.ClaimMapViews
import Derived.JoinedTies
import Derived.KernelRfl
namespace Go.Proofs.Ytaadebhelgheeaa
/- THE CELL 'sum', in the pinned program and in every row, IS THE sha256 OF THE DUMP (.gsa) THAT YtaadebhelgheeaaProg.lean LOADS. Nothing in Lean hashes anything: it is a label: what it is worth is what the hold of that sum in a sandbox is worth. -/
noncomputable def Try.pinned : Pinned := { name := "ytaadebhelgheeaa", sum := "fa2fba7c04aec2b9093ef1fc9822e4ad74e64e67a812475fa44606fed0851959", checked := Try.checked }
namespace Rows
def none {H : Type} : Left H := { results := [], args := [] }

/-- 'chanfabriclaw1.SeqwordNext': WHATEVER THE INPUT: true; the input reads as it did. -/
def seqwordNextSpec : ChangeSpec := { name := "seqwordNext", fn := fun _ => fun
  | [d1, d2, d3] => { results := [.lit (.bool true)], args := [d1, d2, d3] }
  | _ => none }
def seqwordNextRow : OpenClaim := { program := "ytaadebhelgheeaa", sum := "fa2fba7c04aec2b9093ef1fc9822e4ad74e64e67a812475fa44606fed0851959", func := "chanfabric/chanfabriclaw1.SeqwordNext", spec := "seqwordNext", apart := false }
def SeqwordNextSaid : Prop := seqwordNextRow.holds Try.pinned (OpenSpec.ofChange seqwordNextSpec)

/-- ITS FALSE NEIGHBOUR: 'it returns false'. Refute it at one input. -/
def seqwordNextWrong : ChangeSpec := { name := "seqwordNext", fn := fun _ => fun
  | [d1, d2, d3] => { results := [.lit (.bool false)], args := [d1, d2, d3] }
  | _ => none }
def SeqwordNextWrongFalsely : Prop := seqwordNextRow.holds Try.pinned (OpenSpec.ofChange seqwordNextWrong)

/-- 'chanfabriclaw1.SeqwordSizes': WHATEVER THE INPUT: true; the input reads as it did. -/
def seqwordSizesSpec : ChangeSpec := { name := "seqwordSizes", fn := fun _ => fun
  | [d1, d2] => { results := [.lit (.bool true)], args := [d1, d2] }
  | _ => none }
def seqwordSizesRow : OpenClaim := { program := "ytaadebhelgheeaa", sum := "fa2fba7c04aec2b9093ef1fc9822e4ad74e64e67a812475fa44606fed0851959", func := "chanfabric/chanfabriclaw1.SeqwordSizes", spec := "seqwordSizes", apart := false }
def SeqwordSizesSaid : Prop := seqwordSizesRow.holds Try.pinned (OpenSpec.ofChange seqwordSizesSpec)

/-- ITS FALSE NEIGHBOUR: 'it returns false'. Refute it at one input. -/
def seqwordSizesWrong : ChangeSpec := { name := "seqwordSizes", fn := fun _ => fun
  | [d1, d2] => { results := [.lit (.bool false)], args := [d1, d2] }
  | _ => none }
def SeqwordSizesWrongFalsely : Prop := seqwordSizesRow.holds Try.pinned (OpenSpec.ofChange seqwordSizesWrong)

/-- 'chanfabriclaw1.SeqwordDiff': WHATEVER THE INPUT: true; the input reads as it did. -/
def seqwordDiffSpec : ChangeSpec := { name := "seqwordDiff", fn := fun _ => fun
  | [d1, d2, d3] => { results := [.lit (.bool true)], args := [d1, d2, d3] }
  | _ => none }
def seqwordDiffRow : OpenClaim := { program := "ytaadebhelgheeaa", sum := "fa2fba7c04aec2b9093ef1fc9822e4ad74e64e67a812475fa44606fed0851959", func := "chanfabric/chanfabriclaw1.SeqwordDiff", spec := "seqwordDiff", apart := false }
def SeqwordDiffSaid : Prop := seqwordDiffRow.holds Try.pinned (OpenSpec.ofChange seqwordDiffSpec)

/-- ITS FALSE NEIGHBOUR: 'it returns false'. Refute it at one input. -/
def seqwordDiffWrong : ChangeSpec := { name := "seqwordDiff", fn := fun _ => fun
  | [d1, d2, d3] => { results := [.lit (.bool false)], args := [d1, d2, d3] }
  | _ => none }
def SeqwordDiffWrongFalsely : Prop := seqwordDiffRow.holds Try.pinned (OpenSpec.ofChange seqwordDiffWrong)

/-- 'chanfabriclaw1.SeqwordTrip': WHATEVER THE INPUT: true; the input reads as it did. -/
def seqwordTripSpec : ChangeSpec := { name := "seqwordTrip", fn := fun _ => fun
  | [d1, d2, d3] => { results := [.lit (.bool true)], args := [d1, d2, d3] }
  | _ => none }
def seqwordTripRow : OpenClaim := { program := "ytaadebhelgheeaa", sum := "fa2fba7c04aec2b9093ef1fc9822e4ad74e64e67a812475fa44606fed0851959", func := "chanfabric/chanfabriclaw1.SeqwordTrip", spec := "seqwordTrip", apart := false }
def SeqwordTripSaid : Prop := seqwordTripRow.holds Try.pinned (OpenSpec.ofChange seqwordTripSpec)

/-- ITS FALSE NEIGHBOUR: 'it returns false'. Refute it at one input. -/
def seqwordTripWrong : ChangeSpec := { name := "seqwordTrip", fn := fun _ => fun
  | [d1, d2, d3] => { results := [.lit (.bool false)], args := [d1, d2, d3] }
  | _ => none }
def SeqwordTripWrongFalsely : Prop := seqwordTripRow.holds Try.pinned (OpenSpec.ofChange seqwordTripWrong)

/-- 'chanfabriclaw1.SeqwordWords': WHATEVER THE INPUT: true; the input reads as it did. -/
def seqwordWordsSpec : ChangeSpec := { name := "seqwordWords", fn := fun _ => fun
  | [d1, d2, d3] => { results := [.lit (.bool true)], args := [d1, d2, d3] }
  | _ => none }
def seqwordWordsRow : OpenClaim := { program := "ytaadebhelgheeaa", sum := "fa2fba7c04aec2b9093ef1fc9822e4ad74e64e67a812475fa44606fed0851959", func := "chanfabric/chanfabriclaw1.SeqwordWords", spec := "seqwordWords", apart := false }
def SeqwordWordsSaid : Prop := seqwordWordsRow.holds Try.pinned (OpenSpec.ofChange seqwordWordsSpec)

/-- ITS FALSE NEIGHBOUR: 'it returns false'. Refute it at one input. -/
def seqwordWordsWrong : ChangeSpec := { name := "seqwordWords", fn := fun _ => fun
  | [d1, d2, d3] => { results := [.lit (.bool false)], args := [d1, d2, d3] }
  | _ => none }
def SeqwordWordsWrongFalsely : Prop := seqwordWordsRow.holds Try.pinned (OpenSpec.ofChange seqwordWordsWrong)

/-- 'chanfabriclaw1.SeqwordSlots': WHATEVER THE INPUT: true; the input reads as it did. -/
def seqwordSlotsSpec : ChangeSpec := { name := "seqwordSlots", fn := fun _ => fun
  | [d1, d2, d3] => { results := [.lit (.bool true)], args := [d1, d2, d3] }
  | _ => none }
def seqwordSlotsRow : OpenClaim := { program := "ytaadebhelgheeaa", sum := "fa2fba7c04aec2b9093ef1fc9822e4ad74e64e67a812475fa44606fed0851959", func := "chanfabric/chanfabriclaw1.SeqwordSlots", spec := "seqwordSlots", apart := false }
def SeqwordSlotsSaid : Prop := seqwordSlotsRow.holds Try.pinned (OpenSpec.ofChange seqwordSlotsSpec)

/-- ITS FALSE NEIGHBOUR: 'it returns false'. Refute it at one input. -/
def seqwordSlotsWrong : ChangeSpec := { name := "seqwordSlots", fn := fun _ => fun
  | [d1, d2, d3] => { results := [.lit (.bool false)], args := [d1, d2, d3] }
  | _ => none }
def SeqwordSlotsWrongFalsely : Prop := seqwordSlotsRow.holds Try.pinned (OpenSpec.ofChange seqwordSlotsWrong)

/- THE SECOND FORM. 'bulk': how many values and letters a reading holds, each counted each time it is reached (what is shared counts as often as it is met; a slice's spare places count too). A statement '..UptoSaid' is the law's where the arguments, and the package variables that the reading takes, are together of bulk at most 1048576: NARROWER than '..Said'. Prove '..Said' where nothing that the law and all that it calls make is longer than what came in: it says more and counts as full. Else prove '..UptoSaid'. A law counts once. -/
mutual
def uptoBulk {H : Type} : DataW H → Nat
  | .lit (.string bytes) => bytes.length + 1
  | .lit _ => 1
  | .nil => 1
  | .ptr d => uptoBulk d + 1
  | .slice elems spare => uptoBulkAll elems + uptoBulkAll spare + 1
  | .agg parts => uptoBulkAll parts + 1
  | .iface _ d => uptoBulk d + 1
  | .map entries => uptoBulkEntries entries + 1
  | .held _ => 1
def uptoBulkAll {H : Type} : List (DataW H) → Nat
  | [] => 0
  | d :: r => uptoBulk d + uptoBulkAll r
def uptoBulkEntries {H : Type} : List (Lit × DataW H) → Nat
  | [] => 0
  | x :: r => uptoBulkEntry x + uptoBulkEntries r
def uptoBulkEntry {H : Type} : Lit × DataW H → Nat
  | (.string bytes, d) => bytes.length + uptoBulk d + 1
  | (_, d) => uptoBulk d + 1
 end
def uptoSmall : (H : Type) → List (DataW H) → Bool := fun _ ds => decide (uptoBulkAll ds ≤ 1048576)
def OpenSpec.upto (s : _root_.Go.ChangeSpec) : _root_.Go.OpenSpec := { _root_.Go.OpenSpec.ofChange s with cond := some uptoSmall }

/-- 'chanfabriclaw1.SeqwordNext', WHERE WHAT IT READS IS OF BULK AT MOST 1048576: true; the input reads as it did. -/
def seqwordNextUptoRow : OpenClaim := { program := "ytaadebhelgheeaa", sum := "fa2fba7c04aec2b9093ef1fc9822e4ad74e64e67a812475fa44606fed0851959", func := "chanfabric/chanfabriclaw1.SeqwordNext", spec := "seqwordNext", apart := false, narrowed := true }
def SeqwordNextUptoSaid : Prop := seqwordNextUptoRow.holds Try.pinned (OpenSpec.upto seqwordNextSpec)

/-- 'chanfabriclaw1.SeqwordSizes', WHERE WHAT IT READS IS OF BULK AT MOST 1048576: true; the input reads as it did. -/
def seqwordSizesUptoRow : OpenClaim := { program := "ytaadebhelgheeaa", sum := "fa2fba7c04aec2b9093ef1fc9822e4ad74e64e67a812475fa44606fed0851959", func := "chanfabric/chanfabriclaw1.SeqwordSizes", spec := "seqwordSizes", apart := false, narrowed := true }
def SeqwordSizesUptoSaid : Prop := seqwordSizesUptoRow.holds Try.pinned (OpenSpec.upto seqwordSizesSpec)

/-- 'chanfabriclaw1.SeqwordDiff', WHERE WHAT IT READS IS OF BULK AT MOST 1048576: true; the input reads as it did. -/
def seqwordDiffUptoRow : OpenClaim := { program := "ytaadebhelgheeaa", sum := "fa2fba7c04aec2b9093ef1fc9822e4ad74e64e67a812475fa44606fed0851959", func := "chanfabric/chanfabriclaw1.SeqwordDiff", spec := "seqwordDiff", apart := false, narrowed := true }
def SeqwordDiffUptoSaid : Prop := seqwordDiffUptoRow.holds Try.pinned (OpenSpec.upto seqwordDiffSpec)

/-- 'chanfabriclaw1.SeqwordTrip', WHERE WHAT IT READS IS OF BULK AT MOST 1048576: true; the input reads as it did. -/
def seqwordTripUptoRow : OpenClaim := { program := "ytaadebhelgheeaa", sum := "fa2fba7c04aec2b9093ef1fc9822e4ad74e64e67a812475fa44606fed0851959", func := "chanfabric/chanfabriclaw1.SeqwordTrip", spec := "seqwordTrip", apart := false, narrowed := true }
def SeqwordTripUptoSaid : Prop := seqwordTripUptoRow.holds Try.pinned (OpenSpec.upto seqwordTripSpec)

/-- 'chanfabriclaw1.SeqwordWords', WHERE WHAT IT READS IS OF BULK AT MOST 1048576: true; the input reads as it did. -/
def seqwordWordsUptoRow : OpenClaim := { program := "ytaadebhelgheeaa", sum := "fa2fba7c04aec2b9093ef1fc9822e4ad74e64e67a812475fa44606fed0851959", func := "chanfabric/chanfabriclaw1.SeqwordWords", spec := "seqwordWords", apart := false, narrowed := true }
def SeqwordWordsUptoSaid : Prop := seqwordWordsUptoRow.holds Try.pinned (OpenSpec.upto seqwordWordsSpec)

/-- 'chanfabriclaw1.SeqwordSlots', WHERE WHAT IT READS IS OF BULK AT MOST 1048576: true; the input reads as it did. -/
def seqwordSlotsUptoRow : OpenClaim := { program := "ytaadebhelgheeaa", sum := "fa2fba7c04aec2b9093ef1fc9822e4ad74e64e67a812475fa44606fed0851959", func := "chanfabric/chanfabriclaw1.SeqwordSlots", spec := "seqwordSlots", apart := false, narrowed := true }
def SeqwordSlotsUptoSaid : Prop := seqwordSlotsUptoRow.holds Try.pinned (OpenSpec.upto seqwordSlotsSpec)

end Rows
end Go.Proofs.Ytaadebhelgheeaa
