/-
  No cell of these rows narrows 'for every input' (looked for: loops, veiled, ifaces, maps, wideKeys, modest, calm, conditions, laid).
  DERIVED. THE GIVEN ROWS OF THIS SEAT. 5 by the template 'for every input the law returns true; each argument reads behind the call as it read before'; 0 by the template 'total and deterministic' (their statements: YtjmchkafjpahbaaTotals.lean).
  GIVEN WITH THE SEED: the statements are not yours to turn. If you find one false, say at which input.
  Laid BY PROGRAM, IN A SANDBOX (cutbox-rows.mjs): the forced cells as the released guide's own fill.sh prints them over the translation 90ec86c5ff230f87… (all of the seat's roots in one cut). By AI agents, Wed Nov 11 2026. No macro, syntax, notation, axiom, sorry.
-/
import Derived.Test.YtjmchkafjpahbaaChecked
import GoSem.Claim
import GoSem.ClaimJoined
import GoSem.ClaimMapViews
import Derived.JoinedTies
import Derived.KernelRfl
namespace Go.Proofs.Ytjmchkafjpahbaa
/- THE CELL 'sum', in the pinned program and in every row, IS THE sha256 OF THE DUMP (.gsa) THAT YtjmchkafjpahbaaProg.lean LOADS. Nothing in Lean hashes anything: it is a label: what it is worth is what the hold of that sum in a sandbox is worth. -/
noncomputable def Try.pinned : Pinned := { name := "ytjmchkafjpahbaa", sum := "90ec86c5ff230f87844d86e0f973cf945d40d21974120e2222b119223a5a013c", checked := Try.checked }
namespace Rows
def none {H : Type} : Left H := { results := [], args := [] }

/-- 'chanfabriclaw13.WaitlistRecords': WHATEVER THE INPUT: true; the input reads as it did. -/
def waitlistRecordsSpec : ChangeSpec := { name := "waitlistRecords", fn := fun _ => fun
  | [d1, d2, d3, d4, d5] => { results := [.lit (.bool true)], args := [d1, d2, d3, d4, d5] }
  | _ => none }
def waitlistRecordsRow : OpenClaim := { program := "ytjmchkafjpahbaa", sum := "90ec86c5ff230f87844d86e0f973cf945d40d21974120e2222b119223a5a013c", func := "chanfabric/chanfabriclaw13.WaitlistRecords", spec := "waitlistRecords", apart := false }
def WaitlistRecordsSaid : Prop := waitlistRecordsRow.holds Try.pinned (OpenSpec.ofChange waitlistRecordsSpec)

/-- ITS FALSE NEIGHBOUR: 'it returns false'. Refute it at one input. -/
def waitlistRecordsWrong : ChangeSpec := { name := "waitlistRecords", fn := fun _ => fun
  | [d1, d2, d3, d4, d5] => { results := [.lit (.bool false)], args := [d1, d2, d3, d4, d5] }
  | _ => none }
def WaitlistRecordsWrongFalsely : Prop := waitlistRecordsRow.holds Try.pinned (OpenSpec.ofChange waitlistRecordsWrong)

/-- 'chanfabriclaw13.WaitlistLower': WHATEVER THE INPUT: true; the input reads as it did. -/
def waitlistLowerSpec : ChangeSpec := { name := "waitlistLower", fn := fun _ => fun
  | [d1, d2] => { results := [.lit (.bool true)], args := [d1, d2] }
  | _ => none }
def waitlistLowerRow : OpenClaim := { program := "ytjmchkafjpahbaa", sum := "90ec86c5ff230f87844d86e0f973cf945d40d21974120e2222b119223a5a013c", func := "chanfabric/chanfabriclaw13.WaitlistLower", spec := "waitlistLower", apart := false }
def WaitlistLowerSaid : Prop := waitlistLowerRow.holds Try.pinned (OpenSpec.ofChange waitlistLowerSpec)

/-- ITS FALSE NEIGHBOUR: 'it returns false'. Refute it at one input. -/
def waitlistLowerWrong : ChangeSpec := { name := "waitlistLower", fn := fun _ => fun
  | [d1, d2] => { results := [.lit (.bool false)], args := [d1, d2] }
  | _ => none }
def WaitlistLowerWrongFalsely : Prop := waitlistLowerRow.holds Try.pinned (OpenSpec.ofChange waitlistLowerWrong)

/-- 'chanfabriclaw13.WaitlistPairs': WHATEVER THE INPUT: true; the input reads as it did. -/
def waitlistPairsSpec : ChangeSpec := { name := "waitlistPairs", fn := fun _ => fun
  | [d1, d2, d3, d4] => { results := [.lit (.bool true)], args := [d1, d2, d3, d4] }
  | _ => none }
def waitlistPairsRow : OpenClaim := { program := "ytjmchkafjpahbaa", sum := "90ec86c5ff230f87844d86e0f973cf945d40d21974120e2222b119223a5a013c", func := "chanfabric/chanfabriclaw13.WaitlistPairs", spec := "waitlistPairs", apart := false }
def WaitlistPairsSaid : Prop := waitlistPairsRow.holds Try.pinned (OpenSpec.ofChange waitlistPairsSpec)

/-- ITS FALSE NEIGHBOUR: 'it returns false'. Refute it at one input. -/
def waitlistPairsWrong : ChangeSpec := { name := "waitlistPairs", fn := fun _ => fun
  | [d1, d2, d3, d4] => { results := [.lit (.bool false)], args := [d1, d2, d3, d4] }
  | _ => none }
def WaitlistPairsWrongFalsely : Prop := waitlistPairsRow.holds Try.pinned (OpenSpec.ofChange waitlistPairsWrong)

/-- 'chanfabriclaw13.WaitlistFirst': WHATEVER THE INPUT: true; the input reads as it did. -/
def waitlistFirstSpec : ChangeSpec := { name := "waitlistFirst", fn := fun _ => fun
  | [d1, d2, d3] => { results := [.lit (.bool true)], args := [d1, d2, d3] }
  | _ => none }
def waitlistFirstRow : OpenClaim := { program := "ytjmchkafjpahbaa", sum := "90ec86c5ff230f87844d86e0f973cf945d40d21974120e2222b119223a5a013c", func := "chanfabric/chanfabriclaw13.WaitlistFirst", spec := "waitlistFirst", apart := false }
def WaitlistFirstSaid : Prop := waitlistFirstRow.holds Try.pinned (OpenSpec.ofChange waitlistFirstSpec)

/-- ITS FALSE NEIGHBOUR: 'it returns false'. Refute it at one input. -/
def waitlistFirstWrong : ChangeSpec := { name := "waitlistFirst", fn := fun _ => fun
  | [d1, d2, d3] => { results := [.lit (.bool false)], args := [d1, d2, d3] }
  | _ => none }
def WaitlistFirstWrongFalsely : Prop := waitlistFirstRow.holds Try.pinned (OpenSpec.ofChange waitlistFirstWrong)

/-- 'chanfabriclaw13.WaitlistMatch': WHATEVER THE INPUT: true; the input reads as it did. -/
def waitlistMatchSpec : ChangeSpec := { name := "waitlistMatch", fn := fun _ => fun
  | [d1, d2] => { results := [.lit (.bool true)], args := [d1, d2] }
  | _ => none }
def waitlistMatchRow : OpenClaim := { program := "ytjmchkafjpahbaa", sum := "90ec86c5ff230f87844d86e0f973cf945d40d21974120e2222b119223a5a013c", func := "chanfabric/chanfabriclaw13.WaitlistMatch", spec := "waitlistMatch", apart := false }
def WaitlistMatchSaid : Prop := waitlistMatchRow.holds Try.pinned (OpenSpec.ofChange waitlistMatchSpec)

/-- ITS FALSE NEIGHBOUR: 'it returns false'. Refute it at one input. -/
def waitlistMatchWrong : ChangeSpec := { name := "waitlistMatch", fn := fun _ => fun
  | [d1, d2] => { results := [.lit (.bool false)], args := [d1, d2] }
  | _ => none }
def WaitlistMatchWrongFalsely : Prop := waitlistMatchRow.holds Try.pinned (OpenSpec.ofChange waitlistMatchWrong)

/- THE SECOND FORM. 'bulk': how many values and letters a reading holds, each counted each time it is reached (what is shared counts as often as it is met; a slice's spare places count too). A statement '..UptoSaid' is the law's where the arguments, and the package variables that the reading takes, are together of bulk at most 1048576: NARROWER than '..Said'. Prove '..Said' where nothing that the law and all that it calls make is longer than what came in: it says more and counts as full. Else prove '..UptoSaid'. A law counts once. -/
mutual
def uptoBulk {H : Type} : DataW H → Nat
  | .lit (.string bytes) => bytes.length + 1
  | .lit _ => 1
  | .nil => 1
  | .ptr d => uptoBulk d + 1
  | .slice elems spare => uptoBulkAll elems + uptoBulkAll spare + 1
  | .agg parts => uptoBulkAll parts + 1
  | .iface _ d => uptoBulk d + 1
  | .map entries => uptoBulkEntries entries + 1
  | .held _ => 1
def uptoBulkAll {H : Type} : List (DataW H) → Nat
  | [] => 0
  | d :: r => uptoBulk d + uptoBulkAll r
def uptoBulkEntries {H : Type} : List (Lit × DataW H) → Nat
  | [] => 0
  | x :: r => uptoBulkEntry x + uptoBulkEntries r
def uptoBulkEntry {H : Type} : Lit × DataW H → Nat
  | (.string bytes, d) => bytes.length + uptoBulk d + 1
  | (_, d) => uptoBulk d + 1
 end
def uptoSmall : (H : Type) → List (DataW H) → Bool := fun _ ds => decide (uptoBulkAll ds ≤ 1048576)
def OpenSpec.upto (s : _root_.Go.ChangeSpec) : _root_.Go.OpenSpec := { _root_.Go.OpenSpec.ofChange s with cond := some uptoSmall }

/-- 'chanfabriclaw13.WaitlistRecords', WHERE WHAT IT READS IS OF BULK AT MOST 1048576: true; the input reads as it did. -/
def waitlistRecordsUptoRow : OpenClaim := { program := "ytjmchkafjpahbaa", sum := "90ec86c5ff230f87844d86e0f973cf945d40d21974120e2222b119223a5a013c", func := "chanfabric/chanfabriclaw13.WaitlistRecords", spec := "waitlistRecords", apart := false, narrowed := true }
def WaitlistRecordsUptoSaid : Prop := waitlistRecordsUptoRow.holds Try.pinned (OpenSpec.upto waitlistRecordsSpec)

/-- 'chanfabriclaw13.WaitlistLower', WHERE WHAT IT READS IS OF BULK AT MOST 1048576: true; the input reads as it did. -/
def waitlistLowerUptoRow : OpenClaim := { program := "ytjmchkafjpahbaa", sum := "90ec86c5ff230f87844d86e0f973cf945d40d21974120e2222b119223a5a013c", func := "chanfabric/chanfabriclaw13.WaitlistLower", spec := "waitlistLower", apart := false, narrowed := true }
def WaitlistLowerUptoSaid : Prop := waitlistLowerUptoRow.holds Try.pinned (OpenSpec.upto waitlistLowerSpec)

/-- 'chanfabriclaw13.WaitlistPairs', WHERE WHAT IT READS IS OF BULK AT MOST 1048576: true; the input reads as it did. -/
def waitlistPairsUptoRow : OpenClaim := { program := "ytjmchkafjpahbaa", sum := "90ec86c5ff230f87844d86e0f973cf945d40d21974120e2222b119223a5a013c", func := "chanfabric/chanfabriclaw13.WaitlistPairs", spec := "waitlistPairs", apart := false, narrowed := true }
def WaitlistPairsUptoSaid : Prop := waitlistPairsUptoRow.holds Try.pinned (OpenSpec.upto waitlistPairsSpec)

/-- 'chanfabriclaw13.WaitlistFirst', WHERE WHAT IT READS IS OF BULK AT MOST 1048576: true; the input reads as it did. -/
def waitlistFirstUptoRow : OpenClaim := { program := "ytjmchkafjpahbaa", sum := "90ec86c5ff230f87844d86e0f973cf945d40d21974120e2222b119223a5a013c", func := "chanfabric/chanfabriclaw13.WaitlistFirst", spec := "waitlistFirst", apart := false, narrowed := true }
def WaitlistFirstUptoSaid : Prop := waitlistFirstUptoRow.holds Try.pinned (OpenSpec.upto waitlistFirstSpec)

/-- 'chanfabriclaw13.WaitlistMatch', WHERE WHAT IT READS IS OF BULK AT MOST 1048576: true; the input reads as it did. -/
def waitlistMatchUptoRow : OpenClaim := { program := "ytjmchkafjpahbaa", sum := "90ec86c5ff230f87844d86e0f973cf945d40d21974120e2222b119223a5a013c", func := "chanfabric/chanfabriclaw13.WaitlistMatch", spec := "waitlistMatch", apart := false, narrowed := true }
def WaitlistMatchUptoSaid : Prop := waitlistMatchUptoRow.holds Try.pinned (OpenSpec.upto waitlistMatchSpec)

end Rows
end Go.Proofs.Ytjmchkafjpahbaa
