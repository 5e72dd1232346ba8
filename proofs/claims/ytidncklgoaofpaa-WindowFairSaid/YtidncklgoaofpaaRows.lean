/-
  No cell of these rows narrows 'for every input' (looked for: loops, veiled, ifaces, maps, wideKeys, modest, calm, conditions, laid).
  DERIVED. THE GIVEN ROWS OF THIS SEAT. 11 by the template 'for every input the law returns true; each argument reads behind the call as it read before'; 0 by the template 'total and deterministic' (their statements: YtidncklgoaofpaaTotals.lean).
  GIVEN WITH THE SEED: the statements are not yours to turn. If you find one false, say at which input.
  Laid BY PROGRAM, IN A SANDBOX (cutbox-rows.mjs): the forced cells as the released guide's own fill.sh prints them over the translation d31291c62d2a2f5b… (all of the seat's roots in one cut). By AI agents, Wed Nov 11 2026. No macro, syntax, notation, axiom, sorry.
-/
import Derived.Test.YtidncklgoaofpaaChecked
import GoSem.Claim
import GoSem.ClaimJoined
import GoSem.ClaimMapViews
import Derived.JoinedTies
import Derived.KernelRfl
namespace Go.Proofs.Ytidncklgoaofpaa
/- THE CELL 'sum', in the pinned program and in every row, IS THE sha256 OF THE DUMP (.gsa) THAT YtidncklgoaofpaaProg.lean LOADS. Nothing in Lean hashes anything: it is a label: what it is worth is what the hold of that sum in a sandbox is worth. -/
noncomputable def Try.pinned : Pinned := { name := "ytidncklgoaofpaa", sum := "d31291c62d2a2f5bcf9e4aa14268100d88f9620e83d66c35246c69c543094597", checked := Try.checked }
namespace Rows
def none {H : Type} : Left H := { results := [], args := [] }

/-- 'chanfabriclaw19.WindowMeasures': WHATEVER THE INPUT: true; the input reads as it did. -/
def windowMeasuresSpec : ChangeSpec := { name := "windowMeasures", fn := fun _ => fun
  | [d1, d2, d3] => { results := [.lit (.bool true)], args := [d1, d2, d3] }
  | _ => none }
def windowMeasuresRow : OpenClaim := { program := "ytidncklgoaofpaa", sum := "d31291c62d2a2f5bcf9e4aa14268100d88f9620e83d66c35246c69c543094597", func := "chanfabric/chanfabriclaw19.WindowMeasures", spec := "windowMeasures", apart := false }
def WindowMeasuresSaid : Prop := windowMeasuresRow.holds Try.pinned (OpenSpec.ofChange windowMeasuresSpec)

/-- ITS FALSE NEIGHBOUR: 'it returns false'. Refute it at one input. -/
def windowMeasuresWrong : ChangeSpec := { name := "windowMeasures", fn := fun _ => fun
  | [d1, d2, d3] => { results := [.lit (.bool false)], args := [d1, d2, d3] }
  | _ => none }
def WindowMeasuresWrongFalsely : Prop := windowMeasuresRow.holds Try.pinned (OpenSpec.ofChange windowMeasuresWrong)

/-- 'chanfabriclaw19.WindowBounds': WHATEVER THE INPUT: true; the input reads as it did. -/
def windowBoundsSpec : ChangeSpec := { name := "windowBounds", fn := fun _ => fun
  | [d1, d2, d3, d4] => { results := [.lit (.bool true)], args := [d1, d2, d3, d4] }
  | _ => none }
def windowBoundsRow : OpenClaim := { program := "ytidncklgoaofpaa", sum := "d31291c62d2a2f5bcf9e4aa14268100d88f9620e83d66c35246c69c543094597", func := "chanfabric/chanfabriclaw19.WindowBounds", spec := "windowBounds", apart := false }
def WindowBoundsSaid : Prop := windowBoundsRow.holds Try.pinned (OpenSpec.ofChange windowBoundsSpec)

/-- ITS FALSE NEIGHBOUR: 'it returns false'. Refute it at one input. -/
def windowBoundsWrong : ChangeSpec := { name := "windowBounds", fn := fun _ => fun
  | [d1, d2, d3, d4] => { results := [.lit (.bool false)], args := [d1, d2, d3, d4] }
  | _ => none }
def WindowBoundsWrongFalsely : Prop := windowBoundsRow.holds Try.pinned (OpenSpec.ofChange windowBoundsWrong)

/-- 'chanfabriclaw2.DrawOrders': WHATEVER THE INPUT: true; the input reads as it did. -/
def drawOrdersSpec : ChangeSpec := { name := "drawOrders", fn := fun _ => fun
  | [d1, d2, d3] => { results := [.lit (.bool true)], args := [d1, d2, d3] }
  | _ => none }
def drawOrdersRow : OpenClaim := { program := "ytidncklgoaofpaa", sum := "d31291c62d2a2f5bcf9e4aa14268100d88f9620e83d66c35246c69c543094597", func := "chanfabric/chanfabriclaw2.DrawOrders", spec := "drawOrders", apart := false }
def DrawOrdersSaid : Prop := drawOrdersRow.holds Try.pinned (OpenSpec.ofChange drawOrdersSpec)

/-- ITS FALSE NEIGHBOUR: 'it returns false'. Refute it at one input. -/
def drawOrdersWrong : ChangeSpec := { name := "drawOrders", fn := fun _ => fun
  | [d1, d2, d3] => { results := [.lit (.bool false)], args := [d1, d2, d3] }
  | _ => none }
def DrawOrdersWrongFalsely : Prop := drawOrdersRow.holds Try.pinned (OpenSpec.ofChange drawOrdersWrong)

/-- 'chanfabriclaw2.DrawWins': WHATEVER THE INPUT: true; the input reads as it did. -/
def drawWinsSpec : ChangeSpec := { name := "drawWins", fn := fun _ => fun
  | [d1, d2] => { results := [.lit (.bool true)], args := [d1, d2] }
  | _ => none }
def drawWinsRow : OpenClaim := { program := "ytidncklgoaofpaa", sum := "d31291c62d2a2f5bcf9e4aa14268100d88f9620e83d66c35246c69c543094597", func := "chanfabric/chanfabriclaw2.DrawWins", spec := "drawWins", apart := false }
def DrawWinsSaid : Prop := drawWinsRow.holds Try.pinned (OpenSpec.ofChange drawWinsSpec)

/-- ITS FALSE NEIGHBOUR: 'it returns false'. Refute it at one input. -/
def drawWinsWrong : ChangeSpec := { name := "drawWins", fn := fun _ => fun
  | [d1, d2] => { results := [.lit (.bool false)], args := [d1, d2] }
  | _ => none }
def DrawWinsWrongFalsely : Prop := drawWinsRow.holds Try.pinned (OpenSpec.ofChange drawWinsWrong)

/-- 'chanfabriclaw2.DrawFair': WHATEVER THE INPUT: true; the input reads as it did. -/
def drawFairSpec : ChangeSpec := { name := "drawFair", fn := fun _ => fun
  | [d] => { results := [.lit (.bool true)], args := [d] }
  | _ => none }
def drawFairRow : OpenClaim := { program := "ytidncklgoaofpaa", sum := "d31291c62d2a2f5bcf9e4aa14268100d88f9620e83d66c35246c69c543094597", func := "chanfabric/chanfabriclaw2.DrawFair", spec := "drawFair", apart := false }
def DrawFairSaid : Prop := drawFairRow.holds Try.pinned (OpenSpec.ofChange drawFairSpec)

/-- ITS FALSE NEIGHBOUR: 'it returns false'. Refute it at one input. -/
def drawFairWrong : ChangeSpec := { name := "drawFair", fn := fun _ => fun
  | [d] => { results := [.lit (.bool false)], args := [d] }
  | _ => none }
def DrawFairWrongFalsely : Prop := drawFairRow.holds Try.pinned (OpenSpec.ofChange drawFairWrong)

/-- 'chanfabriclaw2.DrawNumbers': WHATEVER THE INPUT: true; the input reads as it did. -/
def drawNumbersSpec : ChangeSpec := { name := "drawNumbers", fn := fun _ => fun
  | [d1, d2, d3, d4] => { results := [.lit (.bool true)], args := [d1, d2, d3, d4] }
  | _ => none }
def drawNumbersRow : OpenClaim := { program := "ytidncklgoaofpaa", sum := "d31291c62d2a2f5bcf9e4aa14268100d88f9620e83d66c35246c69c543094597", func := "chanfabric/chanfabriclaw2.DrawNumbers", spec := "drawNumbers", apart := false }
def DrawNumbersSaid : Prop := drawNumbersRow.holds Try.pinned (OpenSpec.ofChange drawNumbersSpec)

/-- ITS FALSE NEIGHBOUR: 'it returns false'. Refute it at one input. -/
def drawNumbersWrong : ChangeSpec := { name := "drawNumbers", fn := fun _ => fun
  | [d1, d2, d3, d4] => { results := [.lit (.bool false)], args := [d1, d2, d3, d4] }
  | _ => none }
def DrawNumbersWrongFalsely : Prop := drawNumbersRow.holds Try.pinned (OpenSpec.ofChange drawNumbersWrong)

/-- 'chanfabriclaw2.DrawReads': WHATEVER THE INPUT: true; the input reads as it did. -/
def drawReadsSpec : ChangeSpec := { name := "drawReads", fn := fun _ => fun
  | [d1, d2, d3, d4] => { results := [.lit (.bool true)], args := [d1, d2, d3, d4] }
  | _ => none }
def drawReadsRow : OpenClaim := { program := "ytidncklgoaofpaa", sum := "d31291c62d2a2f5bcf9e4aa14268100d88f9620e83d66c35246c69c543094597", func := "chanfabric/chanfabriclaw2.DrawReads", spec := "drawReads", apart := false }
def DrawReadsSaid : Prop := drawReadsRow.holds Try.pinned (OpenSpec.ofChange drawReadsSpec)

/-- ITS FALSE NEIGHBOUR: 'it returns false'. Refute it at one input. -/
def drawReadsWrong : ChangeSpec := { name := "drawReads", fn := fun _ => fun
  | [d1, d2, d3, d4] => { results := [.lit (.bool false)], args := [d1, d2, d3, d4] }
  | _ => none }
def DrawReadsWrongFalsely : Prop := drawReadsRow.holds Try.pinned (OpenSpec.ofChange drawReadsWrong)

/-- 'chanfabriclaw2.DrawTrip': WHATEVER THE INPUT: true; the input reads as it did. -/
def drawTripSpec : ChangeSpec := { name := "drawTrip", fn := fun _ => fun
  | [d] => { results := [.lit (.bool true)], args := [d] }
  | _ => none }
def drawTripRow : OpenClaim := { program := "ytidncklgoaofpaa", sum := "d31291c62d2a2f5bcf9e4aa14268100d88f9620e83d66c35246c69c543094597", func := "chanfabric/chanfabriclaw2.DrawTrip", spec := "drawTrip", apart := false }
def DrawTripSaid : Prop := drawTripRow.holds Try.pinned (OpenSpec.ofChange drawTripSpec)

/-- ITS FALSE NEIGHBOUR: 'it returns false'. Refute it at one input. -/
def drawTripWrong : ChangeSpec := { name := "drawTrip", fn := fun _ => fun
  | [d] => { results := [.lit (.bool false)], args := [d] }
  | _ => none }
def DrawTripWrongFalsely : Prop := drawTripRow.holds Try.pinned (OpenSpec.ofChange drawTripWrong)

/-- 'chanfabriclaw19.WindowAll': WHATEVER THE INPUT: true; the input reads as it did. -/
def windowAllSpec : ChangeSpec := { name := "windowAll", fn := fun _ => fun
  | [d] => { results := [.lit (.bool true)], args := [d] }
  | _ => none }
def windowAllRow : OpenClaim := { program := "ytidncklgoaofpaa", sum := "d31291c62d2a2f5bcf9e4aa14268100d88f9620e83d66c35246c69c543094597", func := "chanfabric/chanfabriclaw19.WindowAll", spec := "windowAll", apart := false }
def WindowAllSaid : Prop := windowAllRow.holds Try.pinned (OpenSpec.ofChange windowAllSpec)

/-- ITS FALSE NEIGHBOUR: 'it returns false'. Refute it at one input. -/
def windowAllWrong : ChangeSpec := { name := "windowAll", fn := fun _ => fun
  | [d] => { results := [.lit (.bool false)], args := [d] }
  | _ => none }
def WindowAllWrongFalsely : Prop := windowAllRow.holds Try.pinned (OpenSpec.ofChange windowAllWrong)

/-- 'chanfabriclaw19.WindowRounds': WHATEVER THE INPUT: true; the input reads as it did. -/
def windowRoundsSpec : ChangeSpec := { name := "windowRounds", fn := fun _ => fun
  | [d1, d2, d3] => { results := [.lit (.bool true)], args := [d1, d2, d3] }
  | _ => none }
def windowRoundsRow : OpenClaim := { program := "ytidncklgoaofpaa", sum := "d31291c62d2a2f5bcf9e4aa14268100d88f9620e83d66c35246c69c543094597", func := "chanfabric/chanfabriclaw19.WindowRounds", spec := "windowRounds", apart := false }
def WindowRoundsSaid : Prop := windowRoundsRow.holds Try.pinned (OpenSpec.ofChange windowRoundsSpec)

/-- ITS FALSE NEIGHBOUR: 'it returns false'. Refute it at one input. -/
def windowRoundsWrong : ChangeSpec := { name := "windowRounds", fn := fun _ => fun
  | [d1, d2, d3] => { results := [.lit (.bool false)], args := [d1, d2, d3] }
  | _ => none }
def WindowRoundsWrongFalsely : Prop := windowRoundsRow.holds Try.pinned (OpenSpec.ofChange windowRoundsWrong)

/-- 'chanfabriclaw19.WindowFair': WHATEVER THE INPUT: true; the input reads as it did. -/
def windowFairSpec : ChangeSpec := { name := "windowFair", fn := fun _ => fun
  | [d1, d2, d3, d4] => { results := [.lit (.bool true)], args := [d1, d2, d3, d4] }
  | _ => none }
def windowFairRow : OpenClaim := { program := "ytidncklgoaofpaa", sum := "d31291c62d2a2f5bcf9e4aa14268100d88f9620e83d66c35246c69c543094597", func := "chanfabric/chanfabriclaw19.WindowFair", spec := "windowFair", apart := false }
def WindowFairSaid : Prop := windowFairRow.holds Try.pinned (OpenSpec.ofChange windowFairSpec)

/-- ITS FALSE NEIGHBOUR: 'it returns false'. Refute it at one input. -/
def windowFairWrong : ChangeSpec := { name := "windowFair", fn := fun _ => fun
  | [d1, d2, d3, d4] => { results := [.lit (.bool false)], args := [d1, d2, d3, d4] }
  | _ => none }
def WindowFairWrongFalsely : Prop := windowFairRow.holds Try.pinned (OpenSpec.ofChange windowFairWrong)

/- THE SECOND FORM. 'bulk': how many values and letters a reading holds, each counted each time it is reached (what is shared counts as often as it is met; a slice's spare places count too). A statement '..UptoSaid' is the law's where the arguments, and the package variables that the reading takes, are together of bulk at most 1048576: NARROWER than '..Said'. Prove '..Said' where nothing that the law and all that it calls make is longer than what came in: it says more and counts as full. Else prove '..UptoSaid'. A law counts once. -/
mutual
def uptoBulk {H : Type} : DataW H → Nat
  | .lit (.string bytes) => bytes.length + 1
  | .lit _ => 1
  | .nil => 1
  | .ptr d => uptoBulk d + 1
  | .slice elems spare => uptoBulkAll elems + uptoBulkAll spare + 1
  | .agg parts => uptoBulkAll parts + 1
  | .iface _ d => uptoBulk d + 1
  | .map entries => uptoBulkEntries entries + 1
  | .held _ => 1
def uptoBulkAll {H : Type} : List (DataW H) → Nat
  | [] => 0
  | d :: r => uptoBulk d + uptoBulkAll r
def uptoBulkEntries {H : Type} : List (Lit × DataW H) → Nat
  | [] => 0
  | x :: r => uptoBulkEntry x + uptoBulkEntries r
def uptoBulkEntry {H : Type} : Lit × DataW H → Nat
  | (.string bytes, d) => bytes.length + uptoBulk d + 1
  | (_, d) => uptoBulk d + 1
 end
def uptoSmall : (H : Type) → List (DataW H) → Bool := fun _ ds => decide (uptoBulkAll ds ≤ 1048576)
def OpenSpec.upto (s : _root_.Go.ChangeSpec) : _root_.Go.OpenSpec := { _root_.Go.OpenSpec.ofChange s with cond := some uptoSmall }

/-- 'chanfabriclaw19.WindowMeasures', WHERE WHAT IT READS IS OF BULK AT MOST 1048576: true; the input reads as it did. -/
def windowMeasuresUptoRow : OpenClaim := { program := "ytidncklgoaofpaa", sum := "d31291c62d2a2f5bcf9e4aa14268100d88f9620e83d66c35246c69c543094597", func := "chanfabric/chanfabriclaw19.WindowMeasures", spec := "windowMeasures", apart := false, narrowed := true }
def WindowMeasuresUptoSaid : Prop := windowMeasuresUptoRow.holds Try.pinned (OpenSpec.upto windowMeasuresSpec)

/-- 'chanfabriclaw19.WindowBounds', WHERE WHAT IT READS IS OF BULK AT MOST 1048576: true; the input reads as it did. -/
def windowBoundsUptoRow : OpenClaim := { program := "ytidncklgoaofpaa", sum := "d31291c62d2a2f5bcf9e4aa14268100d88f9620e83d66c35246c69c543094597", func := "chanfabric/chanfabriclaw19.WindowBounds", spec := "windowBounds", apart := false, narrowed := true }
def WindowBoundsUptoSaid : Prop := windowBoundsUptoRow.holds Try.pinned (OpenSpec.upto windowBoundsSpec)

/-- 'chanfabriclaw2.DrawOrders', WHERE WHAT IT READS IS OF BULK AT MOST 1048576: true; the input reads as it did. -/
def drawOrdersUptoRow : OpenClaim := { program := "ytidncklgoaofpaa", sum := "d31291c62d2a2f5bcf9e4aa14268100d88f9620e83d66c35246c69c543094597", func := "chanfabric/chanfabriclaw2.DrawOrders", spec := "drawOrders", apart := false, narrowed := true }
def DrawOrdersUptoSaid : Prop := drawOrdersUptoRow.holds Try.pinned (OpenSpec.upto drawOrdersSpec)

/-- 'chanfabriclaw2.DrawWins', WHERE WHAT IT READS IS OF BULK AT MOST 1048576: true; the input reads as it did. -/
def drawWinsUptoRow : OpenClaim := { program := "ytidncklgoaofpaa", sum := "d31291c62d2a2f5bcf9e4aa14268100d88f9620e83d66c35246c69c543094597", func := "chanfabric/chanfabriclaw2.DrawWins", spec := "drawWins", apart := false, narrowed := true }
def DrawWinsUptoSaid : Prop := drawWinsUptoRow.holds Try.pinned (OpenSpec.upto drawWinsSpec)

/-- 'chanfabriclaw2.DrawFair', WHERE WHAT IT READS IS OF BULK AT MOST 1048576: true; the input reads as it did. -/
def drawFairUptoRow : OpenClaim := { program := "ytidncklgoaofpaa", sum := "d31291c62d2a2f5bcf9e4aa14268100d88f9620e83d66c35246c69c543094597", func := "chanfabric/chanfabriclaw2.DrawFair", spec := "drawFair", apart := false, narrowed := true }
def DrawFairUptoSaid : Prop := drawFairUptoRow.holds Try.pinned (OpenSpec.upto drawFairSpec)

/-- 'chanfabriclaw2.DrawNumbers', WHERE WHAT IT READS IS OF BULK AT MOST 1048576: true; the input reads as it did. -/
def drawNumbersUptoRow : OpenClaim := { program := "ytidncklgoaofpaa", sum := "d31291c62d2a2f5bcf9e4aa14268100d88f9620e83d66c35246c69c543094597", func := "chanfabric/chanfabriclaw2.DrawNumbers", spec := "drawNumbers", apart := false, narrowed := true }
def DrawNumbersUptoSaid : Prop := drawNumbersUptoRow.holds Try.pinned (OpenSpec.upto drawNumbersSpec)

/-- 'chanfabriclaw2.DrawReads', WHERE WHAT IT READS IS OF BULK AT MOST 1048576: true; the input reads as it did. -/
def drawReadsUptoRow : OpenClaim := { program := "ytidncklgoaofpaa", sum := "d31291c62d2a2f5bcf9e4aa14268100d88f9620e83d66c35246c69c543094597", func := "chanfabric/chanfabriclaw2.DrawReads", spec := "drawReads", apart := false, narrowed := true }
def DrawReadsUptoSaid : Prop := drawReadsUptoRow.holds Try.pinned (OpenSpec.upto drawReadsSpec)

/-- 'chanfabriclaw2.DrawTrip', WHERE WHAT IT READS IS OF BULK AT MOST 1048576: true; the input reads as it did. -/
def drawTripUptoRow : OpenClaim := { program := "ytidncklgoaofpaa", sum := "d31291c62d2a2f5bcf9e4aa14268100d88f9620e83d66c35246c69c543094597", func := "chanfabric/chanfabriclaw2.DrawTrip", spec := "drawTrip", apart := false, narrowed := true }
def DrawTripUptoSaid : Prop := drawTripUptoRow.holds Try.pinned (OpenSpec.upto drawTripSpec)

/-- 'chanfabriclaw19.WindowAll', WHERE WHAT IT READS IS OF BULK AT MOST 1048576: true; the input reads as it did. -/
def windowAllUptoRow : OpenClaim := { program := "ytidncklgoaofpaa", sum := "d31291c62d2a2f5bcf9e4aa14268100d88f9620e83d66c35246c69c543094597", func := "chanfabric/chanfabriclaw19.WindowAll", spec := "windowAll", apart := false, narrowed := true }
def WindowAllUptoSaid : Prop := windowAllUptoRow.holds Try.pinned (OpenSpec.upto windowAllSpec)

/-- 'chanfabriclaw19.WindowRounds', WHERE WHAT IT READS IS OF BULK AT MOST 1048576: true; the input reads as it did. -/
def windowRoundsUptoRow : OpenClaim := { program := "ytidncklgoaofpaa", sum := "d31291c62d2a2f5bcf9e4aa14268100d88f9620e83d66c35246c69c543094597", func := "chanfabric/chanfabriclaw19.WindowRounds", spec := "windowRounds", apart := false, narrowed := true }
def WindowRoundsUptoSaid : Prop := windowRoundsUptoRow.holds Try.pinned (OpenSpec.upto windowRoundsSpec)

/-- 'chanfabriclaw19.WindowFair', WHERE WHAT IT READS IS OF BULK AT MOST 1048576: true; the input reads as it did. -/
def windowFairUptoRow : OpenClaim := { program := "ytidncklgoaofpaa", sum := "d31291c62d2a2f5bcf9e4aa14268100d88f9620e83d66c35246c69c543094597", func := "chanfabric/chanfabriclaw19.WindowFair", spec := "windowFair", apart := false, narrowed := true }
def WindowFairUptoSaid : Prop := windowFairUptoRow.holds Try.pinned (OpenSpec.upto windowFairSpec)

end Rows
end Go.Proofs.Ytidncklgoaofpaa
