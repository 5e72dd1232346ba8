/-
  No cell of these rows narrows 'for every input' (looked for: loops, veiled, ifaces, maps, wideKeys, modest, calm, conditions, laid).
  DERIVED. THE GIVEN ROWS OF THIS SEAT. 11 by the template 'for every input the law returns true; each argument reads behind the call as it read before'; 0 by the template 'total and deterministic' (their statements: YtadaoobdnnleaaaTotals.lean).
  GIVEN WITH THE SEED: the statements are not yours to turn. If you find one false, say at which input.
  Laid BY PROGRAM, IN A SANDBOX (cutbox-rows.mjs): the forced cells as the released guide's own fill.sh prints them over the translation 3158b039ec0a575b… (all of the seat's roots in one cut). By AI agents, Wed Nov 11 2026. No macro, syntax, notation, axiom, sorry.
-/
import Derived.Test.YtadaoobdnnleaaaChecked
import GoSem.Claim
import GoSem.ClaimJoined
import GoSem.ClaimMapViews
import Derived.JoinedTies
import Derived.KernelRfl
namespace Go.Proofs.Ytadaoobdnnleaaa
/- THE CELL 'sum', in the pinned program and in every row, IS THE sha256 OF THE DUMP (.gsa) THAT YtadaoobdnnleaaaProg.lean LOADS. Nothing in Lean hashes anything: it is a label: what it is worth is what the hold of that sum in a sandbox is worth. -/
noncomputable def Try.pinned : Pinned := { name := "ytadaoobdnnleaaa", sum := "3158b039ec0a575b5e830bd618a0ce068abd42bb7b3763bd6e65c477128e65aa", checked := Try.checked }
namespace Rows
def none {H : Type} : Left H := { results := [], args := [] }

/-- 'chanfabriclaw7.LockAccesses': WHATEVER THE INPUT: true; the input reads as it did. -/
def lockAccessesSpec : ChangeSpec := { name := "lockAccesses", fn := fun _ => fun
  | [d1, d2] => { results := [.lit (.bool true)], args := [d1, d2] }
  | _ => none }
def lockAccessesRow : OpenClaim := { program := "ytadaoobdnnleaaa", sum := "3158b039ec0a575b5e830bd618a0ce068abd42bb7b3763bd6e65c477128e65aa", func := "chanfabric/chanfabriclaw7.LockAccesses", spec := "lockAccesses", apart := false }
def LockAccessesSaid : Prop := lockAccessesRow.holds Try.pinned (OpenSpec.ofChange lockAccessesSpec)

/-- ITS FALSE NEIGHBOUR: 'it returns false'. Refute it at one input. -/
def lockAccessesWrong : ChangeSpec := { name := "lockAccesses", fn := fun _ => fun
  | [d1, d2] => { results := [.lit (.bool false)], args := [d1, d2] }
  | _ => none }
def LockAccessesWrongFalsely : Prop := lockAccessesRow.holds Try.pinned (OpenSpec.ofChange lockAccessesWrong)

/-- 'chanfabriclaw7.LockExcludes': WHATEVER THE INPUT: true; the input reads as it did. -/
def lockExcludesSpec : ChangeSpec := { name := "lockExcludes", fn := fun _ => fun
  | [d] => { results := [.lit (.bool true)], args := [d] }
  | _ => none }
def lockExcludesRow : OpenClaim := { program := "ytadaoobdnnleaaa", sum := "3158b039ec0a575b5e830bd618a0ce068abd42bb7b3763bd6e65c477128e65aa", func := "chanfabric/chanfabriclaw7.LockExcludes", spec := "lockExcludes", apart := false }
def LockExcludesSaid : Prop := lockExcludesRow.holds Try.pinned (OpenSpec.ofChange lockExcludesSpec)

/-- ITS FALSE NEIGHBOUR: 'it returns false'. Refute it at one input. -/
def lockExcludesWrong : ChangeSpec := { name := "lockExcludes", fn := fun _ => fun
  | [d] => { results := [.lit (.bool false)], args := [d] }
  | _ => none }
def LockExcludesWrongFalsely : Prop := lockExcludesRow.holds Try.pinned (OpenSpec.ofChange lockExcludesWrong)

/-- 'chanfabriclaw7.LockFrames': WHATEVER THE INPUT: true; the input reads as it did. -/
def lockFramesSpec : ChangeSpec := { name := "lockFrames", fn := fun _ => fun
  | [d1, d2, d3] => { results := [.lit (.bool true)], args := [d1, d2, d3] }
  | _ => none }
def lockFramesRow : OpenClaim := { program := "ytadaoobdnnleaaa", sum := "3158b039ec0a575b5e830bd618a0ce068abd42bb7b3763bd6e65c477128e65aa", func := "chanfabric/chanfabriclaw7.LockFrames", spec := "lockFrames", apart := false }
def LockFramesSaid : Prop := lockFramesRow.holds Try.pinned (OpenSpec.ofChange lockFramesSpec)

/-- ITS FALSE NEIGHBOUR: 'it returns false'. Refute it at one input. -/
def lockFramesWrong : ChangeSpec := { name := "lockFrames", fn := fun _ => fun
  | [d1, d2, d3] => { results := [.lit (.bool false)], args := [d1, d2, d3] }
  | _ => none }
def LockFramesWrongFalsely : Prop := lockFramesRow.holds Try.pinned (OpenSpec.ofChange lockFramesWrong)

/-- 'chanfabriclaw12.ClaimAccesses': WHATEVER THE INPUT: true; the input reads as it did. -/
def claimAccessesSpec : ChangeSpec := { name := "claimAccesses", fn := fun _ => fun
  | [d1, d2, d3, d4] => { results := [.lit (.bool true)], args := [d1, d2, d3, d4] }
  | _ => none }
def claimAccessesRow : OpenClaim := { program := "ytadaoobdnnleaaa", sum := "3158b039ec0a575b5e830bd618a0ce068abd42bb7b3763bd6e65c477128e65aa", func := "chanfabric/chanfabriclaw12.ClaimAccesses", spec := "claimAccesses", apart := false }
def ClaimAccessesSaid : Prop := claimAccessesRow.holds Try.pinned (OpenSpec.ofChange claimAccessesSpec)

/-- ITS FALSE NEIGHBOUR: 'it returns false'. Refute it at one input. -/
def claimAccessesWrong : ChangeSpec := { name := "claimAccesses", fn := fun _ => fun
  | [d1, d2, d3, d4] => { results := [.lit (.bool false)], args := [d1, d2, d3, d4] }
  | _ => none }
def ClaimAccessesWrongFalsely : Prop := claimAccessesRow.holds Try.pinned (OpenSpec.ofChange claimAccessesWrong)

/-- 'chanfabriclaw12.ClaimAnswers': WHATEVER THE INPUT: true; the input reads as it did. -/
def claimAnswersSpec : ChangeSpec := { name := "claimAnswers", fn := fun _ => fun
  | [d1, d2, d3, d4] => { results := [.lit (.bool true)], args := [d1, d2, d3, d4] }
  | _ => none }
def claimAnswersRow : OpenClaim := { program := "ytadaoobdnnleaaa", sum := "3158b039ec0a575b5e830bd618a0ce068abd42bb7b3763bd6e65c477128e65aa", func := "chanfabric/chanfabriclaw12.ClaimAnswers", spec := "claimAnswers", apart := false }
def ClaimAnswersSaid : Prop := claimAnswersRow.holds Try.pinned (OpenSpec.ofChange claimAnswersSpec)

/-- ITS FALSE NEIGHBOUR: 'it returns false'. Refute it at one input. -/
def claimAnswersWrong : ChangeSpec := { name := "claimAnswers", fn := fun _ => fun
  | [d1, d2, d3, d4] => { results := [.lit (.bool false)], args := [d1, d2, d3, d4] }
  | _ => none }
def ClaimAnswersWrongFalsely : Prop := claimAnswersRow.holds Try.pinned (OpenSpec.ofChange claimAnswersWrong)

/-- 'chanfabriclaw12.ClaimOnce': WHATEVER THE INPUT: true; the input reads as it did. -/
def claimOnceSpec : ChangeSpec := { name := "claimOnce", fn := fun _ => fun
  | [d1, d2] => { results := [.lit (.bool true)], args := [d1, d2] }
  | _ => none }
def claimOnceRow : OpenClaim := { program := "ytadaoobdnnleaaa", sum := "3158b039ec0a575b5e830bd618a0ce068abd42bb7b3763bd6e65c477128e65aa", func := "chanfabric/chanfabriclaw12.ClaimOnce", spec := "claimOnce", apart := false }
def ClaimOnceSaid : Prop := claimOnceRow.holds Try.pinned (OpenSpec.ofChange claimOnceSpec)

/-- ITS FALSE NEIGHBOUR: 'it returns false'. Refute it at one input. -/
def claimOnceWrong : ChangeSpec := { name := "claimOnce", fn := fun _ => fun
  | [d1, d2] => { results := [.lit (.bool false)], args := [d1, d2] }
  | _ => none }
def ClaimOnceWrongFalsely : Prop := claimOnceRow.holds Try.pinned (OpenSpec.ofChange claimOnceWrong)

/-- 'chanfabriclaw12.ClaimFires': WHATEVER THE INPUT: true; the input reads as it did. -/
def claimFiresSpec : ChangeSpec := { name := "claimFires", fn := fun _ => fun
  | [d1, d2, d3] => { results := [.lit (.bool true)], args := [d1, d2, d3] }
  | _ => none }
def claimFiresRow : OpenClaim := { program := "ytadaoobdnnleaaa", sum := "3158b039ec0a575b5e830bd618a0ce068abd42bb7b3763bd6e65c477128e65aa", func := "chanfabric/chanfabriclaw12.ClaimFires", spec := "claimFires", apart := false }
def ClaimFiresSaid : Prop := claimFiresRow.holds Try.pinned (OpenSpec.ofChange claimFiresSpec)

/-- ITS FALSE NEIGHBOUR: 'it returns false'. Refute it at one input. -/
def claimFiresWrong : ChangeSpec := { name := "claimFires", fn := fun _ => fun
  | [d1, d2, d3] => { results := [.lit (.bool false)], args := [d1, d2, d3] }
  | _ => none }
def ClaimFiresWrongFalsely : Prop := claimFiresRow.holds Try.pinned (OpenSpec.ofChange claimFiresWrong)

/-- 'chanfabriclaw12.ClaimUndoes': WHATEVER THE INPUT: true; the input reads as it did. -/
def claimUndoesSpec : ChangeSpec := { name := "claimUndoes", fn := fun _ => fun
  | [d] => { results := [.lit (.bool true)], args := [d] }
  | _ => none }
def claimUndoesRow : OpenClaim := { program := "ytadaoobdnnleaaa", sum := "3158b039ec0a575b5e830bd618a0ce068abd42bb7b3763bd6e65c477128e65aa", func := "chanfabric/chanfabriclaw12.ClaimUndoes", spec := "claimUndoes", apart := false }
def ClaimUndoesSaid : Prop := claimUndoesRow.holds Try.pinned (OpenSpec.ofChange claimUndoesSpec)

/-- ITS FALSE NEIGHBOUR: 'it returns false'. Refute it at one input. -/
def claimUndoesWrong : ChangeSpec := { name := "claimUndoes", fn := fun _ => fun
  | [d] => { results := [.lit (.bool false)], args := [d] }
  | _ => none }
def ClaimUndoesWrongFalsely : Prop := claimUndoesRow.holds Try.pinned (OpenSpec.ofChange claimUndoesWrong)

/-- 'chanfabriclaw10.ShutAccesses': WHATEVER THE INPUT: true; the input reads as it did. -/
def shutAccessesSpec : ChangeSpec := { name := "shutAccesses", fn := fun _ => fun
  | [d1, d2] => { results := [.lit (.bool true)], args := [d1, d2] }
  | _ => none }
def shutAccessesRow : OpenClaim := { program := "ytadaoobdnnleaaa", sum := "3158b039ec0a575b5e830bd618a0ce068abd42bb7b3763bd6e65c477128e65aa", func := "chanfabric/chanfabriclaw10.ShutAccesses", spec := "shutAccesses", apart := false }
def ShutAccessesSaid : Prop := shutAccessesRow.holds Try.pinned (OpenSpec.ofChange shutAccessesSpec)

/-- ITS FALSE NEIGHBOUR: 'it returns false'. Refute it at one input. -/
def shutAccessesWrong : ChangeSpec := { name := "shutAccesses", fn := fun _ => fun
  | [d1, d2] => { results := [.lit (.bool false)], args := [d1, d2] }
  | _ => none }
def ShutAccessesWrongFalsely : Prop := shutAccessesRow.holds Try.pinned (OpenSpec.ofChange shutAccessesWrong)

/-- 'chanfabriclaw10.ShutAnswers': WHATEVER THE INPUT: true; the input reads as it did. -/
def shutAnswersSpec : ChangeSpec := { name := "shutAnswers", fn := fun _ => fun
  | [d1, d2, d3] => { results := [.lit (.bool true)], args := [d1, d2, d3] }
  | _ => none }
def shutAnswersRow : OpenClaim := { program := "ytadaoobdnnleaaa", sum := "3158b039ec0a575b5e830bd618a0ce068abd42bb7b3763bd6e65c477128e65aa", func := "chanfabric/chanfabriclaw10.ShutAnswers", spec := "shutAnswers", apart := false }
def ShutAnswersSaid : Prop := shutAnswersRow.holds Try.pinned (OpenSpec.ofChange shutAnswersSpec)

/-- ITS FALSE NEIGHBOUR: 'it returns false'. Refute it at one input. -/
def shutAnswersWrong : ChangeSpec := { name := "shutAnswers", fn := fun _ => fun
  | [d1, d2, d3] => { results := [.lit (.bool false)], args := [d1, d2, d3] }
  | _ => none }
def ShutAnswersWrongFalsely : Prop := shutAnswersRow.holds Try.pinned (OpenSpec.ofChange shutAnswersWrong)

/-- 'chanfabriclaw10.ShutOnce': WHATEVER THE INPUT: true; the input reads as it did. -/
def shutOnceSpec : ChangeSpec := { name := "shutOnce", fn := fun _ => fun
  | [d1, d2, d3] => { results := [.lit (.bool true)], args := [d1, d2, d3] }
  | _ => none }
def shutOnceRow : OpenClaim := { program := "ytadaoobdnnleaaa", sum := "3158b039ec0a575b5e830bd618a0ce068abd42bb7b3763bd6e65c477128e65aa", func := "chanfabric/chanfabriclaw10.ShutOnce", spec := "shutOnce", apart := false }
def ShutOnceSaid : Prop := shutOnceRow.holds Try.pinned (OpenSpec.ofChange shutOnceSpec)

/-- ITS FALSE NEIGHBOUR: 'it returns false'. Refute it at one input. -/
def shutOnceWrong : ChangeSpec := { name := "shutOnce", fn := fun _ => fun
  | [d1, d2, d3] => { results := [.lit (.bool false)], args := [d1, d2, d3] }
  | _ => none }
def ShutOnceWrongFalsely : Prop := shutOnceRow.holds Try.pinned (OpenSpec.ofChange shutOnceWrong)

/- THE SECOND FORM. 'bulk': how many values and letters a reading holds, each counted each time it is reached (what is shared counts as often as it is met; a slice's spare places count too). A statement '..UptoSaid' is the law's where the arguments, and the package variables that the reading takes, are together of bulk at most 1048576: NARROWER than '..Said'. Prove '..Said' where nothing that the law and all that it calls make is longer than what came in: it says more and counts as full. Else prove '..UptoSaid'. A law counts once. -/
mutual
def uptoBulk {H : Type} : DataW H → Nat
  | .lit (.string bytes) => bytes.length + 1
  | .lit _ => 1
  | .nil => 1
  | .ptr d => uptoBulk d + 1
  | .slice elems spare => uptoBulkAll elems + uptoBulkAll spare + 1
  | .agg parts => uptoBulkAll parts + 1
  | .iface _ d => uptoBulk d + 1
  | .map entries => uptoBulkEntries entries + 1
  | .held _ => 1
def uptoBulkAll {H : Type} : List (DataW H) → Nat
  | [] => 0
  | d :: r => uptoBulk d + uptoBulkAll r
def uptoBulkEntries {H : Type} : List (Lit × DataW H) → Nat
  | [] => 0
  | x :: r => uptoBulkEntry x + uptoBulkEntries r
def uptoBulkEntry {H : Type} : Lit × DataW H → Nat
  | (.string bytes, d) => bytes.length + uptoBulk d + 1
  | (_, d) => uptoBulk d + 1
 end
def uptoSmall : (H : Type) → List (DataW H) → Bool := fun _ ds => decide (uptoBulkAll ds ≤ 1048576)
def OpenSpec.upto (s : _root_.Go.ChangeSpec) : _root_.Go.OpenSpec := { _root_.Go.OpenSpec.ofChange s with cond := some uptoSmall }

/-- 'chanfabriclaw7.LockAccesses', WHERE WHAT IT READS IS OF BULK AT MOST 1048576: true; the input reads as it did. -/
def lockAccessesUptoRow : OpenClaim := { program := "ytadaoobdnnleaaa", sum := "3158b039ec0a575b5e830bd618a0ce068abd42bb7b3763bd6e65c477128e65aa", func := "chanfabric/chanfabriclaw7.LockAccesses", spec := "lockAccesses", apart := false, narrowed := true }
def LockAccessesUptoSaid : Prop := lockAccessesUptoRow.holds Try.pinned (OpenSpec.upto lockAccessesSpec)

/-- 'chanfabriclaw7.LockExcludes', WHERE WHAT IT READS IS OF BULK AT MOST 1048576: true; the input reads as it did. -/
def lockExcludesUptoRow : OpenClaim := { program := "ytadaoobdnnleaaa", sum := "3158b039ec0a575b5e830bd618a0ce068abd42bb7b3763bd6e65c477128e65aa", func := "chanfabric/chanfabriclaw7.LockExcludes", spec := "lockExcludes", apart := false, narrowed := true }
def LockExcludesUptoSaid : Prop := lockExcludesUptoRow.holds Try.pinned (OpenSpec.upto lockExcludesSpec)

/-- 'chanfabriclaw7.LockFrames', WHERE WHAT IT READS IS OF BULK AT MOST 1048576: true; the input reads as it did. -/
def lockFramesUptoRow : OpenClaim := { program := "ytadaoobdnnleaaa", sum := "3158b039ec0a575b5e830bd618a0ce068abd42bb7b3763bd6e65c477128e65aa", func := "chanfabric/chanfabriclaw7.LockFrames", spec := "lockFrames", apart := false, narrowed := true }
def LockFramesUptoSaid : Prop := lockFramesUptoRow.holds Try.pinned (OpenSpec.upto lockFramesSpec)

/-- 'chanfabriclaw12.ClaimAccesses', WHERE WHAT IT READS IS OF BULK AT MOST 1048576: true; the input reads as it did. -/
def claimAccessesUptoRow : OpenClaim := { program := "ytadaoobdnnleaaa", sum := "3158b039ec0a575b5e830bd618a0ce068abd42bb7b3763bd6e65c477128e65aa", func := "chanfabric/chanfabriclaw12.ClaimAccesses", spec := "claimAccesses", apart := false, narrowed := true }
def ClaimAccessesUptoSaid : Prop := claimAccessesUptoRow.holds Try.pinned (OpenSpec.upto claimAccessesSpec)

/-- 'chanfabriclaw12.ClaimAnswers', WHERE WHAT IT READS IS OF BULK AT MOST 1048576: true; the input reads as it did. -/
def claimAnswersUptoRow : OpenClaim := { program := "ytadaoobdnnleaaa", sum := "3158b039ec0a575b5e830bd618a0ce068abd42bb7b3763bd6e65c477128e65aa", func := "chanfabric/chanfabriclaw12.ClaimAnswers", spec := "claimAnswers", apart := false, narrowed := true }
def ClaimAnswersUptoSaid : Prop := claimAnswersUptoRow.holds Try.pinned (OpenSpec.upto claimAnswersSpec)

/-- 'chanfabriclaw12.ClaimOnce', WHERE WHAT IT READS IS OF BULK AT MOST 1048576: true; the input reads as it did. -/
def claimOnceUptoRow : OpenClaim := { program := "ytadaoobdnnleaaa", sum := "3158b039ec0a575b5e830bd618a0ce068abd42bb7b3763bd6e65c477128e65aa", func := "chanfabric/chanfabriclaw12.ClaimOnce", spec := "claimOnce", apart := false, narrowed := true }
def ClaimOnceUptoSaid : Prop := claimOnceUptoRow.holds Try.pinned (OpenSpec.upto claimOnceSpec)

/-- 'chanfabriclaw12.ClaimFires', WHERE WHAT IT READS IS OF BULK AT MOST 1048576: true; the input reads as it did. -/
def claimFiresUptoRow : OpenClaim := { program := "ytadaoobdnnleaaa", sum := "3158b039ec0a575b5e830bd618a0ce068abd42bb7b3763bd6e65c477128e65aa", func := "chanfabric/chanfabriclaw12.ClaimFires", spec := "claimFires", apart := false, narrowed := true }
def ClaimFiresUptoSaid : Prop := claimFiresUptoRow.holds Try.pinned (OpenSpec.upto claimFiresSpec)

/-- 'chanfabriclaw12.ClaimUndoes', WHERE WHAT IT READS IS OF BULK AT MOST 1048576: true; the input reads as it did. -/
def claimUndoesUptoRow : OpenClaim := { program := "ytadaoobdnnleaaa", sum := "3158b039ec0a575b5e830bd618a0ce068abd42bb7b3763bd6e65c477128e65aa", func := "chanfabric/chanfabriclaw12.ClaimUndoes", spec := "claimUndoes", apart := false, narrowed := true }
def ClaimUndoesUptoSaid : Prop := claimUndoesUptoRow.holds Try.pinned (OpenSpec.upto claimUndoesSpec)

/-- 'chanfabriclaw10.ShutAccesses', WHERE WHAT IT READS IS OF BULK AT MOST 1048576: true; the input reads as it did. -/
def shutAccessesUptoRow : OpenClaim := { program := "ytadaoobdnnleaaa", sum := "3158b039ec0a575b5e830bd618a0ce068abd42bb7b3763bd6e65c477128e65aa", func := "chanfabric/chanfabriclaw10.ShutAccesses", spec := "shutAccesses", apart := false, narrowed := true }
def ShutAccessesUptoSaid : Prop := shutAccessesUptoRow.holds Try.pinned (OpenSpec.upto shutAccessesSpec)

/-- 'chanfabriclaw10.ShutAnswers', WHERE WHAT IT READS IS OF BULK AT MOST 1048576: true; the input reads as it did. -/
def shutAnswersUptoRow : OpenClaim := { program := "ytadaoobdnnleaaa", sum := "3158b039ec0a575b5e830bd618a0ce068abd42bb7b3763bd6e65c477128e65aa", func := "chanfabric/chanfabriclaw10.ShutAnswers", spec := "shutAnswers", apart := false, narrowed := true }
def ShutAnswersUptoSaid : Prop := shutAnswersUptoRow.holds Try.pinned (OpenSpec.upto shutAnswersSpec)

/-- 'chanfabriclaw10.ShutOnce', WHERE WHAT IT READS IS OF BULK AT MOST 1048576: true; the input reads as it did. -/
def shutOnceUptoRow : OpenClaim := { program := "ytadaoobdnnleaaa", sum := "3158b039ec0a575b5e830bd618a0ce068abd42bb7b3763bd6e65c477128e65aa", func := "chanfabric/chanfabriclaw10.ShutOnce", spec := "shutOnce", apart := false, narrowed := true }
def ShutOnceUptoSaid : Prop := shutOnceUptoRow.holds Try.pinned (OpenSpec.upto shutOnceSpec)

end Rows
end Go.Proofs.Ytadaoobdnnleaaa
