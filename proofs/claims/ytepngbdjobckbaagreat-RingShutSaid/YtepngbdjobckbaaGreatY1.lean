/- How many machines there are while they play. -/
import Derived.Test.YtepngbdjobckbaaGreatY0
namespace Go.Proofs.YtepngbdjobckbaaGreat
open Go.RowKit
set_option linter.unusedVariables false
theorem pl1_len (p : List Int) (s : St) : ∀ j, (pl1 p s j).ms.length = s.ms.length := by
  intro j
  induction j with
  | zero => rfl
  | succ j ih => rw [pl1, stp_len, ih]
theorem pl3_len (s : St) : ∀ j, (pl3 s j).ms.length = s.ms.length := by
  intro j
  induction j with
  | zero => rfl
  | succ j ih => rw [pl3, stp_len, ih]
theorem pl2_len (s : St) (K : Nat) : ∀ n, (pl2 K s n).ms.length = s.ms.length := by
  intro n
  induction n with
  | zero => rfl
  | succ n ih => rw [pl2, pl3_len, ih]
theorem plays_len (p : List Int) (most turns : Nat) (s : St) : (plays p most turns s).ms.length = s.ms.length := by
  rw [plays, pl2_len, pl1_len]
theorem mres_ch (l : List Int) (x : Mc) (a : Int) (y : Bool) : (mres l x a y).ch = x.ch := by
  unfold mres mpush mpop mshut mcount mend mto
  repeat' split
  all_goals rfl
end Go.Proofs.YtepngbdjobckbaaGreat
