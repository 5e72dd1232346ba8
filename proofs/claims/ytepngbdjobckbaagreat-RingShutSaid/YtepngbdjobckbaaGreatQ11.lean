/- The world of a ring with machines of all kinds (others). -/
import Derived.Test.YtepngbdjobckbaaGreatQ0
namespace Go.Proofs.YtepngbdjobckbaaGreat
open Go.RowKit
set_option linter.unusedVariables false
/-- How a machine is added to the world. -/
def AddOk11 (Rp : List Int → Mc → Fa → Prop) : Prop := ∀ (w : World) (base G : Nat) (s : St) (what ch th : Nat) (v : Int), WI Own11 Rp w base G 66 s → 1 ≤ what ∧ what ≤ 11 → ch < s.l.length → th ≤ 8 → u64 v → s.ms.length ≤ 1000 →
    Calls Tryz.prog 16 #[.pointer (some ⟨G, 0, none⟩), .int .i64 what, .int .i64 ch, .int .i64 th, .int .u64 v] w fun e w' => e = .returned (.tuple #[]) ∧ WI Own11 Rp w' base G 66 { s with ms := s.ms ++ [mc0 what ch th v] } ∧ Below base w w' ∧ Kp w w' 3
theorem tw11 : TWok 66 := by unfold TWok; decide
end Go.Proofs.YtepngbdjobckbaaGreat
