/- A region that draws its order, in two times: several operations may come up. -/
import Derived.Test.YtepngbdjobckbaaGreatG5
namespace Go.Proofs.YtepngbdjobckbaaGreat
open Go.RowKit
set_option linter.unusedVariables false
section
variable {P : Program} {ops : Array Oper} {Q : Exit → Act → World → Prop} {md : Region.Mode} {T : World → Prop} {k : Nat}
/-- Each of L may come up. -/
def wpAnyLs (P : Program) (md : Region.Mode) (ops : Array Oper) (Q : Exit → Act → World → Prop) (T : World → Prop) (k fuel : Nat) (listed : Array Bool) (a : Act) (w : World) (L : List Nat) : Prop :=
  ∀ i ∈ L, wpOp P ops Q i (fun a' w' => ((listed.setIfInBounds i true).getD k true = false → T w') ∧ wpAnyL P md ops Q T k fuel (listed.setIfInBounds i true) a' w') a w
theorem wpAnyL_some {fuel : Nat} {listed : Array Bool} {a : Act} {w : World} (i : Nat) (L : List Nat) (hr : Region.ready md ops listed = i :: L) (h : wpAnyLs P md ops Q T k fuel listed a w (i :: L)) : wpAnyL P md ops Q T k (fuel + 1) listed a w :=
  ⟨fun h0 => (by rw [hr] at h0; cases h0), fun j hj => h j (by rw [hr] at hj; exact hj)⟩
theorem wpAnyLs_nil {fuel : Nat} {listed : Array Bool} {a : Act} {w : World} : wpAnyLs P md ops Q T k fuel listed a w [] := fun i hi => by cases hi
theorem wpAnyLs_cons {i : Nat} {L : List Nat} {oi : Oper} {fuel : Nat} {listed : Array Bool} {a : Act} {w : World} (hi : ops[i]? = some oi)
    (h : ∀ K' : Act → World → Prop, Shut (∀ a w, ((listed.setIfInBounds i true).getD k true = false → T w) → wpAnyL P md ops Q T k fuel (listed.setIfInBounds i true) a w → K' a w) → if Region.wanted oi (yielded ops a.tmps) = true then Oper.wp P oi a w K' Q else K' (a.put oi.dst undef) w)
    (hL : wpAnyLs P md ops Q T k fuel listed a w L) : wpAnyLs P md ops Q T k fuel listed a w (i :: L) := fun j hj => by
  rcases List.mem_cons.1 hj with rfl | hj
  · exact wpOp_step hi (fun K' hK => h K' (fun a w hT hW => hK a w ⟨hT, hW⟩))
  · exact hL j hj
end
end Go.Proofs.YtepngbdjobckbaaGreat
