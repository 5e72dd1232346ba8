/- The remainder from 0 on (chanfabricdraw.Mod); a guarded call as one step of a region. -/
import Derived.Test.YtepngbdjobckbaaRows
import Derived.Test.YtepngbdjobckbaaW
namespace Go.Proofs.Ytepngbdjobckbaa
open Go.RowKit
set_option linter.unusedVariables false
theorem mod_any (x n : Int) (w : World) (h1 : 1 ≤ n) (h2 : n ≤ 4611686018427387904) (hx : -9223372036854775808 ≤ x) (hx2 : x ≤ 9223372036854775807) :
    Calls Try.prog 19 #[.int .i64 x, .int .i64 n] w fun e w' => e = .returned (.int .i64 (x % n)) ∧ w = w' := by
  have e1 : x.tmod n = x % n ∨ (x.tmod n < 0 ∧ x.tmod n + n = x % n) := by
    rw [Int.tmod_eq_emod]
    have := Int.emod_nonneg x (show n ≠ 0 by omega)
    have := Int.emod_lt_of_pos x (show 0 < n by omega)
    split <;> omega
  have b1 := Int.emod_nonneg x (show n ≠ 0 by omega)
  have b2 := Int.emod_lt_of_pos x (show 0 < n by omega)
  have E := hide e1
  have hb : -4611686018427387904 ≤ x.tmod n ∧ x.tmod n ≤ 4611686018427387904 := by rcases e1 with e | e <;> omega
  clear e1
  by_cases h0 : 0 ≤ x
  · go_enter Try.func19, Try.ntmps19
    go_wp2
    go_ret
    exact ⟨rfl, rfl⟩
  · go_enter Try.func19, Try.ntmps19
    go_wp2
    · go_ret
      exact ⟨ret_int (by have := E.out; omega), rfl⟩
    · go_ret
      exact ⟨ret_int (by have := E.out; omega), rfl⟩
/-- A guarded call of a Go function as one step of a region. -/
theorem step_callw {P : Program} {ops : Array Oper} {o : Oper} {a : Act} {K : Act → World → Prop} {Q : Exit → Act → World → Prop} {E : Prop} (W : World) (hw : Region.wanted o (yielded ops a.tmps) = true) (f : FuncId) (vs : Array Value)
    (hrun : (execOp a.eval o).run P W = .ok (.enter f vs) W) {R : Ending → World → Prop} (hc : Calls P f vs W R) (h : ∀ e w', R e w' → ∃ v, e = .returned v ∧ K (a.put o.dst v) w') :
    if Region.wanted o (yielded ops a.tmps) = true then Oper.wp P o a W K Q else E := by
  rw [if_pos hw]
  unfold Oper.wp
  rw [hrun, Oper.upon_enter]
  refine hc.mono fun e w' hh => ?_
  obtain ⟨v, rfl, hk⟩ := h e w' hh
  exact hk
end Go.Proofs.Ytepngbdjobckbaa
