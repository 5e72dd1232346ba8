/- == on outcomes and on accesses. -/
import Derived.Test.YtadaoobdnnleaaaM
import Derived.Test.YtadaoobdnnleaaaRows
import Derived.Laws.StructEq
namespace Go.Proofs.Ytadaoobdnnleaaa
open Go.RowKit
theorem eqi (d : Nat) (a b : Int) (W : World) : (Op.equalIn (d + 1) 3 (.int .i64 a) (.int .i64 b)).run Try.prog W = .ok (a == b) W := run_equalIn_int W d 3 .i64 _ a b Try.underlying3
theorem equ (d : Nat) (a b : Int) (W : World) : (Op.equalIn (d + 1) 46 (.int .u64 a) (.int .u64 b)).run Try.prog W = .ok (a == b) W := run_equalIn_int W d 46 .u64 _ a b Try.underlying46
set_option maxRecDepth 100000 in
theorem eq_out (W : World) (k v k' v' : Int) : (binOp .eql 50 (.agg #[.int .i64 k, .int .u64 v]) (.agg #[.int .i64 k', .int .u64 v'])).run Try.prog W = .ok (.bool (k == k' && v == v')) W := by
  have e1 := eqi 9998
  have e2 := equ 9998
  rw [run_eql_struct, show (10000 : Nat) = 9999 + 1 from rfl, run_equalIn_struct W 9999 50 _ _ (by kernel_rfl) (by kernel_rfl)]
  simp only [Program.fieldsOf, Try.underlying50, Op.eqFields]
  by_cases h1 : k = k' <;> by_cases h2 : v = v' <;> simp [part, isAgg, run_underlying Try.underlying3, run_underlying Try.underlying46, e1, e2, h1, h2]
set_option maxRecDepth 100000 in
theorem eq_acc (W : World) (x y : Acc) : (binOp .eql 65 (.agg (Acc.cells x)) (.agg (Acc.cells y))).run Try.prog W = .ok (.bool (decide (x = y))) W := by
  have e1 := eqi 9998
  have e2 := equ 9998
  obtain ⟨k, a, o, n⟩ := x
  obtain ⟨k', a', o', n'⟩ := y
  rw [run_eql_struct, show (10000 : Nat) = 9999 + 1 from rfl, run_equalIn_struct W 9999 65 _ _ (by kernel_rfl) (by kernel_rfl)]
  simp only [Program.fieldsOf, Try.underlying65, Op.eqFields, Acc.cells]
  by_cases h1 : k = k' <;> by_cases h2 : a = a' <;> by_cases h3 : o = o' <;> by_cases h4 : n = n' <;> simp [part, isAgg, run_underlying Try.underlying3, run_underlying Try.underlying46, e1, e2, h1, h2, h3, h4]
end Go.Proofs.Ytadaoobdnnleaaa
