/- == on two arrays of two numbers. -/
import Derived.Test.YtjmchkafjpahbaaK
import Derived.Test.YtjmchkafjpahbaaRows
import Derived.Laws.StructEq
namespace Go.Proofs.Ytjmchkafjpahbaa
open Go.RowKit
theorem eq_pair_d (d : Nat) (x y a b : Int) (W : World) : (Op.equalIn (d + 2) 23 (.agg #[.int .i64 x, .int .i64 y]) (.agg #[.int .i64 a, .int .i64 b])).run Try.prog W = .ok (x == a && y == b) W := by
  obtain ⟨i0, hi, _, hz1, _⟩ := info_parts (P := Try.prog) (e := 3) (z := .int .i64 0) (size := 1) (bytes := 8) (by kernel_rfl)
  have h3 := Try.underlying3
  have p0 : ∀ (u v : Value) (W : World), (part 3 #[u, v] 0).run Try.prog W = .ok u W := by
    intro u v W
    simp [part, isAgg, run_underlying h3]
  have p1 : ∀ (u v : Value) (W : World), (part 3 #[u, v] 1).run Try.prog W = .ok v W := by
    intro u v W
    simp [part, isAgg, run_underlying h3]
  have h1 : ∀ W, (Op.equalIn (d + 1) 3 (.int .i64 x) (.int .i64 a)).run Try.prog W = .ok (x == a) W := fun W => run_equalIn_int W d 3 .i64 _ x a h3
  have h2 : ∀ W, (Op.equalIn (d + 1) 3 (.int .i64 y) (.int .i64 b)).run Try.prog W = .ok (y == b) W := fun W => run_equalIn_int W d 3 .i64 _ y b h3
  rw [Op.equalIn]
  simp only [Sem.run_bind, run_underlying Try.underlying23, Result.andThen_ok]
  simp [sizeOf, typeInfo, hi, hz1, Std.Legacy.Range.forIn_eq_forIn_range', List.range'_succ, p0, p1, h1, h2]
  by_cases e1 : x = a <;> by_cases e2 : y = b <;> simp [e1, e2]
theorem eq_pair (x y a b : Int) (W : World) : (Op.equalIn 10000 23 (.agg #[.int .i64 x, .int .i64 y]) (.agg #[.int .i64 a, .int .i64 b])).run Try.prog W = .ok (x == a && y == b) W :=
  eq_pair_d 9998 x y a b W
end Go.Proofs.Ytjmchkafjpahbaa
