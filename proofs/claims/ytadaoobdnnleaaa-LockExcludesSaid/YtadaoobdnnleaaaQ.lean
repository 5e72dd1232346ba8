/- Plain facts on 64-bit words: sequence numbers, tail words, ring sizes. No program in sight. -/
import Derived.WalkKit
import Derived.Laws.BitsAllLaws
namespace Go.Proofs.Ytadaoobdnnleaaa
open Go.RowKit

/-- The sequence number n behind a. -/
def nx (a n : Int) : Int := (a + n) % 9223372036854775808
/-- The distance from b to a. -/
def df (a b : Int) : Int :=
  if (a - b) % 9223372036854775808 < 4611686018427387904 then (a - b) % 9223372036854775808 else (a - b) % 9223372036854775808 - 9223372036854775808
/-- A tail word. -/
def pk (a : Int) (c : Bool) : Int := (a * 2) % 18446744073709551616 + (if c then 1 else 0)
/-- Its closed bit. -/
def cl (a : Int) : Bool := a % 2 == 1
/-- The slot. -/
def sl (a n : Int) : Int := if n < 1 then 0 else (a % 9223372036854775808) % n
/-- Doubling until it is enough. -/
def dbl (c : Int) : Nat → Int → Int
  | 0, s => s
  | f + 1, s => if s < c then dbl c f (2 * s) else s
/-- The number of slots. -/
def sz (c : Int) : Int := if 1073741824 < c then 0 else if c = 1 then 2 else dbl c 31 1

theorem wrap_u64 (n : Int) : IntKind.u64.wrap n = n % 18446744073709551616 := by simp [IntKind.wrap, IntKind.bits, IntKind.signed]
theorem wrap_i64 (n : Int) : wrap64 n = (n + 9223372036854775808) % 18446744073709551616 - 9223372036854775808 := by
  simp only [wrap64]

theorem mask63 (x : Int) (h0 : 0 ≤ x) (h1 : x < 18446744073709551616) : bits .and .u64 x 9223372036854775807 = x % 9223372036854775808 := by
  rw [u64_and x 9223372036854775807 h0 h1 (by omega) (by omega)]
  have := Nat.and_two_pow_sub_one_eq_mod x.toNat 63
  have h : (9223372036854775807 : Int).toNat = 2 ^ 63 - 1 := by decide
  rw [h, this]
  omega
theorem mask63_wrap (x : Int) : bits .and .u64 (IntKind.u64.wrap x) 9223372036854775807 = x % 9223372036854775808 := by
  rw [wrap_u64, mask63 _ (by omega) (by omega)]
  omega
theorem or_one (x : Int) : bits .or .u64 (IntKind.u64.wrap (x * 2)) 1 = (x * 2) % 18446744073709551616 + 1 := by
  rw [wrap_u64, u64_or _ _ (by omega) (by omega) (by omega) (by omega)]
  have h := nat_join 1 ((x * 2) % 18446744073709551616).toNat 1 (by omega) (by omega)
  have h1 : (1 : Int).toNat = 1 := rfl
  rw [h1, h]
  omega

theorem df_walk (a b : Int) : wrap64 (IntKind.u64.wrap (IntKind.u64.wrap (a - b) * 2)) / 2 = df a b := by
  rw [wrap_u64, wrap_u64, wrap_i64]
  unfold df
  split <;> omega
theorem df_ref (a b : Int) (h : 4611686018427387904 ≤ (a - b) % 9223372036854775808) :
    wrap64 (wrap64 (wrap64 ((a - b) % 9223372036854775808) - 4611686018427387904) - 4611686018427387904) = df a b := by
  simp only [wrap_i64]
  unfold df
  rw [if_neg (by omega)]
  omega
theorem df_ref' (a b : Int) (h : (a - b) % 9223372036854775808 < 4611686018427387904) : wrap64 ((a - b) % 9223372036854775808) = df a b := by
  simp only [wrap_i64]
  unfold df
  rw [if_pos h]
  omega
theorem sl_walk (a n : Int) (h0 : 1 ≤ n) (h1 : n ≤ 9223372036854775807) (ha : 0 ≤ a) (hb : a < 18446744073709551616) :
    wrap64 ((bits .and .u64 a 9223372036854775807).tmod n) = sl a n := by
  rw [mask63 a ha hb, Int.tmod_eq_emod_of_nonneg (by omega), wrap_i64]
  unfold sl
  rw [if_neg (by omega)]
  have h2 := Int.emod_nonneg (a % 9223372036854775808) (show n ≠ 0 by omega)
  have h3 := Int.emod_lt_of_pos (a % 9223372036854775808) (show 0 < n by omega)
  omega
theorem sl_zero (a n : Int) (h : n < 1) : sl a n = 0 := by unfold sl; rw [if_pos h]

/-! Doubling -/
theorem dbl_stop (c : Int) (f : Nat) (s : Int) (h : c ≤ s) : dbl c f s = s := by
  cases f with
  | zero => rfl
  | succ f => rw [dbl, if_neg (by omega)]
theorem dbl_go (c : Int) (f : Nat) (s : Int) (h : s < c) : dbl c (f + 1) s = dbl c f (2 * s) := by rw [dbl, if_pos h]
end Go.Proofs.Ytadaoobdnnleaaa
