/- Several texts in one. -/
import Derived.WalkKit
import Derived.Laws.BitsAllLaws
import Derived.Test.YtepngbdjobckbaaGreatRows
import Derived.Test.YtepngbdjobckbaaGreatK
section
namespace Go.Proofs.YtepngbdjobckbaaGreat
open Go.RowKit

/-- The sequence number n behind a. -/
def nx (a n : Int) : Int := (a + n) % 9223372036854775808
/-- The distance from b to a. -/
def df (a b : Int) : Int :=
  if (a - b) % 9223372036854775808 < 4611686018427387904 then (a - b) % 9223372036854775808 else (a - b) % 9223372036854775808 - 9223372036854775808
/-- A tail word. -/
def pk (a : Int) (c : Bool) : Int := (a * 2) % 18446744073709551616 + (if c then 1 else 0)
/-- Its closed bit. -/
def cl (a : Int) : Bool := a % 2 == 1
/-- The slot. -/
def sl (a n : Int) : Int := if n < 1 then 0 else (a % 9223372036854775808) % n
/-- Doubling until it is enough. -/
def dbl (c : Int) : Nat → Int → Int
  | 0, s => s
  | f + 1, s => if s < c then dbl c f (2 * s) else s
/-- The number of slots. -/
def sz (c : Int) : Int := if 1073741824 < c then 0 else if c = 1 then 2 else dbl c 31 1

theorem wrap_u64 (n : Int) : IntKind.u64.wrap n = n % 18446744073709551616 := by simp [IntKind.wrap, IntKind.bits, IntKind.signed]
theorem wrap_i64 (n : Int) : wrap64 n = (n + 9223372036854775808) % 18446744073709551616 - 9223372036854775808 := by
  simp only [wrap64]

theorem mask63 (x : Int) (h0 : 0 ≤ x) (h1 : x < 18446744073709551616) : bits .and .u64 x 9223372036854775807 = x % 9223372036854775808 := by
  rw [u64_and x 9223372036854775807 h0 h1 (by omega) (by omega)]
  have := Nat.and_two_pow_sub_one_eq_mod x.toNat 63
  have h : (9223372036854775807 : Int).toNat = 2 ^ 63 - 1 := by decide
  rw [h, this]
  omega
theorem mask63_wrap (x : Int) : bits .and .u64 (IntKind.u64.wrap x) 9223372036854775807 = x % 9223372036854775808 := by
  rw [wrap_u64, mask63 _ (by omega) (by omega)]
  omega
theorem or_one (x : Int) : bits .or .u64 (IntKind.u64.wrap (x * 2)) 1 = (x * 2) % 18446744073709551616 + 1 := by
  rw [wrap_u64, u64_or _ _ (by omega) (by omega) (by omega) (by omega)]
  have h := nat_join 1 ((x * 2) % 18446744073709551616).toNat 1 (by omega) (by omega)
  have h1 : (1 : Int).toNat = 1 := rfl
  rw [h1, h]
  omega

theorem df_walk (a b : Int) : wrap64 (IntKind.u64.wrap (IntKind.u64.wrap (a - b) * 2)) / 2 = df a b := by
  rw [wrap_u64, wrap_u64, wrap_i64]
  unfold df
  split <;> omega
theorem df_ref (a b : Int) (h : 4611686018427387904 ≤ (a - b) % 9223372036854775808) :
    wrap64 (wrap64 (wrap64 ((a - b) % 9223372036854775808) - 4611686018427387904) - 4611686018427387904) = df a b := by
  simp only [wrap_i64]
  unfold df
  rw [if_neg (by omega)]
  omega
theorem df_ref' (a b : Int) (h : (a - b) % 9223372036854775808 < 4611686018427387904) : wrap64 ((a - b) % 9223372036854775808) = df a b := by
  simp only [wrap_i64]
  unfold df
  rw [if_pos h]
  omega
theorem sl_walk (a n : Int) (h0 : 1 ≤ n) (h1 : n ≤ 9223372036854775807) (ha : 0 ≤ a) (hb : a < 18446744073709551616) :
    wrap64 ((bits .and .u64 a 9223372036854775807).tmod n) = sl a n := by
  rw [mask63 a ha hb, Int.tmod_eq_emod_of_nonneg (by omega), wrap_i64]
  unfold sl
  rw [if_neg (by omega)]
  have h2 := Int.emod_nonneg (a % 9223372036854775808) (show n ≠ 0 by omega)
  have h3 := Int.emod_lt_of_pos (a % 9223372036854775808) (show 0 < n by omega)
  omega
theorem sl_zero (a n : Int) (h : n < 1) : sl a n = 0 := by unfold sl; rw [if_pos h]

/-! Doubling -/
theorem dbl_stop (c : Int) (f : Nat) (s : Int) (h : c ≤ s) : dbl c f s = s := by
  cases f with
  | zero => rfl
  | succ f => rw [dbl, if_neg (by omega)]
theorem dbl_go (c : Int) (f : Nat) (s : Int) (h : s < c) : dbl c (f + 1) s = dbl c f (2 * s) := by rw [dbl, if_pos h]
end Go.Proofs.YtepngbdjobckbaaGreat
end
section
namespace Go.Proofs.YtepngbdjobckbaaGreat
open Go.RowKit
set_option linter.unusedVariables false
attribute [local irreducible] Go.bits

theorem ret_u64 {a b : Int} (k : IntKind) (h : a = b) : Ending.returned (.int k a) = .returned (.int k b) := by rw [h]
theorem next_any (a n : Int) (w : World) :
    Calls Tryz.prog 99 #[.int .u64 a, .int .i64 n] w fun e w' => e = .returned (.int .u64 (nx a n)) ∧ w = w' := by
  go_enter Tryz.func99, Tryz.ntmps99
  go_wp2
  go_ret
  exact ⟨ret_u64 _ (by rw [mask63_wrap]; unfold nx; rw [wrap_u64]; omega), rfl⟩
theorem rnext_any (a n : Int) (w : World) :
    Calls Tryz.prog 41 #[.int .u64 a, .int .i64 n] w fun e w' => e = .returned (.int .u64 (nx a n)) ∧ w = w' := by
  go_enter Tryz.func41, Tryz.ntmps41
  go_wp2
  go_ret
  exact ⟨ret_u64 _ (by rw [mask63_wrap]; unfold nx; rw [wrap_u64]; omega), rfl⟩
theorem pack_any (a : Int) (b : Bool) (w : World) :
    Calls Tryz.prog 98 #[.int .u64 a, .bool b] w fun e w' => e = .returned (.int .u64 (pk a b)) ∧ w = w' := by
  cases b
  all_goals
    go_enter Tryz.func98, Tryz.ntmps98
    go_wp2
    go_ret
  · exact ⟨ret_u64 _ (by rw [wrap_u64]; unfold pk; simp), rfl⟩
  · exact ⟨ret_u64 _ (by rw [or_one]; unfold pk; simp), rfl⟩
theorem rpack_any (a : Int) (b : Bool) (w : World) :
    Calls Tryz.prog 40 #[.int .u64 a, .bool b] w fun e w' => e = .returned (.int .u64 (pk a b)) ∧ w = w' := by
  cases b
  all_goals
    go_enter Tryz.func40, Tryz.ntmps40
    go_wp2
    go_ret
  · exact ⟨ret_u64 _ (by rw [wrap_u64]; unfold pk; simp), rfl⟩
  · exact ⟨ret_u64 _ (by rw [or_one]; unfold pk; simp), rfl⟩
theorem seq_any (a : Int) (w : World) :
    Calls Tryz.prog 92 #[.int .u64 a] w fun e w' => e = .returned (.int .u64 (a / 2)) ∧ w = w' := by
  go_enter Tryz.func92, Tryz.ntmps92
  go_wp2
  go_ret
  exact ⟨rfl, rfl⟩
theorem rseq_any (a : Int) (w : World) :
    Calls Tryz.prog 11 #[.int .u64 a] w fun e w' => e = .returned (.int .u64 (a / 2)) ∧ w = w' := by
  go_enter Tryz.func11, Tryz.ntmps11
  go_wp2
  go_ret
  exact ⟨rfl, rfl⟩
theorem closed_any (a : Int) (w : World) (h0 : 0 ≤ a) (h1 : a ≤ 18446744073709551615) :
    Calls Tryz.prog 102 #[.int .u64 a] w fun e w' => e = .returned (.bool (cl a)) ∧ w = w' := by
  go_enter Tryz.func102, Tryz.ntmps102
  go_wp2
  go_ret
  exact ⟨by show Ending.returned (Value.bool _) = _; rw [and_one_u64 a h0 h1]; rfl, rfl⟩
theorem rclosed_any (a : Int) (w : World) (h0 : 0 ≤ a) (h1 : a ≤ 18446744073709551615) :
    Calls Tryz.prog 12 #[.int .u64 a] w fun e w' => e = .returned (.bool (cl a)) ∧ w = w' := by
  go_enter Tryz.func12, Tryz.ntmps12
  go_wp2
  go_ret
  exact ⟨by show Ending.returned (Value.bool _) = _; rw [and_one_u64 a h0 h1]; rfl, rfl⟩
theorem slot_any (a n : Int) (w : World) (h0 : 0 ≤ a) (h1 : a ≤ 18446744073709551615) (h2 : n ≤ 9223372036854775807) :
    Calls Tryz.prog 107 #[.int .u64 a, .int .i64 n] w fun e w' => e = .returned (.int .i64 (sl a n)) ∧ w = w' := by
  by_cases h : n < 1
  · go_enter Tryz.func107, Tryz.ntmps107
    go_wp2
    go_ret
    exact ⟨ret_u64 _ (sl_zero _ _ h).symm, rfl⟩
  · have h' : 1 ≤ n := by omega
    go_enter Tryz.func107, Tryz.ntmps107
    go_wp2
    go_ret
    exact ⟨ret_u64 _ (sl_walk _ _ h' h2 h0 (by omega)), rfl⟩
theorem rslot_any (a n : Int) (w : World) (h0 : 0 ≤ a) (h1 : a ≤ 18446744073709551615) (h2 : n ≤ 9223372036854775807) :
    Calls Tryz.prog 61 #[.int .u64 a, .int .i64 n] w fun e w' => e = .returned (.int .i64 (sl a n)) ∧ w = w' := by
  by_cases h : n < 1
  · go_enter Tryz.func61, Tryz.ntmps61
    go_wp2
    go_ret
    exact ⟨ret_u64 _ (sl_zero _ _ h).symm, rfl⟩
  · have h' : 1 ≤ n := by omega
    go_enter Tryz.func61, Tryz.ntmps61
    go_wp2
    go_ret
    exact ⟨ret_u64 _ (sl_walk _ _ h' h2 h0 (by omega)), rfl⟩
theorem size_any (c : Int) (w : World) :
    Calls Tryz.prog 96 #[.int .i64 c] w fun e w' => e = .returned (.int .i64 (sz c)) ∧ w = w' := by
  by_cases h : 1073741824 < c
  · go_enter Tryz.func96, Tryz.ntmps96
    go_wp2
    go_ret
    exact ⟨ret_u64 _ (by unfold sz; rw [if_pos h]), rfl⟩
  · by_cases h1 : c = 1
    · subst h1
      go_enter Tryz.func96, Tryz.ntmps96
      go_wp2
      go_ret
      exact ⟨ret_u64 _ (by decide), rfl⟩
    · have h2 : (c == 1) = false := by simpa using h1
      have h3 : sz c = dbl c 31 1 := by unfold sz; rw [if_neg h, if_neg h1]
      clear h1
      rw [h3]
      clear h3
      go_enter Tryz.func96, Tryz.ntmps96
      go_wp2
      go_loop [3] (fun s => ∃ (f : Nat) (x : Int), s = .int .i64 x ∧ f ≤ 31 ∧ 1 ≤ x ∧ x * 2 ^ f = 2147483648 ∧ dbl c f x = dbl c 31 1) (fun s => (c - intOf s).toNat)
      case atStart => exact ⟨31, 1, rfl, by omega, by omega, by decide, rfl⟩
      case round =>
        obtain ⟨f, x, rfl, hf, hx, hp, hd⟩ := hrel
        have H := hide hd
        have HP := hide hp
        clear hd hp
        by_cases hlt : x < c
        · go_wp2
          go_round
          case rel =>
            cases f with
            | zero => exfalso; have := HP.out; simp at this; omega
            | succ f =>
              have hp := HP.out
              rw [Int.pow_succ] at hp
              refine ⟨f, 2 * x, ?_, by omega, by omega, by rw [← hp, Int.mul_comm 2 x, Int.mul_assoc, Int.mul_comm 2], by rw [← dbl_go _ _ _ hlt]; exact H.out⟩
              go_num
          case measure => simp [intOf]; omega
        · go_wp2
          go_ret
          exact ⟨ret_u64 _ (by rw [← H.out, dbl_stop _ _ _ (by omega)]), rfl⟩
theorem rsize_any (c : Int) (w : World) :
    Calls Tryz.prog 51 #[.int .i64 c] w fun e w' => e = .returned (.int .i64 (sz c)) ∧ w = w' := by
  by_cases h : 1073741824 < c
  · go_enter Tryz.func51, Tryz.ntmps51
    go_wp2
    go_ret
    exact ⟨ret_u64 _ (by unfold sz; rw [if_pos h]), rfl⟩
  · by_cases h1 : c = 1
    · subst h1
      go_enter Tryz.func51, Tryz.ntmps51
      go_wp2
      go_ret
      exact ⟨ret_u64 _ (by decide), rfl⟩
    · have h2 : (c == 1) = false := by simpa using h1
      have h3 : sz c = dbl c 31 1 := by unfold sz; rw [if_neg h, if_neg h1]
      clear h1
      rw [h3]
      clear h3
      go_enter Tryz.func51, Tryz.ntmps51
      go_wp2
      go_loop [3] (fun s => ∃ (f : Nat) (x : Int), s = .int .i64 x ∧ f ≤ 31 ∧ 1 ≤ x ∧ x * 2 ^ f = 2147483648 ∧ dbl c f x = dbl c 31 1) (fun s => (c - intOf s).toNat)
      case atStart => exact ⟨31, 1, rfl, by omega, by omega, by decide, rfl⟩
      case round =>
        obtain ⟨f, x, rfl, hf, hx, hp, hd⟩ := hrel
        have H := hide hd
        have HP := hide hp
        clear hd hp
        by_cases hlt : x < c
        · go_wp2
          go_round
          case rel =>
            cases f with
            | zero => exfalso; have := HP.out; simp at this; omega
            | succ f =>
              have hp := HP.out
              rw [Int.pow_succ] at hp
              refine ⟨f, 2 * x, ?_, by omega, by omega, by rw [← hp, Int.mul_comm 2 x, Int.mul_assoc, Int.mul_comm 2], by rw [← dbl_go _ _ _ hlt]; exact H.out⟩
              go_num
          case measure => simp [intOf]; omega
        · go_wp2
          go_ret
          exact ⟨ret_u64 _ (by rw [← H.out, dbl_stop _ _ _ (by omega)]), rfl⟩
theorem rrest_any (a b : Int) (w : World) :
    Calls Tryz.prog 27 #[.int .u64 a, .int .u64 b] w fun e w' => e = .returned (.int .u64 ((a - b) % 9223372036854775808)) ∧ w = w' := by
  go_enter Tryz.func27, Tryz.ntmps27
  go_wp2
  go_ret
  exact ⟨ret_u64 _ (by rw [mask63_wrap]), rfl⟩
end Go.Proofs.YtepngbdjobckbaaGreat
end
