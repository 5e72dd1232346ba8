/- Contracts: sequence numbers (seqword, chanfabricref1). -/
import Derived.Test.YtadaoobdnnleaaaRows
import Derived.Test.YtadaoobdnnleaaaQ
import Derived.Test.YtadaoobdnnleaaaK
namespace Go.Proofs.Ytadaoobdnnleaaa
open Go.RowKit
set_option linter.unusedVariables false
attribute [local irreducible] Go.bits

theorem ret_u64 {a b : Int} (k : IntKind) (h : a = b) : Ending.returned (.int k a) = .returned (.int k b) := by rw [h]
theorem rnext_any (a n : Int) (w : World) :
    Calls Try.prog 85 #[.int .u64 a, .int .i64 n] w fun e w' => e = .returned (.int .u64 (nx a n)) ∧ w = w' := by
  go_enter Try.func85, Try.ntmps85
  go_wp2
  go_ret
  exact ⟨ret_u64 _ (by rw [mask63_wrap]; unfold nx; rw [wrap_u64]; omega), rfl⟩
theorem pack_any (a : Int) (b : Bool) (w : World) :
    Calls Try.prog 108 #[.int .u64 a, .bool b] w fun e w' => e = .returned (.int .u64 (pk a b)) ∧ w = w' := by
  cases b
  all_goals
    go_enter Try.func108, Try.ntmps108
    go_wp2
    go_ret
  · exact ⟨ret_u64 _ (by rw [wrap_u64]; unfold pk; simp), rfl⟩
  · exact ⟨ret_u64 _ (by rw [or_one]; unfold pk; simp), rfl⟩
theorem rpack_any (a : Int) (b : Bool) (w : World) :
    Calls Try.prog 82 #[.int .u64 a, .bool b] w fun e w' => e = .returned (.int .u64 (pk a b)) ∧ w = w' := by
  cases b
  all_goals
    go_enter Try.func82, Try.ntmps82
    go_wp2
    go_ret
  · exact ⟨ret_u64 _ (by rw [wrap_u64]; unfold pk; simp), rfl⟩
  · exact ⟨ret_u64 _ (by rw [or_one]; unfold pk; simp), rfl⟩
theorem seq_any (a : Int) (w : World) :
    Calls Try.prog 109 #[.int .u64 a] w fun e w' => e = .returned (.int .u64 (a / 2)) ∧ w = w' := by
  go_enter Try.func109, Try.ntmps109
  go_wp2
  go_ret
  exact ⟨rfl, rfl⟩
theorem rseq_any (a : Int) (w : World) :
    Calls Try.prog 120 #[.int .u64 a] w fun e w' => e = .returned (.int .u64 (a / 2)) ∧ w = w' := by
  go_enter Try.func120, Try.ntmps120
  go_wp2
  go_ret
  exact ⟨rfl, rfl⟩
theorem closed_any (a : Int) (w : World) (h0 : 0 ≤ a) (h1 : a ≤ 18446744073709551615) :
    Calls Try.prog 78 #[.int .u64 a] w fun e w' => e = .returned (.bool (cl a)) ∧ w = w' := by
  go_enter Try.func78, Try.ntmps78
  go_wp2
  go_ret
  exact ⟨by show Ending.returned (Value.bool _) = _; rw [and_one_u64 a h0 h1]; rfl, rfl⟩
theorem rclosed_any (a : Int) (w : World) (h0 : 0 ≤ a) (h1 : a ≤ 18446744073709551615) :
    Calls Try.prog 102 #[.int .u64 a] w fun e w' => e = .returned (.bool (cl a)) ∧ w = w' := by
  go_enter Try.func102, Try.ntmps102
  go_wp2
  go_ret
  exact ⟨by show Ending.returned (Value.bool _) = _; rw [and_one_u64 a h0 h1]; rfl, rfl⟩
theorem slot_any (a n : Int) (w : World) (h0 : 0 ≤ a) (h1 : a ≤ 18446744073709551615) (h2 : n ≤ 9223372036854775807) :
    Calls Try.prog 134 #[.int .u64 a, .int .i64 n] w fun e w' => e = .returned (.int .i64 (sl a n)) ∧ w = w' := by
  by_cases h : n < 1
  · go_enter Try.func134, Try.ntmps134
    go_wp2
    go_ret
    exact ⟨ret_u64 _ (sl_zero _ _ h).symm, rfl⟩
  · have h' : 1 ≤ n := by omega
    go_enter Try.func134, Try.ntmps134
    go_wp2
    go_ret
    exact ⟨ret_u64 _ (sl_walk _ _ h' h2 h0 (by omega)), rfl⟩
theorem rslot_any (a n : Int) (w : World) (h0 : 0 ≤ a) (h1 : a ≤ 18446744073709551615) (h2 : n ≤ 9223372036854775807) :
    Calls Try.prog 111 #[.int .u64 a, .int .i64 n] w fun e w' => e = .returned (.int .i64 (sl a n)) ∧ w = w' := by
  by_cases h : n < 1
  · go_enter Try.func111, Try.ntmps111
    go_wp2
    go_ret
    exact ⟨ret_u64 _ (sl_zero _ _ h).symm, rfl⟩
  · have h' : 1 ≤ n := by omega
    go_enter Try.func111, Try.ntmps111
    go_wp2
    go_ret
    exact ⟨ret_u64 _ (sl_walk _ _ h' h2 h0 (by omega)), rfl⟩
theorem size_any (c : Int) (w : World) :
    Calls Try.prog 131 #[.int .i64 c] w fun e w' => e = .returned (.int .i64 (sz c)) ∧ w = w' := by
  by_cases h : 1073741824 < c
  · go_enter Try.func131, Try.ntmps131
    go_wp2
    go_ret
    exact ⟨ret_u64 _ (by unfold sz; rw [if_pos h]), rfl⟩
  · by_cases h1 : c = 1
    · subst h1
      go_enter Try.func131, Try.ntmps131
      go_wp2
      go_ret
      exact ⟨ret_u64 _ (by decide), rfl⟩
    · have h2 : (c == 1) = false := by simpa using h1
      have h3 : sz c = dbl c 31 1 := by unfold sz; rw [if_neg h, if_neg h1]
      clear h1
      rw [h3]
      clear h3
      go_enter Try.func131, Try.ntmps131
      go_wp2
      go_loop [3] (fun s => ∃ (f : Nat) (x : Int), s = .int .i64 x ∧ f ≤ 31 ∧ 1 ≤ x ∧ x * 2 ^ f = 2147483648 ∧ dbl c f x = dbl c 31 1) (fun s => (c - intOf s).toNat)
      case atStart => exact ⟨31, 1, rfl, by omega, by omega, by decide, rfl⟩
      case round =>
        obtain ⟨f, x, rfl, hf, hx, hp, hd⟩ := hrel
        have H := hide hd
        have HP := hide hp
        clear hd hp
        by_cases hlt : x < c
        · go_wp2
          go_round
          case rel =>
            cases f with
            | zero => exfalso; have := HP.out; simp at this; omega
            | succ f =>
              have hp := HP.out
              rw [Int.pow_succ] at hp
              refine ⟨f, 2 * x, ?_, by omega, by omega, by rw [← hp, Int.mul_comm 2 x, Int.mul_assoc, Int.mul_comm 2], by rw [← dbl_go _ _ _ hlt]; exact H.out⟩
              go_num
          case measure => simp [intOf]; omega
        · go_wp2
          go_ret
          exact ⟨ret_u64 _ (by rw [← H.out, dbl_stop _ _ _ (by omega)]), rfl⟩
theorem rsize_any (c : Int) (w : World) :
    Calls Try.prog 110 #[.int .i64 c] w fun e w' => e = .returned (.int .i64 (sz c)) ∧ w = w' := by
  by_cases h : 1073741824 < c
  · go_enter Try.func110, Try.ntmps110
    go_wp2
    go_ret
    exact ⟨ret_u64 _ (by unfold sz; rw [if_pos h]), rfl⟩
  · by_cases h1 : c = 1
    · subst h1
      go_enter Try.func110, Try.ntmps110
      go_wp2
      go_ret
      exact ⟨ret_u64 _ (by decide), rfl⟩
    · have h2 : (c == 1) = false := by simpa using h1
      have h3 : sz c = dbl c 31 1 := by unfold sz; rw [if_neg h, if_neg h1]
      clear h1
      rw [h3]
      clear h3
      go_enter Try.func110, Try.ntmps110
      go_wp2
      go_loop [3] (fun s => ∃ (f : Nat) (x : Int), s = .int .i64 x ∧ f ≤ 31 ∧ 1 ≤ x ∧ x * 2 ^ f = 2147483648 ∧ dbl c f x = dbl c 31 1) (fun s => (c - intOf s).toNat)
      case atStart => exact ⟨31, 1, rfl, by omega, by omega, by decide, rfl⟩
      case round =>
        obtain ⟨f, x, rfl, hf, hx, hp, hd⟩ := hrel
        have H := hide hd
        have HP := hide hp
        clear hd hp
        by_cases hlt : x < c
        · go_wp2
          go_round
          case rel =>
            cases f with
            | zero => exfalso; have := HP.out; simp at this; omega
            | succ f =>
              have hp := HP.out
              rw [Int.pow_succ] at hp
              refine ⟨f, 2 * x, ?_, by omega, by omega, by rw [← hp, Int.mul_comm 2 x, Int.mul_assoc, Int.mul_comm 2], by rw [← dbl_go _ _ _ hlt]; exact H.out⟩
              go_num
          case measure => simp [intOf]; omega
        · go_wp2
          go_ret
          exact ⟨ret_u64 _ (by rw [← H.out, dbl_stop _ _ _ (by omega)]), rfl⟩
theorem rrest_any (a b : Int) (w : World) :
    Calls Try.prog 103 #[.int .u64 a, .int .u64 b] w fun e w' => e = .returned (.int .u64 ((a - b) % 9223372036854775808)) ∧ w = w' := by
  go_enter Try.func103, Try.ntmps103
  go_wp2
  go_ret
  exact ⟨ret_u64 _ (by rw [mask63_wrap]), rfl⟩
end Go.Proofs.Ytadaoobdnnleaaa
