/- The contracts of the functions on sequence numbers, the program's and the document's. -/
import Derived.Test.YtaadebhelgheeaaRows
import Derived.Test.YtaadebhelgheeaaP
import Derived.WalkKit
import Derived.ProofKit
import Derived.OpenShut
import Derived.Lib.Hide
import Derived.WalkSmall
namespace Go.Proofs.Ytaadebhelgheeaa
open Go.RowKit
set_option linter.unusedVariables false
attribute [local irreducible] Go.bits

theorem ret_u64 {a b : Int} (k : IntKind) (h : a = b) : Ending.returned (.int k a) = .returned (.int k b) := by rw [h]

theorem next_any (a n : Int) (w : World) :
    Calls Try.prog 10 #[.int .u64 a, .int .i64 n] w fun e w' => e = .returned (.int .u64 (nx a n)) ∧ w = w' := by
  go_enter Try.func10, Try.ntmps10
  go_wp2
  go_ret
  exact ⟨ret_u64 _ (by rw [mask63_wrap]; unfold nx; rw [wrap_u64]; omega), rfl⟩
theorem rnext_any (a n : Int) (w : World) :
    Calls Try.prog 11 #[.int .u64 a, .int .i64 n] w fun e w' => e = .returned (.int .u64 (nx a n)) ∧ w = w' := by
  go_enter Try.func11, Try.ntmps11
  go_wp2
  go_ret
  exact ⟨ret_u64 _ (by rw [mask63_wrap]; unfold nx; rw [wrap_u64]; omega), rfl⟩
theorem diff_any (a n : Int) (w : World) :
    Calls Try.prog 14 #[.int .u64 a, .int .u64 n] w fun e w' => e = .returned (.int .i64 (df a n)) ∧ w = w' := by
  go_enter Try.func14, Try.ntmps14
  go_wp2
  go_ret
  exact ⟨ret_u64 _ (df_walk _ _), rfl⟩
theorem rdiff_any (a n : Int) (w : World) :
    Calls Try.prog 15 #[.int .u64 a, .int .u64 n] w fun e w' => e = .returned (.int .i64 (df a n)) ∧ w = w' := by
  go_enter Try.func15, Try.ntmps15
  go_wp2
  · rename_i h
    go_ret
    rw [mask63_wrap] at h
    exact ⟨ret_u64 _ (by simp only [mask63_wrap]; exact df_ref _ _ h), rfl⟩
  · rename_i h
    go_ret
    rw [mask63_wrap] at h
    exact ⟨ret_u64 _ (by simp only [mask63_wrap]; exact df_ref' _ _ h), rfl⟩
theorem before_any (a n : Int) (w : World) :
    Calls Try.prog 16 #[.int .u64 a, .int .u64 n] w fun e w' => e = .returned (.bool (decide (df a n < 0))) ∧ w = w' := by
  go_enter Try.func16, Try.ntmps16
  go_wp2_with (go_at_call 14; refine (diff_any _ _ _).mono ?_; rintro e w' ⟨rfl, rfl⟩)
  go_ret
  exact ⟨rfl, rfl⟩
theorem rbefore_any (a n : Int) (w : World) :
    Calls Try.prog 17 #[.int .u64 a, .int .u64 n] w fun e w' => e = .returned (.bool (decide (df a n < 0))) ∧ w = w' := by
  go_enter Try.func17, Try.ntmps17
  go_wp2_with (go_at_call 15; refine (rdiff_any _ _ _).mono ?_; rintro e w' ⟨rfl, rfl⟩)
  go_ret
  exact ⟨rfl, rfl⟩
theorem pack_any (a : Int) (b : Bool) (w : World) :
    Calls Try.prog 18 #[.int .u64 a, .bool b] w fun e w' => e = .returned (.int .u64 (pk a b)) ∧ w = w' := by
  cases b
  all_goals
    go_enter Try.func18, Try.ntmps18
    go_wp2
    go_ret
  · exact ⟨ret_u64 _ (by rw [wrap_u64]; unfold pk; simp), rfl⟩
  · exact ⟨ret_u64 _ (by rw [or_one]; unfold pk; simp), rfl⟩
theorem seq_any (a : Int) (w : World) :
    Calls Try.prog 19 #[.int .u64 a] w fun e w' => e = .returned (.int .u64 (a / 2)) ∧ w = w' := by
  go_enter Try.func19, Try.ntmps19
  go_wp2
  go_ret
  exact ⟨rfl, rfl⟩
theorem closed_any (a : Int) (w : World) (h0 : 0 ≤ a) (h1 : a ≤ 18446744073709551615) :
    Calls Try.prog 20 #[.int .u64 a] w fun e w' => e = .returned (.bool (cl a)) ∧ w = w' := by
  go_enter Try.func20, Try.ntmps20
  go_wp2
  go_ret
  exact ⟨by show Ending.returned (Value.bool _) = _; rw [and_one_u64 a h0 h1]; rfl, rfl⟩
theorem slot_any (a n : Int) (w : World) (h0 : 0 ≤ a) (h1 : a ≤ 18446744073709551615) (h2 : n ≤ 9223372036854775807) :
    Calls Try.prog 21 #[.int .u64 a, .int .i64 n] w fun e w' => e = .returned (.int .i64 (sl a n)) ∧ w = w' := by
  by_cases h : n < 1
  · go_enter Try.func21, Try.ntmps21
    go_wp2
    go_ret
    exact ⟨ret_u64 _ (sl_zero _ _ h).symm, rfl⟩
  · have h' : 1 ≤ n := by omega
    go_enter Try.func21, Try.ntmps21
    go_wp2
    go_ret
    exact ⟨ret_u64 _ (sl_walk _ _ h' h2 h0 (by omega)), rfl⟩
theorem rslot_any (a n : Int) (w : World) (h0 : 0 ≤ a) (h1 : a ≤ 18446744073709551615) (h2 : n ≤ 9223372036854775807) :
    Calls Try.prog 22 #[.int .u64 a, .int .i64 n] w fun e w' => e = .returned (.int .i64 (sl a n)) ∧ w = w' := by
  by_cases h : n < 1
  · go_enter Try.func22, Try.ntmps22
    go_wp2
    go_ret
    exact ⟨ret_u64 _ (sl_zero _ _ h).symm, rfl⟩
  · have h' : 1 ≤ n := by omega
    go_enter Try.func22, Try.ntmps22
    go_wp2
    go_ret
    exact ⟨ret_u64 _ (sl_walk _ _ h' h2 h0 (by omega)), rfl⟩
theorem size_any (c : Int) (w : World) :
    Calls Try.prog 12 #[.int .i64 c] w fun e w' => e = .returned (.int .i64 (sz c)) ∧ w = w' := by
  by_cases h : 1073741824 < c
  · go_enter Try.func12, Try.ntmps12
    go_wp2
    go_ret
    exact ⟨ret_u64 _ (by unfold sz; rw [if_pos h]), rfl⟩
  · by_cases h1 : c = 1
    · subst h1
      go_enter Try.func12, Try.ntmps12
      go_wp2
      go_ret
      exact ⟨ret_u64 _ (by decide), rfl⟩
    · have h2 : (c == 1) = false := by simpa using h1
      have h3 : sz c = dbl c 31 1 := by unfold sz; rw [if_neg h, if_neg h1]
      clear h1
      rw [h3]
      clear h3
      go_enter Try.func12, Try.ntmps12
      go_wp2
      go_loop [3] (fun s => ∃ (f : Nat) (x : Int), s = .int .i64 x ∧ f ≤ 31 ∧ 1 ≤ x ∧ x * 2 ^ f = 2147483648 ∧ dbl c f x = dbl c 31 1) (fun s => (c - intOf s).toNat)
      case atStart => exact ⟨31, 1, rfl, by omega, by omega, by decide, rfl⟩
      case round =>
        obtain ⟨f, x, rfl, hf, hx, hp, hd⟩ := hrel
        have H := Lib.hid hd
        have HP := Lib.hid hp
        clear hd hp
        by_cases hlt : x < c
        · go_wp2
          go_round
          case rel =>
            cases f with
            | zero => exfalso; have := HP.out; simp at this; omega
            | succ f =>
              have hp := HP.out
              rw [Int.pow_succ] at hp
              refine ⟨f, 2 * x, ?_, by omega, by omega, by rw [← hp, Int.mul_comm 2 x, Int.mul_assoc, Int.mul_comm 2], by rw [← dbl_go _ _ _ hlt]; exact H.out⟩
              go_num
          case measure => simp [intOf]; omega
        · go_wp2
          go_ret
          exact ⟨ret_u64 _ (by rw [← H.out, dbl_stop _ _ _ (by omega)]), rfl⟩
theorem awake_any (w : World) :
    Calls Try.prog 9 #[] w fun e w' => e = .returned (.bool true) ∧ w = w' := by
  have t1 : (nx 9223372036854775807 1 == 0) = true := by decide
  have t2 : (df 0 9223372036854775807 == 1) = true := by decide
  have t3 : (pk 3 true == 7) = true := by decide
  have t4 : (sz 5 == 8) = true := by decide
  have t5 : (sz 1 == 2) = true := by decide
  go_enter Try.func9, Try.ntmps9
  go_wp2_with (first | (go_at_call 10; refine (next_any _ _ _).mono ?_; rintro e w' ⟨rfl, rfl⟩) | (go_at_call 14; refine (diff_any _ _ _).mono ?_; rintro e w' ⟨rfl, rfl⟩) | (go_at_call 18; refine (pack_any _ _ _).mono ?_; rintro e w' ⟨rfl, rfl⟩) | (go_at_call 12; refine (size_any _ _).mono ?_; rintro e w' ⟨rfl, rfl⟩))
  go_ret
  exact ⟨rfl, rfl⟩
end Go.Proofs.Ytaadebhelgheeaa
