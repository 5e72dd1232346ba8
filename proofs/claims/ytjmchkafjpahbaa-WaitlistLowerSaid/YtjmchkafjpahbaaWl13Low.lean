/- The walk of WaitlistLower. -/
import Derived.Test.YtjmchkafjpahbaaW13
import Derived.Test.YtjmchkafjpahbaaS
namespace Go.Proofs.Ytjmchkafjpahbaa
open Go.RowKit
set_option linter.unusedVariables false

theorem low_le (a b : Int) : th (low a b) ≤ th (hig a b) := by
  unfold low hig
  split <;> omega
theorem low_hi (a b m : Int) (ha : a ≤ m) (hb : b ≤ m) : low a b ≤ m ∧ hig a b ≤ m := by
  unfold low hig
  split <;> omega
theorem sixb (wr : World) (g : Nat) (l : List Int) (t : TypeId) (m : Int) (hm : ∀ x ∈ l, x ≤ m) (h : Bk wr g t (l.map (Value.int .i64)).toArray) (j : Nat) (hj : j < l.length) : ∃ x, wr.cell? ⟨g, j, none⟩ = some (.int .i64 x) ∧ x ≤ m := by
  refine ⟨l.getD j 0, ?_, ?_⟩
  · rw [h.cell j]
    simp [List.getD, List.getElem?_eq_getElem hj]
  · rw [List.getD, List.getElem?_eq_getElem hj]
    exact hm _ (List.getElem_mem hj)
set_option maxHeartbeats 1000000 in
theorem lower_walk (a0 : Int) (a1 : Int) (w0 : (Lit.int .i64 a0).wf = true) (w1 : (Lit.int .i64 a1).wf = true) (w : World) :
    Calls Try.prog 4 #[.int .i64 a0, .int .i64 a1] w fun e w' => e = .returned (.bool true) ∧ Below w.heap.size w w' := by
  have b0 := bounds_i64 w0
  have b1 := bounds_i64 w1
  go_enter Try.func4, Try.ntmps4
  go_wp2_with (first | (go_at_call 8; refine (awake_any _).mono ?_; rintro e w' ⟨rfl, rfl⟩) | (go_at_call 13; refine (mod_any _ _ _ (by omega) (by omega) (by omega) (by omega)).mono ?_; rintro e w' ⟨rfl, rfl⟩))
  go_loopw [26] (fun i wr => ∃ k : Nat, k ≤ 3 ∧ i = .int .i64 k ∧ Below w.heap.size w wr ∧ ∃ l : List Int, l.length = 6 ∧ (∀ x ∈ l, x ≤ 9223372036854775807) ∧ Bk wr w.heap.size 23 (l.map (Value.int .i64)).toArray) (fun i _ => 3 - (intOf i).toNat)
  case atStart => exact ⟨0, by omega, rfl, (Below.refl _ _).alloc (Nat.le_refl _) _, [a0, a1, a0 % 50, a1 % 50, a0, a0], rfl, by simp; omega, Bk.new _ _ _⟩
  case round =>
    obtain ⟨k, hk, rfl, hbel, l, hl, hm, hB⟩ := hrel
    have hsz := hbel.size
    have HB := hide hB
    have HM := hide hm
    by_cases hk3 : k < 3
    · obtain ⟨x, hx, hxm⟩ := sixb wr _ l _ _ hm hB (k * 2) (by omega)
      obtain ⟨y, hy, hym⟩ := sixb wr _ l _ _ hm hB (k * 2 + 1) (by omega)
      have HL := hide hl
      clear hl hB hm
      obtain ⟨m1, m2⟩ := low_hi x y _ hxm hym
      have m3 := low_le x y
      have m4 : decide (th (hig x y) < th (low x y)) = false := by simpa using m3
      go_wp2_with (first | (go_at_call 16; refine (lower_any _ _ _ hxm hym).mono ?_; rintro e w' ⟨rfl, rfl⟩) | (go_at_call 17; refine (rlower_any _ _ _ hxm hym).mono ?_; rintro e w' ⟨rfl, rfl⟩) | (go_at_call 11; refine (thread_any _ _ (by omega)).mono ?_; rintro e w' ⟨rfl, rfl⟩))
      go_roundw
      case rel => exact ⟨k + 1, by omega, by go_num, hbel.trans (by go_grown), l, HL.out, HM.out, HB.out.alloc _⟩
      case measure => simp [intOf]; omega
    · clear hl hB hm
      go_wp2
      go_ret
      exact ⟨rfl, hbel⟩
end Go.Proofs.Ytjmchkafjpahbaa
