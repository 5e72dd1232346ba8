/- The walk of WaitlistRecords. -/
import Derived.Test.YtjmchkafjpahbaaW13
import Derived.Test.YtjmchkafjpahbaaS
namespace Go.Proofs.Ytjmchkafjpahbaa
open Go.RowKit
set_option linter.unusedVariables false

theorem rec_parts (x y : Int) (h : 0 ≤ rec x y) : th (rec x y) = x ∧ cas (rec x y) = y ∧ rec x y ≤ 47 := by
  unfold rec at *
  split at h
  · omega
  · rename_i hh
    rw [if_neg hh]
    unfold th cas
    rw [if_neg (by omega), if_neg (by omega)]
    omega
theorem rec_hi (x y : Int) : rec x y ≤ 47 := by
  unfold rec
  split <;> omega
theorem six (w wr : World) (g : Nat) (l : List Int) (t : TypeId) (h : Bk wr g t (l.map (Value.int .i64)).toArray) (j : Nat) (hj : j < l.length) : ∃ x, wr.cell? ⟨g, j, none⟩ = some (.int .i64 x) := by
  refine ⟨l.getD j 0, ?_⟩
  rw [h.cell j]
  simp [List.getD, List.getElem?_eq_getElem hj]
set_option maxHeartbeats 1000000 in
theorem records_walk (a0 : Int) (a1 : Int) (a2 : Int) (a3 : Int) (a4 : Int) (w2 : (Lit.int .i64 a2).wf = true) (w3 : (Lit.int .u8 a3).wf = true) (w4 : (Lit.int .u8 a4).wf = true) (w : World) :
    Calls Try.prog 3 #[.int .i64 a0, .int .i64 a1, .int .i64 a2, .int .u8 a3, .int .u8 a4] w fun e w' => e = .returned (.bool true) ∧ Below w.heap.size w w' := by
  have b3 := bounds_u8 w3
  have b4 := bounds_u8 w4
  have b2 := bounds_i64 w2
  go_enter Try.func3, Try.ntmps3
  go_wp2_with (first | (go_at_call 8; refine (awake_any _).mono ?_; rintro e w' ⟨rfl, rfl⟩))
  go_loopw [39] (fun i wr => ∃ k : Nat, k ≤ 3 ∧ i = .int .i64 k ∧ Below w.heap.size w wr ∧ ∃ l : List Int, l.length = 6 ∧ Bk wr w.heap.size 23 (l.map (Value.int .i64)).toArray) (fun i _ => 3 - (intOf i).toNat)
  case atStart => exact ⟨0, by omega, rfl, (Below.refl _ _).alloc (Nat.le_refl _) _, [a0, a1, a3 % 10, a4 % 8, a3 % 10 - 1, a4 % 8 - 1], rfl, Bk.new _ _ _⟩
  case round =>
    obtain ⟨k, hk, rfl, hbel, l, hl, hB⟩ := hrel
    have hsz := hbel.size
    have HB := hide hB
    by_cases hk3 : k < 3
    · obtain ⟨x, hx⟩ := six w wr _ l _ hB (k * 2) (by omega)
      obtain ⟨y, hy⟩ := six w wr _ l _ hB (k * 2 + 1) (by omega)
      have HL := hide hl
      clear hl hB
      have r1 := rec_hi x y
      by_cases hr : 0 ≤ rec x y
      · obtain ⟨r2, r3, -⟩ := rec_parts x y hr
        go_wp2_with (first | (go_at_call 9; refine (record_any _ _ _).mono ?_; rintro e w' ⟨rfl, rfl⟩) | (go_at_call 10; refine (rrecord_any _ _ _).mono ?_; rintro e w' ⟨rfl, rfl⟩))
        go_quiet ((first | (go_at_call 11; exact q_left (thread_any _ _ (by omega))) | (go_at_call 12; exact q_left (case_any _ _ (by omega)))))
        go_wp2
        go_roundw
        case rel => exact ⟨k + 1, by omega, by go_num, below_drewN (hbel.trans (by go_grown)) _, l, HL.out, ((HB.out.alloc _)).drewN _⟩
        case measure => simp [intOf]; omega
      · have hd : decide (0 ≤ rec x y) = false := by simpa using hr
        go_wp2_with (first | (go_at_call 9; refine (record_any _ _ _).mono ?_; rintro e w' ⟨rfl, rfl⟩) | (go_at_call 10; refine (rrecord_any _ _ _).mono ?_; rintro e w' ⟨rfl, rfl⟩))
        go_quiet (fail)
        go_wp2
        go_roundw
        case rel => exact ⟨k + 1, by omega, by go_num, below_drewN (hbel.trans (by go_grown)) _, l, HL.out, ((HB.out.alloc _)).drewN _⟩
        case measure => simp [intOf]; omega
    · clear hl hB
      go_wp2_with (go_at_call 13; refine (mod_any _ _ _ (by omega) (by omega) (by omega) (by omega)).mono ?_; rintro e w' ⟨rfl, rfl⟩)
      refine wp_loop_rounds 3 ?_
      iterate 3 (rw [rounds_succ]; go_wp2_with (first | (go_at_call 11; refine (thread_any _ _ (by omega)).mono ?_; rintro e w' ⟨rfl, rfl⟩) | (go_at_call 12; refine (case_any _ _ (by omega)).mono ?_; rintro e w' ⟨rfl, rfl⟩) | (go_at_call 14; refine (rthread_any _ _ (by omega)).mono ?_; rintro e w' ⟨rfl, rfl⟩) | (go_at_call 15; refine (rcase_any _ _ (by omega)).mono ?_; rintro e w' ⟨rfl, rfl⟩)))
      go_ret
      exact ⟨rfl, hbel.trans (by go_grown)⟩
end Go.Proofs.Ytjmchkafjpahbaa
