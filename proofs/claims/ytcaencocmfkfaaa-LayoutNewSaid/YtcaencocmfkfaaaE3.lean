/- Same of two memories that are alike. -/
import Derived.Test.YtcaencocmfkfaaaE0
namespace Go.Proofs.Ytcaencocmfkfaaa
open Go.RowKit
set_option linter.unusedVariables false
set_option linter.unusedSimpArgs false
theorem swords_yes (w : World) (A : Option Addr) (n c : Nat) (l : List Int) (B : Option Addr) (d : Nat) (h1 : IsI .u64 w A n l) (h2 : IsI .u64 w B n l) (hn : n ≤ 1000000) :
    Calls Try.prog 61 #[.slice A n c, .slice B n d] w fun e w' => e = .returned (.bool true) ∧ Draws w w' := by
  have hq : ((n : Int) != n) = false := by simp
  go_enter Try.func61, Try.ntmps61
  go_wp2
  go_loopw [5] (fun i wr => ∃ k : Nat, k ≤ n ∧ i = .int .i64 k ∧ ∃ q, wr = w.drewN q) (fun i _ => n - (intOf i).toNat)
  case atStart => exact ⟨0, Nat.zero_le _, rfl, 0, rfl⟩
  case round =>
    obtain ⟨k, hk, rfl, q, rfl⟩ := hrel
    by_cases hlt : k < n
    · obtain ⟨ad, rfl, _, c1⟩ := h1.at_ hlt
      obtain ⟨bd, rfl, _, c2⟩ := h2.at_ hlt
      have e1 : (l.getD k 0 != l.getD k 0) = false := by simp
      generalize l.getD k 0 = x at *
      go_wp2
      go_quiet (fail)
      go_wp2
      go_roundw
      case rel => exact ⟨k + 1, by omega, by go_num, _, rfl⟩
      case measure => simp [intOf]; omega
    · obtain rfl : k = n := by omega
      go_wp2
      go_ret
      exact ⟨rfl, Draws.drewN _ _⟩
theorem same_nil (w : World) :
    Calls Try.prog 62 #[.slice none 0 0, .slice none 0 0] w fun e w' => e = .returned (.bool true) ∧ Draws w w' := by
  go_enter Try.func62, Try.ntmps62
  go_wp2
  go_loopw [5] (fun i wr => i = .int .i64 (0 : Nat) ∧ wr = w) (fun i _ => 0)
  case atStart => exact ⟨rfl, rfl⟩
  case round =>
    obtain ⟨rfl, rfl⟩ := hrel
    go_wp2
    go_ret
    exact ⟨rfl, Draws.refl _⟩
theorem rep_at {w : World} {LA : Option Addr} {k : Nat} (h : Rds w LA k 1 (List.replicate k (.slice none 0 0))) {j : Nat} (hj : j < k) : ∃ ad, LA = some ad ∧ w.cell? (ad.add j) = some (.slice none 0 0) := by
  obtain ⟨ad, e, -, hc⟩ := h.2 (by omega)
  exact ⟨ad, e, hc j _ (by simp [hj])⟩
set_option maxHeartbeats 2000000 in
set_option maxRecDepth 100000 in
theorem msame_yes (w : World) (MA : Option Addr) (N c : Nat) (MB : Option Addr) (c' : Nat) (ws : List Int) (LA : Option Addr) (k e : Nat) (LB : Option Addr) (e' : Nat) (h1 : IsI .u64 w MA N ws) (h2 : IsI .u64 w MB N ws) (h3 : Rds w LA k 1 (List.replicate k (.slice none 0 0))) (h4 : Rds w LB k 1 (List.replicate k (.slice none 0 0))) (hN : N ≤ 1000000) (hk : k ≤ 1000000) :
    Calls Try.prog 49 #[.agg #[.slice MA N c, .slice LA k e, .int .i64 0], .agg #[.slice MB N c', .slice LB k e', .int .i64 0]] w fun e w' => e = .returned (.bool true) ∧ Below w.heap.size w w' := by
  have hq : ((k : Int) != k) = false := by simp
  have H1 := hide ((h1.alloc (.cells #[.slice MA N c, .slice LA k e, .int .i64 0] 48)).alloc (.cells #[.slice MB N c', .slice LB k e', .int .i64 0] 48))
  have H2 := hide ((h2.alloc (.cells #[.slice MA N c, .slice LA k e, .int .i64 0] 48)).alloc (.cells #[.slice MB N c', .slice LB k e', .int .i64 0] 48))
  have H3 := hide ((h3.alloc (.cells #[.slice MA N c, .slice LA k e, .int .i64 0] 48)).alloc (.cells #[.slice MB N c', .slice LB k e', .int .i64 0] 48))
  have H4 := hide ((h4.alloc (.cells #[.slice MA N c, .slice LA k e, .int .i64 0] 48)).alloc (.cells #[.slice MB N c', .slice LB k e', .int .i64 0] 48))
  have HB := hide (below_next (below_new w (.cells #[.slice MA N c, .slice LA k e, .int .i64 0] 48)) (below_new _ (.cells #[.slice MB N c', .slice LB k e', .int .i64 0] 48)))
  have K1 := hide ((Bk.new w 48 #[.slice MA N c, .slice LA k e, .int .i64 0]).alloc (.cells #[.slice MB N c', .slice LB k e', .int .i64 0] 48))
  have K2 : Hid (Bk ((w.alloc (.cells #[.slice MA N c, .slice LA k e, .int .i64 0] 48)).alloc (.cells #[.slice MB N c', .slice LB k e', .int .i64 0] 48)) (w.heap.size + 1) 48 #[.slice MB N c', .slice LB k e', .int .i64 0]) := hide (by simpa using Bk.new (w.alloc (.cells #[.slice MA N c, .slice LA k e, .int .i64 0] 48)) 48 #[.slice MB N c', .slice LB k e', .int .i64 0])
  clear h1 h2 h3 h4
  go_enter Try.func49, Try.ntmps49
  go_upto_region 1 with fail
  generalize ((w.alloc (.cells #[.slice MA N c, .slice LA k e, .int .i64 0] 48)).alloc (.cells #[.slice MB N c', .slice LB k e', .int .i64 0] 48)) = W at *
  obtain ⟨a0, a1, a2, -⟩ := bkm3 K1.out
  obtain ⟨b0, b1, b2, -⟩ := bkm3 K2.out
  go_wp2_with fail
  refine (swords_yes _ _ _ _ _ _ _ H1.out H2.out hN).mono ?_
  rintro e _ ⟨rfl, q, rfl⟩
  go_wp2
  go_loopw [5] (fun i wr => ∃ j : Nat, j ≤ k ∧ i = .int .i64 j ∧ Below W.heap.size W wr) (fun i _ => k - (intOf i).toNat)
  case atStart => exact ⟨0, Nat.zero_le _, rfl, below_drewN (Below.refl _ _) _⟩
  case round =>
    obtain ⟨j, hj, rfl, hbr⟩ := hrel
    have HR := hide hbr
    clear hbr a0 a1 a2 b0 b1 b2
    obtain ⟨a0, a1, a2, -⟩ := bkm3 (K1.out.below HR.out K1.out.lt)
    by_cases hlt : j < k
    · go_upto_region 6 with fail
      clear a0 a1 a2
      have a1 := fun (u : Up wr) => up_cell ((K1.out.below HR.out K1.out.lt).cell 1) u
      have b1 := fun (u : Up wr) => up_cell ((K2.out.below HR.out K2.out.lt).cell 1) u
      obtain ⟨ad, rfl, c1⟩ := rep_at (H3.out.below HR.out) hlt
      obtain ⟨bd, rfl, c2⟩ := rep_at (H4.out.below HR.out) hlt
      have c1 := fun (u : Up wr) => up_cell c1 u
      have c2 := fun (u : Up wr) => up_cell c2 u
      have e1 : decide ((j : Int) < 0) = false := by simp
      have e2 : decide (k ≤ j) = false := by simp; omega
      refine wp_region_up (by kernel_rfl) (by kernel_rfl) ?_
      repeat (go_big_quiet_step (first
        | (go_at_call 62; exact up_call ((same_nil _).mono fun _ _ h => ⟨h.1, h.2.below _⟩))))
      refine wpQuiet_nil ?_
      rintro _ ⟨u, rfl⟩
      clear a1 b1 c1 c2
      go_wp2
      go_roundw
      case rel => exact ⟨j + 1, by omega, by go_num, HR.out.trans (u.2.mono HR.out.size)⟩
      case measure => simp [intOf]; omega
    · obtain rfl : j = k := by omega
      go_wp2
      go_ret
      exact ⟨rfl, HB.out.trans (HR.out.mono HB.out.size)⟩
end Go.Proofs.Ytcaencocmfkfaaa
