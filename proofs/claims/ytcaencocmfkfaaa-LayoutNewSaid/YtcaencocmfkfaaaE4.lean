/- New of whatever configuration. -/
import Derived.Test.YtcaencocmfkfaaaE1
import Derived.Test.YtcaencocmfkfaaaE2
namespace Go.Proofs.Ytcaencocmfkfaaa
open Go.RowKit
set_option linter.unusedVariables false
set_option linter.unusedSimpArgs false
set_option maxHeartbeats 1000000 in
set_option maxRecDepth 100000 in
theorem rnew_bad (w : World) (A : Option Addr) (n c : Nat) (l : List Int) (B : Option Addr) (m d : Nat) (s : List Int) (t : Int) (h1 : IsI .i64 w A n l) (h2 : IsI .u64 w B m s) (hn : n ≤ 100) (hm : m ≤ 100) (hb : chk l s t ≠ 0) :
    Calls Try.prog 48 #[.agg #[.slice A n c, .slice B m d, .int .i64 t]] w fun e w' => e = .returned (.tuple #[.agg #[.slice none 0 0, .slice none 0 0, .int .i64 0], .int .i64 (chk l s t)]) ∧ Below w.heap.size w w' := by
  have CK := hide (rcheck_any _ A n c l B m d s t ((h1.alloc (.cells #[.slice A n c, .slice B m d, .int .i64 t] 25)).alloc (.cells #[.slice none 0 0, .slice none 0 0, .int .i64 0] 48)) ((h2.alloc (.cells #[.slice A n c, .slice B m d, .int .i64 t] 25)).alloc (.cells #[.slice none 0 0, .slice none 0 0, .int .i64 0] 48)) (by omega) (by omega))
  have e1 : (chk l s t != 0) = true := by simpa using hb
  generalize chk l s t = v at *
  clear h1 h2
  go_enter Try.func48, Try.ntmps48
  go_wp2_with fail
  refine CK.out.mono ?_
  rintro e w1 ⟨rfl, hb1⟩
  obtain ⟨k2, kb⟩ := at_second hb1
  obtain ⟨r0, r1, r2, rf⟩ := bkm3 k2
  have KB := hide kb
  clear kb hb1 CK
  go_wp2
  exact bodyPost_ret (v := .tuple #[.agg #[.slice none 0 0, .slice none 0 0, .int .i64 0], .int .i64 v]) (by simp [results, Try.results48, go_sem, r0, r1, r2]) rfl
    ⟨rfl, ((KB.out.setCell (p := ⟨w.heap.size + 1, 0, none⟩) (by dsimp only; omega) _).setCell (p := ⟨w.heap.size + 1, 1, none⟩) (by dsimp only; omega) _).setCell (p := ⟨w.heap.size + 1, 2, none⟩) (by dsimp only; omega) _⟩
theorem rnew_all (w : World) (A : Option Addr) (n c : Nat) (l : List Int) (B : Option Addr) (m d : Nat) (s : List Int) (t : Int) (h1 : IsI .i64 w A n l) (h2 : IsI .u64 w B m s) (hn : n ≤ 100) (hm : m ≤ 100) (hs : ∀ x ∈ s, 0 ≤ x) :
    Calls Try.prog 48 #[.agg #[.slice A n c, .slice B m d, .int .i64 t]] w fun e w' => ∃ (MA : Option Addr) (N c' : Nat) (LA : Option Addr) (k e' : Nat), e = .returned (.tuple #[.agg #[.slice MA N c', .slice LA k e', .int .i64 0], .int .i64 (chk l s t)]) ∧ IsI .u64 w' MA N (wsOf l s t) ∧ Rds w' LA k 1 (List.replicate k (.slice none 0 0)) ∧ k = nlOf l s t ∧ N ≤ 1000 ∧ k ≤ 1000 ∧ Below w.heap.size w w' := by
  by_cases hb : chk l s t = 0
  · obtain ⟨g1, g2, g3, g4, g5, g6⟩ := chk_zero hb
    have hl := h1.len
    have hl2 := h2.len
    obtain rfl : m = n := by omega
    obtain ⟨tn, rfl⟩ := Int.eq_ofNat_of_zero_le (show 0 ≤ t by omega)
    have hcf : Cf w A m l := ⟨h1, by omega, g3⟩
    have htl := hcf.tl m (Nat.le_refl _)
    have hto : totI l tn ≤ 400 := by unfold totI; rw [hl]; omega
    refine (rnew_ok w A m c l B d s tn hcf h2 (fun x hx => ⟨hs x hx, g4 x hx⟩) (by omega) (by omega) hb).mono ?_
    rintro e w' ⟨gW, gL, rfl, i1, i2, i3⟩
    refine ⟨_, _, _, _, _, _, by rw [hb], ?_, i2, by rw [nlOf, if_pos hb, hl], by omega, by omega, i3⟩
    rw [wsOf, if_pos hb]
    exact i1
  · refine (rnew_bad w A n c l B m d s t h1 h2 hn hm hb).mono ?_
    rintro e w' ⟨rfl, i3⟩
    exact ⟨_, _, _, _, _, _, rfl, by rw [wsOf, if_neg hb]; exact Rds.nil _ _ _, Rds.nil _ _ _, by rw [nlOf, if_neg hb], by omega, by omega, i3⟩
set_option maxHeartbeats 1000000 in
set_option maxRecDepth 100000 in
theorem lnew_bad (w : World) (A : Option Addr) (n c : Nat) (l : List Int) (B : Option Addr) (m d : Nat) (s : List Int) (t : Int) (h1 : IsI .i64 w A n l) (h2 : IsI .u64 w B m s) (hn : n ≤ 100) (hm : m ≤ 100) (hb : chk l s t ≠ 0) :
    Calls Try.prog 47 #[.agg #[.slice A n c, .slice B m d, .int .i64 t]] w fun e w' => e = .returned (.tuple #[.agg #[.slice none 0 0, .slice none 0 0, .int .i64 0], .int .i64 (chk l s t)]) ∧ Below w.heap.size w w' := by
  have CK := hide (check_any _ A n c l B m d s t ((h1.alloc (.cells #[.slice A n c, .slice B m d, .int .i64 t] 25)).alloc (.cells #[.slice none 0 0, .slice none 0 0, .int .i64 0] 48)) ((h2.alloc (.cells #[.slice A n c, .slice B m d, .int .i64 t] 25)).alloc (.cells #[.slice none 0 0, .slice none 0 0, .int .i64 0] 48)) (by omega) (by omega))
  have e1 : (chk l s t != 0) = true := by simpa using hb
  generalize chk l s t = v at *
  clear h1 h2
  go_enter Try.func47, Try.ntmps47
  go_wp2_with fail
  refine CK.out.mono ?_
  rintro e w1 ⟨rfl, hb1⟩
  obtain ⟨k2, kb⟩ := at_second hb1
  obtain ⟨r0, r1, r2, rf⟩ := bkm3 k2
  have KB := hide kb
  clear kb hb1 CK
  go_wp2
  exact bodyPost_ret (v := .tuple #[.agg #[.slice none 0 0, .slice none 0 0, .int .i64 0], .int .i64 v]) (by simp [results, Try.results47, go_sem, r0, r1, r2]) rfl
    ⟨rfl, ((KB.out.setCell (p := ⟨w.heap.size + 1, 0, none⟩) (by dsimp only; omega) _).setCell (p := ⟨w.heap.size + 1, 1, none⟩) (by dsimp only; omega) _).setCell (p := ⟨w.heap.size + 1, 2, none⟩) (by dsimp only; omega) _⟩
theorem lnew_all (w : World) (A : Option Addr) (n c : Nat) (l : List Int) (B : Option Addr) (m d : Nat) (s : List Int) (t : Int) (h1 : IsI .i64 w A n l) (h2 : IsI .u64 w B m s) (hn : n ≤ 100) (hm : m ≤ 100) (hs : ∀ x ∈ s, 0 ≤ x) :
    Calls Try.prog 47 #[.agg #[.slice A n c, .slice B m d, .int .i64 t]] w fun e w' => ∃ (MA : Option Addr) (N c' : Nat) (LA : Option Addr) (k e' : Nat), e = .returned (.tuple #[.agg #[.slice MA N c', .slice LA k e', .int .i64 0], .int .i64 (chk l s t)]) ∧ IsI .u64 w' MA N (wsOf l s t) ∧ Rds w' LA k 1 (List.replicate k (.slice none 0 0)) ∧ k = nlOf l s t ∧ N ≤ 1000 ∧ k ≤ 1000 ∧ Below w.heap.size w w' := by
  by_cases hb : chk l s t = 0
  · obtain ⟨g1, g2, g3, g4, g5, g6⟩ := chk_zero hb
    have hl := h1.len
    have hl2 := h2.len
    obtain rfl : m = n := by omega
    obtain ⟨tn, rfl⟩ := Int.eq_ofNat_of_zero_le (show 0 ≤ t by omega)
    have hcf : Cf w A m l := ⟨h1, by omega, g3⟩
    have htl := hcf.tl m (Nat.le_refl _)
    have hto : totI l tn ≤ 400 := by unfold totI; rw [hl]; omega
    refine (lnew_ok w A m c l B d s tn hcf h2 (fun x hx => ⟨hs x hx, g4 x hx⟩) (by omega) (by omega) hb).mono ?_
    rintro e w' ⟨gW, gL, rfl, i1, i2, i3⟩
    refine ⟨_, _, _, _, _, _, by rw [hb], ?_, i2, by rw [nlOf, if_pos hb, hl], by omega, by omega, i3⟩
    rw [wsOf, if_pos hb]
    exact i1
  · refine (lnew_bad w A n c l B m d s t h1 h2 hn hm hb).mono ?_
    rintro e w' ⟨rfl, i3⟩
    exact ⟨_, _, _, _, _, _, rfl, by rw [wsOf, if_neg hb]; exact Rds.nil _ _ _, Rds.nil _ _ _, by rw [nlOf, if_neg hb], by omega, by omega, i3⟩
end Go.Proofs.Ytcaencocmfkfaaa
