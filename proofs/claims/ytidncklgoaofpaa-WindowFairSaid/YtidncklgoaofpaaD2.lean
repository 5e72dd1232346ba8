/- Contracts: numbers of lists of draws (Count, Nth), the program's and the document's. -/
import Derived.Test.YtidncklgoaofpaaD1
namespace Go.Proofs.Ytidncklgoaofpaa
open Go.RowKit
set_option linter.unusedVariables false

def fac : Nat → Nat
  | 0 => 1
  | n + 1 => (n + 1) * fac n
theorem fac_pos (n : Nat) : 1 ≤ fac n := by
  induction n with
  | zero => exact Nat.le_refl _
  | succ n ih => rw [fac]; exact Nat.le_trans ih (Nat.le_mul_of_pos_left _ (by omega))
theorem fac_mono (n m : Nat) (h : n ≤ m) : fac n ≤ fac m := by
  induction m with
  | zero =>
    obtain rfl : n = 0 := by omega
    exact Nat.le_refl _
  | succ m ih =>
    rcases Nat.lt_or_ge n (m + 1) with h1 | h1
    · rw [fac]; exact Nat.le_trans (ih (by omega)) (Nat.le_mul_of_pos_left _ (by omega))
    · obtain rfl : n = m + 1 := by omega
      exact Nat.le_refl _
theorem fac_20 : fac 20 = 2432902008176640000 := by decide
theorem fac_le (n : Nat) (h : n ≤ 20) : fac n ≤ 2432902008176640000 := fac_20 ▸ fac_mono n 20 h
def cnt (n : Int) : Int := if n < 0 ∨ 20 < n then 0 else (fac n.toNat : Int)
theorem cnt_bd (n : Int) : 0 ≤ cnt n ∧ cnt n ≤ 2432902008176640000 := by
  unfold cnt
  split
  · omega
  · have := fac_le n.toNat (by omega)
    omega
/-- The product of out and what is left. -/
theorem fac_step (out m : Nat) (n : Nat) (hm : 1 ≤ m) (h : out * fac m = fac n) (hn : n ≤ 20) : out * m * fac (m - 1) = fac n ∧ out * m ≤ 2432902008176640000 := by
  obtain ⟨j, rfl⟩ : ∃ j, m = j + 1 := ⟨m - 1, by omega⟩
  have e : out * (j + 1) * fac j = fac n := by rw [← h, fac, Nat.mul_assoc]
  refine ⟨e, ?_⟩
  have h1 := fac_pos j
  have h2 := fac_le n hn
  have h3 : out * (j + 1) ≤ out * (j + 1) * fac j := Nat.le_mul_of_pos_right _ h1
  omega

set_option maxHeartbeats 1000000 in
theorem count_any (n : Int) (w : World) :
    Calls Try.prog 29 #[.int .i64 n] w fun e w' => e = .returned (.int .i64 (cnt n)) ∧ w = w' := by
  by_cases h1 : n < 0
  · go_enter Try.func29, Try.ntmps29
    go_wp2
    go_ret
    exact ⟨ret_int (by unfold cnt; rw [if_pos (by omega)]), rfl⟩
  by_cases h2 : 20 < n
  · have h3 : decide (n < 0) = false := by simpa using h1
    go_enter Try.func29, Try.ntmps29
    go_wp2
    go_ret
    exact ⟨ret_int (by unfold cnt; rw [if_pos (by omega)]), rfl⟩
  obtain ⟨k, rfl⟩ := Int.eq_ofNat_of_zero_le (show 0 ≤ n by omega)
  have HE := hide (show cnt k = (fac k : Int) by unfold cnt; rw [if_neg (by omega), Int.toNat_natCast])
  have h3 : decide ((k : Int) < 0) = false := by simp
  have h4 : decide ((20 : Int) < k) = false := by simp; omega
  go_enter Try.func29, Try.ntmps29
  go_wp2
  go_loopg [0, 3] k (fun g a b wr => ∃ (m out : Nat), g = m ∧ a = .int .i64 m ∧ b = .int .i64 out ∧ m ≤ k ∧ out * fac m = fac k ∧ wr = w)
  case atStart => exact ⟨k, 1, rfl, rfl, rfl, Nat.le_refl _, by rw [Nat.one_mul], rfl⟩
  case round =>
    obtain ⟨m, out, rfl, rfl, rfl, hm, ho, rfl⟩ := hrel
    have HO := hide ho
    clear ho
    by_cases hlt : 1 < gk
    · obtain ⟨q1, q2⟩ := fac_step out gk k (by omega) HO.out (by omega)
      have Q1 := hide q1
      have q3 : (0 : Int) ≤ (out : Int) * gk := by exact_mod_cast Nat.zero_le (out * gk)
      have q4 : (out : Int) * gk ≤ 2432902008176640000 := by
        rw [← Int.natCast_mul]
        omega
      clear q1 q2
      go_wp2
      go_roundg (gk - 1)
      case rel => exact ⟨gk - 1, out * gk, rfl, by simp only [Value.int.injEq, true_and]; omega, by rw [Int.natCast_mul], by omega, Q1.out, rfl⟩
      case measure => omega
    · have q5 := hide (show (fac k : Int) = out by
        have := HO.out
        have h0 : gk = 0 ∨ gk = 1 := by omega
        rcases h0 with rfl | rfl <;> simp [fac] at this <;> omega)
      go_wp2
      go_ret
      exact ⟨ret_int (by rw [HE.out, q5.out]), rfl⟩
set_option maxHeartbeats 1000000 in
theorem rcount_any (n : Int) (w : World) :
    Calls Try.prog 27 #[.int .i64 n] w fun e w' => e = .returned (.int .i64 (cnt n)) ∧ w = w' := by
  by_cases h1 : n < 0
  · go_enter Try.func27, Try.ntmps27
    go_wp2
    go_ret
    exact ⟨ret_int (by unfold cnt; rw [if_pos (by omega)]), rfl⟩
  by_cases h2 : 20 < n
  · have h3 : decide (n < 0) = false := by simpa using h1
    go_enter Try.func27, Try.ntmps27
    go_wp2
    go_ret
    exact ⟨ret_int (by unfold cnt; rw [if_pos (by omega)]), rfl⟩
  obtain ⟨k, rfl⟩ := Int.eq_ofNat_of_zero_le (show 0 ≤ n by omega)
  have HE := hide (show cnt k = (fac k : Int) by unfold cnt; rw [if_neg (by omega), Int.toNat_natCast])
  have h3 : decide ((k : Int) < 0) = false := by simp
  have h4 : decide ((20 : Int) < k) = false := by simp; omega
  go_enter Try.func27, Try.ntmps27
  go_wp2
  go_loopg [3, 4] (k + 2) (fun g b a wr => ∃ (m : Nat), g + m = k + 2 ∧ a = .int .i64 ((m : Int) + 2) ∧ b = .int .i64 (fac (m + 1)) ∧ (m + 1 ≤ k ∨ m = 0) ∧ wr = w)
  case atStart => exact ⟨0, by omega, rfl, rfl, by omega, rfl⟩
  case round =>
    obtain ⟨m, hm, rfl, rfl, hmk, rfl⟩ := hrel
    by_cases hlt : m + 2 ≤ k
    · have q2 := fac_le (m + 2) (by omega)
      have q0 : fac (m + 2) = fac (m + 1) * (m + 2) := by rw [fac, Nat.mul_comm]
      have Q1 := hide q0
      rw [q0] at q2
      have q3 : (0 : Int) ≤ (fac (m + 1) : Int) * ((m : Int) + 2) := by exact_mod_cast Nat.zero_le (fac (m + 1) * (m + 2))
      have q4 : (fac (m + 1) : Int) * ((m : Int) + 2) ≤ 2432902008176640000 := by
        have e : ((fac (m + 1) * (m + 2) : Nat) : Int) = (fac (m + 1) : Int) * ((m : Int) + 2) := Int.natCast_mul _ _
        rw [← e]
        omega
      clear q0 q2
      go_wp2
      go_roundg (gk - 1)
      case rel => exact ⟨m + 1, by omega, by simp only [Value.int.injEq, true_and]; omega, by rw [Q1.out, Int.natCast_mul]; rfl, by omega, rfl⟩
      case measure => omega
    · have q5 := hide (show fac k = fac (m + 1) by
        rcases hmk with h | rfl
        · congr 1; omega
        · have h0 : k = 0 ∨ k = 1 := by omega
          rcases h0 with rfl | rfl <;> rfl)
      go_wp2
      go_ret
      exact ⟨ret_int (by rw [HE.out, q5.out]), rfl⟩

/-! ### Nth -/
def nthGo : Nat → Nat → List Int → List Int
  | 0, _, l => l
  | m + 1, k, l => nthGo m (k / (m + 1)) (l.set m ((k % (m + 1) : Nat) : Int))
def nthL (n k : Nat) : List Int := nthGo n k (List.replicate n 0)
theorem nthGo_len (m k : Nat) (l : List Int) : (nthGo m k l).length = l.length := by
  induction m generalizing k l with
  | zero => rfl
  | succ m ih => rw [nthGo, ih]; simp
theorem nthL_len (n k : Nat) : (nthL n k).length = n := by unfold nthL; rw [nthGo_len]; simp
theorem nthGo_step (m k : Nat) (l : List Int) (h : 1 ≤ m) : nthGo m k l = nthGo (m - 1) (k / m) (l.set (m - 1) ((k % m : Nat) : Int)) := by
  obtain ⟨j, rfl⟩ : ∃ j, m = j + 1 := ⟨m - 1, by omega⟩
  rfl
theorem cnt_in (n k : Int) (h0 : 0 ≤ k) (h1 : k < cnt n) : 0 ≤ n ∧ n ≤ 20 := by
  unfold cnt at h1
  split at h1 <;> omega
theorem nth_no (n k : Int) (w : World) (h : k < 0 ∨ cnt n ≤ k) :
    Calls Try.prog 30 #[.int .i64 n, .int .i64 k] w fun e w' => e = .returned (.tuple #[.slice none 0 0, .bool false]) ∧ w = w' := by
  by_cases h1 : k < 0
  · go_enter Try.func30, Try.ntmps30
    go_wp2
    go_ret2
    exact ⟨rfl, rfl⟩
  · have h2 : decide (k < 0) = false := by simpa using h1
    have h3 : cnt n ≤ k := by omega
    go_enter Try.func30, Try.ntmps30
    go_wp2_with (go_at_call 29; refine (count_any _ _).mono ?_; rintro e w' ⟨rfl, rfl⟩)
    go_ret2
    exact ⟨rfl, rfl⟩
theorem rnth_no (n k : Int) (w : World) (h : k < 0 ∨ cnt n ≤ k) :
    Calls Try.prog 28 #[.int .i64 n, .int .i64 k] w fun e w' => e = .returned (.tuple #[.slice none 0 0, .bool false]) ∧ w = w' := by
  by_cases q1 : n < 0
  · go_enter Try.func28, Try.ntmps28
    go_wp2
    go_ret2
    exact ⟨rfl, rfl⟩
  have q3 : decide (n < 0) = false := by simpa using q1
  by_cases q2 : 20 < n
  · go_enter Try.func28, Try.ntmps28
    go_wp2
    go_ret2
    exact ⟨rfl, rfl⟩
  have q4 : decide (20 < n) = false := by simpa using q2
  by_cases h1 : k < 0
  · go_enter Try.func28, Try.ntmps28
    go_wp2
    go_ret2
    exact ⟨rfl, rfl⟩
  · have h2 : decide (k < 0) = false := by simpa using h1
    have h3 : cnt n ≤ k := by omega
    go_enter Try.func28, Try.ntmps28
    go_wp2_with (go_at_call 27; refine (rcount_any _ _).mono ?_; rintro e w' ⟨rfl, rfl⟩)
    go_ret2
    exact ⟨rfl, rfl⟩
set_option maxHeartbeats 2000000 in
theorem nth_yes (n k : Nat) (w : World) (hn : n ≤ 20) (h : (k : Int) < cnt n) :
    Calls Try.prog 30 #[.int .i64 n, .int .i64 k] w fun e w' => e = .returned (.tuple #[.slice (some ⟨w.heap.size, 0, none⟩) n n, .bool true]) ∧ Bk w' w.heap.size 3 (cellsI (nthL n k)) ∧ Below w.heap.size w w' := by
  have hmk := fun W => run_make_row' (P := Try.prog) 22 3 (.int .i64 0) 8 Try.underlying22 Try.int_inf rfl .i64 .i64 n (by omega) (by omega) W
  have hk := (cnt_bd n).2
  have h2 : decide ((k : Int) < 0) = false := by simp
  have h3 : decide (cnt (n : Int) ≤ (k : Int)) = false := by simp; omega
  go_enter Try.func30, Try.ntmps30
  go_wp2_with (go_at_call 29; refine (count_any _ _).mono ?_; rintro e w' ⟨rfl, rfl⟩)
  clear hmk
  go_loopg [1, 7] n (fun m a b wr => ∃ (q : Nat) (l : List Int), a = .int .i64 q ∧ b = .int .i64 ((m : Int) - 1) ∧ m ≤ n ∧ q ≤ k ∧ l.length = n ∧ Bk wr w.heap.size 3 (cellsI l) ∧ Below w.heap.size w wr ∧ nthGo m q l = nthL n k)
  case atStart => exact ⟨k, List.replicate n 0, rfl, rfl, Nat.le_refl _, Nat.le_refl _, by simp, by rw [← made_eq]; exact Bk.new _ _ _, (Below.refl _ _).alloc (Nat.le_refl _) _, rfl⟩
  case round =>
    obtain ⟨q, l, rfl, rfl, hm, hq, hl, hB, hbel, ho⟩ := hrel
    have HO := hide ho
    have HB := hide hB
    have HL := hide hl
    clear ho
    by_cases hg : 1 ≤ gk
    · have ci := at_cell hB hl (gk - 1) (by omega)
      have fi := hB.frozen (gk - 1)
      have HST := hide (nthGo_step gk q l hg)
      have d3 : q / gk ≤ q := Nat.div_le_self _ _
      generalize l.getD (gk - 1) 0 = y at ci
      clear hB hl
      obtain ⟨j, rfl⟩ : ∃ j, gk = j + 1 := ⟨gk - 1, by omega⟩
      simp only [Nat.add_sub_cancel] at ci fi
      have d1 : (((q / (j + 1) : Nat)) : Int) = (q : Int) / ((j : Int) + 1) := Int.natCast_ediv _ _
      have d2 : (((q % (j + 1) : Nat)) : Int) = (q : Int) % ((j : Int) + 1) := Int.natCast_emod _ _
      have d4 : 0 ≤ (q : Int) / ((j : Int) + 1) := by rw [← d1]; exact Int.natCast_nonneg _
      have d5 : (q : Int) / ((j : Int) + 1) ≤ q := by rw [← d1]; exact Int.ofNat_le.2 d3
      have D1 := hide d1
      have D2 := hide d2
      clear d1 d2
      go_wp2
      go_roundg j
      case rel => exact ⟨q / (j + 1), l.set j ((q % (j + 1) : Nat) : Int), by rw [D1.out], by rfl, by omega, by omega, by simpa using HL.out, by rw [D2.out]; exact bkI_set _ _ HB.out, hbel.setCell (Nat.le_refl _) _, by rw [← HO.out]; rfl⟩
      case measure => omega
    · obtain rfl : gk = 0 := by omega
      have HF := hide (show l = nthL n k from HO.out)
      clear hB hl
      go_wp2
      go_ret2
      exact ⟨rfl, by rw [← HF.out]; exact HB.out, hbel⟩
set_option maxHeartbeats 2000000 in
theorem rnth_yes (n k : Nat) (w : World) (hn : n ≤ 20) (h : (k : Int) < cnt n) :
    Calls Try.prog 28 #[.int .i64 n, .int .i64 k] w fun e w' => e = .returned (.tuple #[.slice (some ⟨w.heap.size, 0, none⟩) n n, .bool true]) ∧ Bk w' w.heap.size 3 (cellsI (nthL n k)) ∧ Below w.heap.size w w' := by
  have hmk := fun W => run_make_row' (P := Try.prog) 22 3 (.int .i64 0) 8 Try.underlying22 Try.int_inf rfl .i64 .i64 n (by omega) (by omega) W
  have hk := (cnt_bd n).2
  have h2 : decide ((k : Int) < 0) = false := by simp
  have h4 : decide ((n : Int) < 0) = false := by simp
  have h5 : decide ((20 : Int) < n) = false := by simp; omega
  have h3 : decide (cnt (n : Int) ≤ (k : Int)) = false := by simp; omega
  go_enter Try.func28, Try.ntmps28
  go_wp2_with (go_at_call 27; refine (rcount_any _ _).mono ?_; rintro e w' ⟨rfl, rfl⟩)
  clear hmk
  go_loopg [1, 7] n (fun m a b wr => ∃ (q : Nat) (l : List Int), a = .int .i64 q ∧ b = .int .i64 (m : Int) ∧ m ≤ n ∧ q ≤ k ∧ l.length = n ∧ Bk wr w.heap.size 3 (cellsI l) ∧ Below w.heap.size w wr ∧ nthGo m q l = nthL n k)
  case atStart => exact ⟨k, List.replicate n 0, rfl, rfl, Nat.le_refl _, Nat.le_refl _, by simp, by rw [← made_eq]; exact Bk.new _ _ _, (Below.refl _ _).alloc (Nat.le_refl _) _, rfl⟩
  case round =>
    obtain ⟨q, l, rfl, rfl, hm, hq, hl, hB, hbel, ho⟩ := hrel
    have HO := hide ho
    have HB := hide hB
    have HL := hide hl
    clear ho
    by_cases hg : 1 ≤ gk
    · have ci := at_cell hB hl (gk - 1) (by omega)
      have fi := hB.frozen (gk - 1)
      have HST := hide (nthGo_step gk q l hg)
      have d3 : q / gk ≤ q := Nat.div_le_self _ _
      generalize l.getD (gk - 1) 0 = y at ci
      clear hB hl
      obtain ⟨j, rfl⟩ : ∃ j, gk = j + 1 := ⟨gk - 1, by omega⟩
      simp only [Nat.add_sub_cancel] at ci fi
      have d1 : (((q / (j + 1) : Nat)) : Int) = (q : Int) / ((j : Int) + 1) := Int.natCast_ediv _ _
      have d2 : (((q % (j + 1) : Nat)) : Int) = (q : Int) % ((j : Int) + 1) := Int.natCast_emod _ _
      have d4 : 0 ≤ (q : Int) / ((j : Int) + 1) := by rw [← d1]; exact Int.natCast_nonneg _
      have d5 : (q : Int) / ((j : Int) + 1) ≤ q := by rw [← d1]; exact Int.ofNat_le.2 d3
      have D1 := hide d1
      have D2 := hide d2
      clear d1 d2
      go_wp2
      go_roundg j
      case rel => exact ⟨q / (j + 1), l.set j ((q % (j + 1) : Nat) : Int), by rw [D1.out], by rfl, by omega, by omega, by simpa using HL.out, by rw [D2.out]; exact bkI_set _ _ HB.out, hbel.setCell (Nat.le_refl _) _, by rw [← HO.out]; rfl⟩
      case measure => omega
    · obtain rfl : gk = 0 := by omega
      have HF := hide (show l = nthL n k from HO.out)
      clear hB hl
      go_wp2
      go_ret2
      exact ⟨rfl, by rw [← HF.out]; exact HB.out, hbel⟩
end Go.Proofs.Ytidncklgoaofpaa
