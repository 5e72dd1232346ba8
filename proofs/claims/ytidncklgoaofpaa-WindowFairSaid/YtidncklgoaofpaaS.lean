/- Contracts: the remainder from 0 on (chanfabricdraw.Mod), and whether two lists of numbers are the same (chanfabricref2.Same). -/
import Derived.Test.YtidncklgoaofpaaRows
import Derived.Test.YtidncklgoaofpaaK
namespace Go.Proofs.Ytidncklgoaofpaa
open Go.RowKit
set_option linter.unusedVariables false

theorem mod_any (x n : Int) (w : World) (h1 : 1 ≤ n) (h2 : n ≤ 4611686018427387904) (hx : -9223372036854775808 ≤ x) (hx2 : x ≤ 9223372036854775807) :
    Calls Try.prog 15 #[.int .i64 x, .int .i64 n] w fun e w' => e = .returned (.int .i64 (x % n)) ∧ w = w' := by
  have e1 : x.tmod n = x % n ∨ (x.tmod n < 0 ∧ x.tmod n + n = x % n) := by
    rw [Int.tmod_eq_emod]
    have := Int.emod_nonneg x (show n ≠ 0 by omega)
    have := Int.emod_lt_of_pos x (show 0 < n by omega)
    split <;> omega
  have b1 := Int.emod_nonneg x (show n ≠ 0 by omega)
  have b2 := Int.emod_lt_of_pos x (show 0 < n by omega)
  have E := hide e1
  have hb : -4611686018427387904 ≤ x.tmod n ∧ x.tmod n ≤ 4611686018427387904 := by rcases e1 with e | e <;> omega
  clear e1
  by_cases h0 : 0 ≤ x
  · go_enter Try.func15, Try.ntmps15
    go_wp2
    go_ret
    exact ⟨rfl, rfl⟩
  · go_enter Try.func15, Try.ntmps15
    go_wp2
    · go_ret
      exact ⟨ret_int (by have := E.out; omega), rfl⟩
    · go_ret
      exact ⟨ret_int (by have := E.out; omega), rfl⟩

theorem same_any (w : World) (A : Option Addr) (n c : Nat) (l : List Int) (B : Option Addr) (m d : Nat) (l' : List Int) (h1 : IsI .i64 w A n l) (h2 : IsI .i64 w B m l')
    (hn : n ≤ 9223372036854775806) :
    Calls Try.prog 24 #[.slice A n c, .slice B m d] w fun e w' => e = .returned (.bool (decide (l = l'))) ∧ Draws w w' := by
  have hl1 := h1.len
  have hl2 := h2.len
  by_cases hnm : n = m
  · subst hnm
    have L1 := hide hl1
    have L2 := hide hl2
    clear hl1 hl2
    have hq : ((n : Int) != n) = false := by simp
    go_enter Try.func24, Try.ntmps24
    go_wp2
    go_loopw [5] (fun i wr => ∃ k : Nat, k ≤ n ∧ i = .int .i64 k ∧ (∀ j, j < k → l.getD j 0 = l'.getD j 0) ∧ ∃ q, wr = w.drewN q) (fun i _ => n - (intOf i).toNat)
    case atStart => exact ⟨0, Nat.zero_le _, rfl, fun j hj => absurd hj (by omega), 0, rfl⟩
    case round =>
      obtain ⟨k, hk, rfl, hall, q, rfl⟩ := hrel
      have HA := hide hall
      clear hall
      by_cases hlt : k < n
      · obtain ⟨ad, rfl, _, c1⟩ := h1.at_ hlt
        obtain ⟨bd, rfl, _, c2⟩ := h2.at_ hlt
        by_cases heq : l.getD k 0 = l'.getD k 0
        · have HE := hide heq
          have e1 : (l.getD k 0 != l'.getD k 0) = false := by rw [heq]; simp
          rw [heq] at c1 e1
          clear heq
          go_wp2
          go_quiet (fail)
          go_wp2
          go_roundw
          case rel => exact ⟨k + 1, by omega, by go_num, fun j hj => by
              rcases Nat.lt_or_ge j k with h | h
              · exact HA.out j h
              · obtain rfl : j = k := by omega
                exact HE.out, _, rfl⟩
          case measure => simp [intOf]; omega
        · have HE := hide heq
          have e1 : (l.getD k 0 != l'.getD k 0) = true := by simpa using heq
          have e2 : decide (l = l') = false := by simp; intro e; exact heq (by rw [e])
          have E2 := hide e2
          clear heq e2
          generalize l.getD k 0 = x at c1 e1
          generalize l'.getD k 0 = y at c2 e1
          go_wp2
          go_quiet (fail)
          go_wp2
          go_ret
          exact ⟨ret_eq (by rw [E2.out]; rfl), _, World.drewN_drewN _ _ _⟩
      · have e2 : decide (l = l') = true := by
          simp only [decide_eq_true_eq]
          apply List.ext_getElem
          · rw [L1.out, L2.out]
          · intro j hj1 hj2
            have := HA.out j (by have := L1.out; omega)
            simpa [List.getD, List.getElem?_eq_getElem hj1, List.getElem?_eq_getElem hj2] using this
        have E2 := hide e2
        clear e2
        go_wp2
        go_ret
        exact ⟨ret_eq (by rw [E2.out]; rfl), _, rfl⟩
  · have e2 : decide (l = l') = false := by simp; intro e; apply hnm; rw [← hl1, ← hl2, e]
    have e1 : ((n : Int) != m) = true := by simp; omega
    rw [e2]
    clear hl1 hl2 e2 hnm
    go_enter Try.func24, Try.ntmps24
    go_wp2
    go_ret
    exact ⟨rfl, Draws.refl _⟩
end Go.Proofs.Ytidncklgoaofpaa
