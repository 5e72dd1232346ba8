/- Contracts of the functions on the elements of waiting lists (waitlist), and of the document's (chanfabricref13). -/
import Derived.Test.YtjmchkafjpahbaaRows
import Derived.Test.YtjmchkafjpahbaaK
namespace Go.Proofs.Ytjmchkafjpahbaa
open Go.RowKit
set_option linter.unusedVariables false

def rec (t i : Int) : Int := if t < 0 ∨ 8 ≤ t ∨ i < 0 ∨ 6 ≤ i then -1 else t * 6 + i
def th (r : Int) : Int := if r < 0 then -1 else r / 6
def cas (r : Int) : Int := if r < 0 then -1 else r % 6

theorem record_any (t i : Int) (w : World) :
    Calls Try.prog 9 #[.int .i64 t, .int .i64 i] w fun e w' => e = .returned (.int .i64 (rec t i)) ∧ w = w' := by
  by_cases h1 : t < 0
  · go_enter Try.func9, Try.ntmps9
    go_wp2
    go_ret
    exact ⟨ret_int (by unfold rec; rw [if_pos (by omega)]), rfl⟩
  · by_cases h2 : 8 ≤ t
    · go_enter Try.func9, Try.ntmps9
      go_wp2
      go_ret
      exact ⟨ret_int (by unfold rec; rw [if_pos (by omega)]), rfl⟩
    · by_cases h3 : i < 0
      · go_enter Try.func9, Try.ntmps9
        go_wp2
        go_ret
        exact ⟨ret_int (by unfold rec; rw [if_pos (by omega)]), rfl⟩
      · by_cases h4 : 6 ≤ i
        · go_enter Try.func9, Try.ntmps9
          go_wp2
          go_ret
          exact ⟨ret_int (by unfold rec; rw [if_pos (by omega)]), rfl⟩
        · go_enter Try.func9, Try.ntmps9
          go_wp2
          go_ret
          exact ⟨ret_int (by unfold rec; rw [if_neg (by omega)]), rfl⟩
theorem rrecord_any (t i : Int) (w : World) :
    Calls Try.prog 10 #[.int .i64 t, .int .i64 i] w fun e w' => e = .returned (.int .i64 (rec t i)) ∧ w = w' := by
  by_cases h1 : t < 0
  · go_enter Try.func10, Try.ntmps10
    go_wp2
    go_ret
    exact ⟨ret_int (by unfold rec; rw [if_pos (by omega)]), rfl⟩
  · by_cases h2 : 8 ≤ t
    · go_enter Try.func10, Try.ntmps10
      go_wp2
      go_ret
      exact ⟨ret_int (by unfold rec; rw [if_pos (by omega)]), rfl⟩
    · by_cases h3 : i < 0
      · go_enter Try.func10, Try.ntmps10
        go_wp2
        go_ret
        exact ⟨ret_int (by unfold rec; rw [if_pos (by omega)]), rfl⟩
      · by_cases h4 : 6 ≤ i
        · go_enter Try.func10, Try.ntmps10
          go_wp2
          go_ret
          exact ⟨ret_int (by unfold rec; rw [if_pos (by omega)]), rfl⟩
        · go_enter Try.func10, Try.ntmps10
          go_wp2
          go_ret
          exact ⟨ret_int (by unfold rec; rw [if_neg (by omega)]), rfl⟩
theorem thread_any (r : Int) (w : World) (hr : r ≤ 9223372036854775807) :
    Calls Try.prog 11 #[.int .i64 r] w fun e w' => e = .returned (.int .i64 (th r)) ∧ w = w' := by
  by_cases h1 : r < 0
  · go_enter Try.func11, Try.ntmps11
    go_wp2
    go_ret
    exact ⟨ret_int (by unfold th; rw [if_pos (by omega)]), rfl⟩
  · have h2 : 0 ≤ r := by omega
    go_enter Try.func11, Try.ntmps11
    go_wp2
    go_ret
    exact ⟨ret_int (by unfold th; rw [if_neg (by omega)]), rfl⟩
theorem rthread_any (r : Int) (w : World) (hr : r ≤ 9223372036854775807) :
    Calls Try.prog 14 #[.int .i64 r] w fun e w' => e = .returned (.int .i64 (th r)) ∧ w = w' := by
  by_cases h1 : r < 0
  · go_enter Try.func14, Try.ntmps14
    go_wp2
    go_ret
    exact ⟨ret_int (by unfold th; rw [if_pos (by omega)]), rfl⟩
  · have h2 : 0 ≤ r := by omega
    go_enter Try.func14, Try.ntmps14
    go_wp2
    go_ret
    exact ⟨ret_int (by unfold th; rw [if_neg (by omega)]), rfl⟩
theorem case_any (r : Int) (w : World) (hr : r ≤ 9223372036854775807) :
    Calls Try.prog 12 #[.int .i64 r] w fun e w' => e = .returned (.int .i64 (cas r)) ∧ w = w' := by
  by_cases h1 : r < 0
  · go_enter Try.func12, Try.ntmps12
    go_wp2
    go_ret
    exact ⟨ret_int (by unfold cas; rw [if_pos (by omega)]), rfl⟩
  · have h2 : 0 ≤ r := by omega
    go_enter Try.func12, Try.ntmps12
    go_wp2
    go_ret
    exact ⟨ret_int (by unfold cas; rw [if_neg (by omega)]), rfl⟩
theorem rcase_any (r : Int) (w : World) (hr : r ≤ 9223372036854775807) :
    Calls Try.prog 15 #[.int .i64 r] w fun e w' => e = .returned (.int .i64 (cas r)) ∧ w = w' := by
  by_cases h1 : r < 0
  · go_enter Try.func15, Try.ntmps15
    go_wp2
    go_ret
    exact ⟨ret_int (by unfold cas; rw [if_pos (by omega)]), rfl⟩
  · have h2 : 0 ≤ r := by omega
    go_enter Try.func15, Try.ntmps15
    go_wp2
    go_ret
    exact ⟨ret_int (by unfold cas; rw [if_neg (by omega)]), rfl⟩
def low (a b : Int) : Int := if th b < th a then b else a
def hig (a b : Int) : Int := if th b < th a then a else b
theorem lower_any (a b : Int) (w : World) (ha : a ≤ 9223372036854775807) (hb : b ≤ 9223372036854775807) :
    Calls Try.prog 16 #[.int .i64 a, .int .i64 b] w fun e w' => e = .returned (.tuple #[.int .i64 (low a b), .int .i64 (hig a b)]) ∧ w = w' := by
  by_cases h : th b < th a
  · go_enter Try.func16, Try.ntmps16
    go_wp2_with (go_at_call 11; refine (thread_any _ _ (by omega)).mono ?_; rintro e w' ⟨rfl, rfl⟩)
    go_ret2
    exact ⟨ret_eq (by unfold low hig; rw [if_pos (by omega), if_pos (by omega)]; rfl), rfl⟩
  · go_enter Try.func16, Try.ntmps16
    go_wp2_with (go_at_call 11; refine (thread_any _ _ (by omega)).mono ?_; rintro e w' ⟨rfl, rfl⟩)
    go_ret2
    exact ⟨ret_eq (by unfold low hig; rw [if_neg (by omega), if_neg (by omega)]; rfl), rfl⟩
theorem rlower_any (a b : Int) (w : World) (ha : a ≤ 9223372036854775807) (hb : b ≤ 9223372036854775807) :
    Calls Try.prog 17 #[.int .i64 a, .int .i64 b] w fun e w' => e = .returned (.tuple #[.int .i64 (low a b), .int .i64 (hig a b)]) ∧ w = w' := by
  by_cases h : th b < th a
  · go_enter Try.func17, Try.ntmps17
    go_wp2_with (go_at_call 14; refine (rthread_any _ _ (by omega)).mono ?_; rintro e w' ⟨rfl, rfl⟩)
    go_ret2
    exact ⟨ret_eq (by unfold low hig; rw [if_pos (by omega), if_pos (by omega)]; rfl), rfl⟩
  · go_enter Try.func17, Try.ntmps17
    go_wp2_with (go_at_call 14; refine (rthread_any _ _ (by omega)).mono ?_; rintro e w' ⟨rfl, rfl⟩)
    go_ret2
    exact ⟨ret_eq (by unfold low hig; rw [if_neg (by omega), if_neg (by omega)]; rfl), rfl⟩
theorem awake_any (w : World) :
    Calls Try.prog 8 #[] w fun e w' => e = .returned (.bool true) ∧ w = w' := by
  have t1 : (rec 2 1 == 13) = true := by decide
  have t2 : (th 13 == 2) = true := by decide
  have t3 : (cas 13 == 1) = true := by decide
  go_enter Try.func8, Try.ntmps8
  go_wp2_with (first | (go_at_call 9; refine (record_any _ _ _).mono ?_; rintro e w' ⟨rfl, rfl⟩) | (go_at_call 11; refine (thread_any _ _ (by omega)).mono ?_; rintro e w' ⟨rfl, rfl⟩) | (go_at_call 12; refine (case_any _ _ (by omega)).mono ?_; rintro e w' ⟨rfl, rfl⟩))
  go_ret
  exact ⟨rfl, rfl⟩
/-! ### First -/
def fst1 (l : List Int) (t : Int) : Int := (l.find? fun r => th r != t).getD 0
def fst2 (l : List Int) (t : Int) : Bool := (l.find? fun r => th r != t).isSome
theorem find_none (l : List Int) (t : Int) (h : ∀ j, j < l.length → th (l.getD j 0) = t) : l.find? (fun r => th r != t) = none := by
  rw [List.find?_eq_none]
  intro x hx
  obtain ⟨j, hj, rfl⟩ := List.getElem_of_mem hx
  have := h j hj
  simpa [List.getD, List.getElem?_eq_getElem hj] using this
theorem find_at (l : List Int) (t : Int) (k : Nat) (hk : k < l.length) (h : ∀ j, j < k → th (l.getD j 0) = t) (hne : th (l.getD k 0) ≠ t) : l.find? (fun r => th r != t) = some (l.getD k 0) := by
  rw [List.find?_eq_some_iff_getElem]
  refine ⟨by simpa using hne, k, hk, by simp [List.getD, List.getElem?_eq_getElem hk], fun j hj => ?_⟩
  have := h j hj
  have hj' : j < l.length := by omega
  simpa [List.getD, List.getElem?_eq_getElem hj'] using this
theorem first_any (w : World) (A : Option Addr) (n c : Nat) (l : List Int) (t : Int) (h : IsI .i64 w A n l) (hl : ∀ x ∈ l, x ≤ 9223372036854775807) (hn : n ≤ 9223372036854775806) :
    Calls Try.prog 21 #[.slice A n c, .int .i64 t] w fun e w' => e = .returned (.tuple #[.int .i64 (fst1 l t), .bool (fst2 l t)]) ∧ w = w' := by
  have hlen := h.len
  have L := hide hlen
  have HL := hide hl
  clear hlen hl
  go_enter Try.func21, Try.ntmps21
  go_wp2
  go_loop [10] (fun i => ∃ k : Nat, k ≤ n ∧ i = .int .i64 k ∧ ∀ j, j < k → th (l.getD j 0) = t) (fun i => n - (intOf i).toNat)
  case atStart => exact ⟨0, Nat.zero_le _, rfl, fun j hj => absurd hj (by omega)⟩
  case round =>
    obtain ⟨k, hk, rfl, hall⟩ := hrel
    have HA := hide hall
    clear hall
    by_cases hlt : k < n
    · obtain ⟨ad, rfl, _, c1⟩ := h.at_ hlt
      have hb := HL.out (l.getD k 0) (by rw [List.getD, List.getElem?_eq_getElem (by rw [L.out]; omega)]; exact List.getElem_mem _)
      by_cases heq : th (l.getD k 0) = t
      · have HE := hide heq
        have e1 : (th (l.getD k 0) != t) = false := by simpa using heq
        clear heq
        generalize hx : l.getD k 0 = x at c1 e1 hb
        have HX := hide hx
        clear hx
        go_wp2_with (go_at_call 11; refine (thread_any _ _ hb).mono ?_; rintro e w' ⟨rfl, rfl⟩)
        go_round
        case rel => exact ⟨k + 1, by omega, by go_num, fun j hj => by
            rcases Nat.lt_or_ge j k with h | h
            · exact HA.out j h
            · obtain rfl : j = k := by omega
              exact HE.out⟩
        case measure => simp [intOf]; omega
      · have e1 : (th (l.getD k 0) != t) = true := by simpa using heq
        have hf := hide (find_at l t k (by rw [L.out]; omega) HA.out heq)
        clear heq
        generalize hx : l.getD k 0 = x at c1 e1 hb hf
        clear hx
        go_wp2_with (go_at_call 11; refine (thread_any _ _ hb).mono ?_; rintro e w' ⟨rfl, rfl⟩)
        go_ret2
        exact ⟨ret_eq (by unfold fst1 fst2; rw [hf.out]; rfl), rfl⟩
    · have hf := hide (find_none l t (fun j hj => HA.out j (by rw [L.out] at hj; omega)))
      go_wp2_with (go_at_call 11; refine (thread_any _ _ (by omega)).mono ?_; rintro e w' ⟨rfl, rfl⟩)
      go_ret2
      exact ⟨ret_eq (by unfold fst1 fst2; rw [hf.out]; rfl), rfl⟩
theorem rfirst_any (w : World) (A : Option Addr) (n c : Nat) (l : List Int) (t : Int) (h : IsI .i64 w A n l) (hl : ∀ x ∈ l, x ≤ 9223372036854775807) (hn : n ≤ 9223372036854775806) :
    Calls Try.prog 22 #[.slice A n c, .int .i64 t] w fun e w' => e = .returned (.tuple #[.int .i64 (fst1 l t), .bool (fst2 l t)]) ∧ w = w' := by
  have hlen := h.len
  have L := hide hlen
  have HL := hide hl
  clear hlen hl
  go_enter Try.func22, Try.ntmps22
  go_wp2
  go_loop [6] (fun i => ∃ k : Nat, k ≤ n ∧ i = .int .i64 k ∧ ∀ j, j < k → th (l.getD j 0) = t) (fun i => n - (intOf i).toNat)
  case atStart => exact ⟨0, Nat.zero_le _, rfl, fun j hj => absurd hj (by omega)⟩
  case round =>
    obtain ⟨k, hk, rfl, hall⟩ := hrel
    have HA := hide hall
    clear hall
    by_cases hlt : k < n
    · obtain ⟨ad, rfl, _, c1⟩ := h.at_ hlt
      have hb := HL.out (l.getD k 0) (by rw [List.getD, List.getElem?_eq_getElem (by rw [L.out]; omega)]; exact List.getElem_mem _)
      by_cases heq : th (l.getD k 0) = t
      · have HE := hide heq
        have e1 : (th (l.getD k 0) != t) = false := by simpa using heq
        clear heq
        generalize hx : l.getD k 0 = x at c1 e1 hb
        have HX := hide hx
        clear hx
        go_wp2_with (go_at_call 14; refine (rthread_any _ _ hb).mono ?_; rintro e w' ⟨rfl, rfl⟩)
        go_round
        case rel => exact ⟨k + 1, by omega, by go_num, fun j hj => by
            rcases Nat.lt_or_ge j k with h | h
            · exact HA.out j h
            · obtain rfl : j = k := by omega
              exact HE.out⟩
        case measure => simp [intOf]; omega
      · have e1 : (th (l.getD k 0) != t) = true := by simpa using heq
        have hf := hide (find_at l t k (by rw [L.out]; omega) HA.out heq)
        clear heq
        generalize hx : l.getD k 0 = x at c1 e1 hb hf
        clear hx
        go_wp2_with (go_at_call 14; refine (rthread_any _ _ hb).mono ?_; rintro e w' ⟨rfl, rfl⟩)
        go_ret2
        exact ⟨ret_eq (by unfold fst1 fst2; rw [hf.out]; rfl), rfl⟩
    · have hf := hide (find_none l t (fun j hj => HA.out j (by rw [L.out] at hj; omega)))
      go_wp2_with (go_at_call 14; refine (rthread_any _ _ (by omega)).mono ?_; rintro e w' ⟨rfl, rfl⟩)
      go_ret2
      exact ⟨ret_eq (by unfold fst1 fst2; rw [hf.out]; rfl), rfl⟩
end Go.Proofs.Ytjmchkafjpahbaa
