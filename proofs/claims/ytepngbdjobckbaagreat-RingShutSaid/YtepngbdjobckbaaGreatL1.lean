/- -/
import Derived.Test.YtepngbdjobckbaaGreatRows
import Derived.Test.YtepngbdjobckbaaGreatK
namespace Go.Proofs.YtepngbdjobckbaaGreat
open Go.RowKit
set_option linter.unusedVariables false

/-- Which capacities and starts are in range. -/
def badK (x : Int) : Bool := decide (x < 0) || decide (16 < x)
theorem badK_yes {x : Int} (h : x < 0 ∨ 16 < x) : badK x = true := by unfold badK; simp; omega
theorem badK_no {x : Int} (h : 0 ≤ x) (h2 : x ≤ 16) : badK x = false := by unfold badK; simp; omega
def badS (x : Int) : Bool := decide (9223372036854775808 ≤ x)
def chk (l s : List Int) (t : Int) : Int :=
  if 8 < l.length then 3 else if s.length ≠ l.length then 5 else if l.any badK then 2 else if s.any badS then 2 else if t < 1 ∨ 8 < t then 2 else 0
theorem any_no {f : Int → Bool} {l : List Int} {n : Nat} (hl : l.length = n) (h : ∀ j, j < n → f (l.getD j 0) = false) : l.any f = false := by
  rw [List.any_eq_false]
  intro x hx
  obtain ⟨j, hj, rfl⟩ := List.mem_iff_getElem.1 hx
  have := h j (by omega)
  simpa [List.getD, List.getElem?_eq_getElem hj] using this
theorem any_yes {f : Int → Bool} {l : List Int} {n k : Nat} (hl : l.length = n) (hk : k < n) (h : f (l.getD k 0) = true) : l.any f = true := by
  rw [List.any_eq_true]
  have hj : k < l.length := by omega
  exact ⟨l[k], List.getElem_mem hj, by simpa [List.getD, List.getElem?_eq_getElem hj] using h⟩
theorem rcheck_any (w : World) (A : Option Addr) (n c : Nat) (l : List Int) (B : Option Addr) (m d : Nat) (s : List Int) (t : Int) (h1 : IsI .i64 w A n l) (h2 : IsI .u64 w B m s)
    (hn : n ≤ 9223372036854775806) (hm : m ≤ 9223372036854775806) :
    Calls Tryz.prog 38 #[.agg #[.slice A n c, .slice B m d, .int .i64 t]] w fun e w' => e = .returned (.int .i64 (chk l s t)) ∧ Below w.heap.size w w' := by
  have hl1 := hide h1.len
  have hl2 := hide h2.len
  have hbel : ∀ q, Below w.heap.size w ((w.alloc (.cells #[.slice A n c, .slice B m d, .int .i64 t] 30)).drewN q) := fun q => below_drewN ((Below.refl _ _).alloc (Nat.le_refl _) _) q
  have H1 := (h1.alloc (.cells #[.slice A n c, .slice B m d, .int .i64 t] 30))
  have H2 := (h2.alloc (.cells #[.slice A n c, .slice B m d, .int .i64 t] 30))
  clear h1 h2
  have HB := hide hbel
  clear hbel
  by_cases hn8 : 8 < n
  · have e1 := hide (show chk l s t = 3 by unfold chk; rw [if_pos (by have := hl1.out; omega)])
    go_enter Tryz.func38, Tryz.ntmps38
    go_wp2
    go_ret
    exact ⟨ret_int e1.out.symm, HB.out 0⟩
  by_cases hnm : m = n
  · subst hnm
    have hq : ((m : Int) != m) = false := by simp
    have E0 : Hid (chk l s t = if l.any badK then 2 else if s.any badS then 2 else if t < 1 ∨ 8 < t then 2 else 0) := by
      unfold chk
      rw [if_neg (by have := hl1.out; omega), if_neg (by have := hl1.out; have := hl2.out; omega)]
      rfl
    go_enter Tryz.func38, Tryz.ntmps38
    go_wp2
    go_loopw [3] (fun i wr => ∃ k : Nat, k ≤ m ∧ i = .int .i64 k ∧ (∀ j, j < k → badK (l.getD j 0) = false) ∧ ∃ q, wr = (w.alloc (.cells #[.slice A m c, .slice B m d, .int .i64 t] 30)).drewN q) (fun i _ => m - (intOf i).toNat)
    case atStart => exact ⟨0, Nat.zero_le _, rfl, fun j hj => absurd hj (by omega), 0, rfl⟩
    case round =>
      obtain ⟨k, hk, rfl, hall, q, rfl⟩ := hrel
      have HA := hide hall
      clear hall
      by_cases hlt : k < m
      · have E1 : Hid (badK (l.getD k 0) = true → chk l s t = 2) := fun h => by rw [E0.out, if_pos (any_yes hl1.out hlt h)]
        obtain ⟨ad, rfl, _, c1⟩ := H1.at_ hlt
        by_cases hx0 : l.getD k 0 < 0
        · have E2 := hide (show chk l s t = 2 from E1.out (badK_yes (by omega)))
          generalize l.getD k 0 = x at c1 hx0
          go_wp2
          go_ret
          exact ⟨ret_int E2.out.symm, HB.out _⟩
        by_cases hx1 : 16 < l.getD k 0
        · have E2 := hide (show chk l s t = 2 from E1.out (badK_yes (by omega)))
          generalize l.getD k 0 = x at c1 hx0 hx1
          go_wp2
          go_ret
          exact ⟨ret_int E2.out.symm, HB.out _⟩
        · have E2 := hide (show badK (l.getD k 0) = false from badK_no (by omega) (by omega))
          generalize hx : l.getD k 0 = x at c1 hx0 hx1
          clear hx
          go_wp2
          go_roundw
          case rel => exact ⟨k + 1, by omega, by go_num, fun j hj => by
              rcases Nat.lt_or_ge j k with h | h
              · exact HA.out j h
              · obtain rfl : j = k := by omega
                exact E2.out, _, rfl⟩
          case measure => simp [intOf]; omega
      · have hkm : k = m := by omega
        have E1 : Hid (chk l s t = if s.any badS then 2 else if t < 1 ∨ 8 < t then 2 else 0) := by
          rw [E0.out, any_no hl1.out (fun j hj => HA.out j (by omega))]; rfl
        clear hkm
        go_wp2
        go_loopw [4] (fun i wr => ∃ k : Nat, k ≤ m ∧ i = .int .i64 k ∧ (∀ j, j < k → badS (s.getD j 0) = false) ∧ ∃ q, wr = (w.alloc (.cells #[.slice A m c, .slice B m d, .int .i64 t] 30)).drewN q) (fun i _ => m - (intOf i).toNat)
        case atStart => exact ⟨0, Nat.zero_le _, rfl, fun j hj => absurd hj (by omega), _, rfl⟩
        case round =>
          obtain ⟨k, hk, rfl, hall, q, rfl⟩ := hrel
          have HA := hide hall
          clear hall
          by_cases hlt : k < m
          · have E2 : Hid (badS (s.getD k 0) = true → chk l s t = 2) := fun h => by rw [E1.out, if_pos (any_yes hl2.out hlt h)]
            obtain ⟨ad, rfl, _, c1⟩ := H2.at_ hlt
            by_cases hx0 : 9223372036854775808 ≤ s.getD k 0
            · have E2 := hide (show chk l s t = 2 from E2.out (by unfold badS; simpa using hx0))
              generalize s.getD k 0 = x at c1 hx0
              go_wp2
              go_ret
              exact ⟨ret_int E2.out.symm, HB.out _⟩
            · have E2 := hide (show badS (s.getD k 0) = false by unfold badS; simpa using hx0)
              generalize hx : s.getD k 0 = x at c1 hx0
              clear hx
              go_wp2
              go_roundw
              case rel => exact ⟨k + 1, by omega, by go_num, fun j hj => by
                  rcases Nat.lt_or_ge j k with h | h
                  · exact HA.out j h
                  · obtain rfl : j = k := by omega
                    exact E2.out, _, rfl⟩
              case measure => simp [intOf]; omega
          · have hkm : k = m := by omega
            have E2 : Hid (chk l s t = if t < 1 ∨ 8 < t then 2 else 0) := by
              rw [E1.out, any_no hl2.out (fun j hj => HA.out j (by omega))]; rfl
            clear hkm
            by_cases ht : t < 1
            · go_wp2
              go_ret
              exact ⟨ret_int (by rw [E2.out, if_pos (.inl ht)]), HB.out _⟩
            by_cases ht2 : 8 < t
            · go_wp2
              go_ret
              exact ⟨ret_int (by rw [E2.out, if_pos (.inr ht2)]), HB.out _⟩
            · go_wp2
              go_ret
              exact ⟨ret_int (by rw [E2.out, if_neg (by omega)]), HB.out _⟩
  · have hq : ((m : Int) != n) = true := by simp; omega
    have e1 := hide (show chk l s t = 5 by unfold chk; rw [if_neg (by have := hl1.out; omega), if_pos (by have := hl1.out; have := hl2.out; omega)])
    go_enter Tryz.func38, Tryz.ntmps38
    go_wp2
    go_ret
    exact ⟨ret_int e1.out.symm, HB.out 0⟩
end Go.Proofs.YtepngbdjobckbaaGreat
