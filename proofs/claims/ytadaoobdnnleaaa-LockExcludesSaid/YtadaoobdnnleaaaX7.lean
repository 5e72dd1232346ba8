/- LockExcludes in the plain: four machines that take one lock. No walk in sight. -/
import Derived.Test.YtadaoobdnnleaaaX6
namespace Go.Proofs.Ytadaoobdnnleaaa
open Go.RowKit
set_option linter.unusedVariables false

/-- A machine that wants the lock, one that has it, one that gives it back. -/
def tk0 : Mc := mc0 1 0 0 0
def tkD : Mc := mend tk0 1 0
def rl0 : Mc := mc0 2 0 0 0
/-- Who has the lock. -/
structure Hl (h : Option Nat) (s : St) : Prop where
  l : s.l = [1]
  len : s.ms.length = 4
  wl : 3 ≤ s.ws.length
  wd : s.ws.getD 2 0 = if h.isSome then 1 else 0
  ms : ∀ (i : Nat) x, s.ms[i]? = some x → x = if h = some i then tkD else tk0
theorem mnext_tk0 : mnext [1] tk0 = ⟨3, 2, 0, 1⟩ := by decide
theorem mnext_rl0 : mnext [1] rl0 = ⟨2, 2, 0, 0⟩ := by decide
theorem apply_take {ws : List Int} (h : 3 ≤ ws.length) (h0 : ws.getD 2 0 = 0) : mapply ws ⟨3, 2, 0, 1⟩ = (ws.set 2 1, 0, true) := by
  unfold mapply
  rw [if_neg (by simp; omega), if_neg (by simp), if_pos rfl]
  have : ws.getD (2 : Int).toNat 0 = 0 := h0
  rw [if_pos this, this]
  rfl
theorem apply_fail {ws : List Int} (h : 3 ≤ ws.length) (h0 : ws.getD 2 0 = 1) : mapply ws ⟨3, 2, 0, 1⟩ = (ws, 1, false) := by
  unfold mapply
  rw [if_neg (by simp; omega), if_neg (by simp), if_pos rfl]
  have : ws.getD (2 : Int).toNat 0 = 1 := h0
  rw [this, if_neg (by simp)]
theorem apply_back {ws : List Int} (h : 3 ≤ ws.length) : mapply ws ⟨2, 2, 0, 0⟩ = (ws.set 2 0, 0, false) := by
  unfold mapply
  rw [if_neg (by simp; omega), if_pos (by simp)]
  rfl
theorem Hl.take {s : St} (H : Hl none s) {k : Nat} (hk : k < 4) : Hl (some k) (stp s k) := by
  have hl4 : k < s.ms.length := by rw [H.len]; exact hk
  have hx : s.ms[k]? = some s.ms[k] := List.getElem?_eq_getElem hl4
  have e := H.ms k _ hx
  rw [if_neg (by simp)] at e
  rw [e] at hx
  have e1 : stp s k = stS s k tk0 := by unfold stp; rw [hx]; rfl
  have e2 : mapply s.ws (mnext s.l tk0) = (s.ws.set 2 1, 0, true) := by rw [H.l, mnext_tk0]; exact apply_take H.wl H.wd
  rw [e1]
  unfold stS
  dsimp only
  rw [e2]
  refine ⟨H.l, by simp [H.len], by simp [H.wl], ?_, fun i x hi => ?_⟩
  · have := H.wl
    show (s.ws.set 2 1).getD 2 0 = 1
    simp [List.getD, List.getElem?_set_self (show 2 < s.ws.length by omega)]
  · rcases set_get hi with ⟨rfl, rfl⟩ | ⟨hne, h⟩
    · rw [if_pos rfl]; rfl
    · rw [if_neg (by simpa using hne), H.ms i x h, if_neg (by simp)]
theorem Hl.fail {s : St} {j : Nat} (H : Hl (some j) s) {k : Nat} (hk : k < 4) (hne : k ≠ j) : Hl (some j) (stp s k) ∧ (stp s k).ms[k]? = some tk0 := by
  have hl4 : k < s.ms.length := by rw [H.len]; exact hk
  have hx : s.ms[k]? = some s.ms[k] := List.getElem?_eq_getElem hl4
  have e := H.ms k _ hx
  rw [if_neg (by simpa using Ne.symm hne)] at e
  rw [e] at hx
  have e1 : stp s k = stS s k tk0 := by unfold stp; rw [hx]; rfl
  have e2 : mapply s.ws (mnext s.l tk0) = (s.ws, 1, false) := by rw [H.l, mnext_tk0]; exact apply_fail H.wl H.wd
  rw [e1]
  unfold stS
  dsimp only
  rw [e2]
  have e3 : mres s.l tk0 1 false = tk0 := rfl
  refine ⟨⟨H.l, by simp [H.len], H.wl, H.wd, fun i x hi => ?_⟩, ?_⟩
  · rcases set_get hi with ⟨rfl, rfl⟩ | ⟨_, h⟩
    · rw [if_neg (by simpa using Ne.symm hne)]; exact e3
    · exact H.ms i x h
  · show (s.ms.set k (mres s.l tk0 1 false))[k]? = some tk0
    rw [e3]
    exact List.getElem?_set_self (by rw [H.len]; exact hk)
/-- The holder gives it back, and wants it again. -/
theorem Hl.back {s : St} {k : Nat} (H : Hl (some k) s) (hk : k < 4) : Hl none { stp { s with ms := s.ms.set k rl0 } k with ms := (stp { s with ms := s.ms.set k rl0 } k).ms.set k tk0 } := by
  have hl4 : k < s.ms.length := by rw [H.len]; exact hk
  have hx : (s.ms.set k rl0)[k]? = some rl0 := List.getElem?_set_self hl4
  have e1 : stp { s with ms := s.ms.set k rl0 } k = stS { s with ms := s.ms.set k rl0 } k rl0 := by unfold stp; rw [hx]; rfl
  have e2 : mapply s.ws (mnext s.l rl0) = (s.ws.set 2 0, 0, false) := by rw [H.l, mnext_rl0]; exact apply_back H.wl
  rw [e1]
  unfold stS
  dsimp only
  rw [e2]
  refine ⟨H.l, by simp [H.len], by simp [H.wl], ?_, fun i x hi => ?_⟩
  · have := H.wl
    show (s.ws.set 2 0).getD 2 0 = 0
    simp [List.getD, List.getElem?_set_self (show 2 < s.ws.length by omega)]
  · rw [if_neg (by simp)]
    rcases set_get hi with ⟨rfl, rfl⟩ | ⟨hne, h⟩
    · rfl
    · rcases set_get h with ⟨h1, -⟩ | ⟨_, h⟩
      · exact absurd h1 hne
      · rcases set_get h with ⟨h1, -⟩ | ⟨_, h⟩
        · exact absurd h1 hne
        · rw [H.ms i x h, if_neg (by simpa using hne)]
end Go.Proofs.Ytadaoobdnnleaaa
