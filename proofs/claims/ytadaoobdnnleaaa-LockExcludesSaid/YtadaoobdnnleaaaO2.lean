/- Small machines in the plain: their accesses are within bounds, they stay machines, what a memory answers. No program in sight. -/
import Derived.Test.YtadaoobdnnleaaaO
namespace Go.Proofs.Ytadaoobdnnleaaa
open Go.RowKit
set_option linter.unusedVariables false

/-- Capacities. -/
def Cap (l : List Int) : Prop := l.length ≤ 8 ∧ ∀ x ∈ l, 0 ≤ x ∧ x ≤ 16
theorem Cap.at_ {l : List Int} (h : Cap l) {k : Nat} (hk : k < l.length) : 0 ≤ l.getD k 0 ∧ l.getD k 0 ≤ 16 := by
  refine h.2 _ ?_
  rw [List.getD, List.getElem?_eq_getElem hk]
  exact List.getElem_mem _
theorem Cap.tl {l : List Int} (h : Cap l) : ∀ k, k ≤ l.length → 0 ≤ tlN l k ∧ tlN l k ≤ 37 * k := by
  intro k
  induction k with
  | zero => intro _; simp [tlN]
  | succ k ih =>
    intro hk
    obtain ⟨h1, h2⟩ := h.at_ (show k < l.length by omega)
    have h3 := sz_bd _ h1 h2
    have h4 := ih (by omega)
    rw [tlN]
    omega
theorem sl_in (s y : Int) (h1 : 1 ≤ y) (h2 : y ≤ 16) : 0 ≤ sl s y ∧ sl s y < y := by
  unfold sl
  rw [if_neg (by omega)]
  exact ⟨Int.emod_nonneg _ (by omega), Int.emod_lt_of_pos _ (by omega)⟩
theorem nx_u (a b : Int) : u64 (nx a b) := by unfold u64 nx; omega
theorem pk_u (a : Int) (c : Bool) : u64 (pk a c) := by unfold u64 pk; cases c <;> simp <;> omega
theorem Mv.to {n : Nat} {x : Mc} (h : Mv n x) {i : Nat} (hi : i ≤ atMax x.what) : Mv n (mto x i) := ⟨h.w1, h.w2, hi, h.ch, h.th, h.t, h.h, h.v, h.ix, h.kd⟩
theorem Mv.end_ {n : Nat} {x : Mc} (h : Mv n x) (k v : Int) : Mv n (mend x k v) := ⟨h.w1, h.w2, Nat.zero_le _, h.ch, h.th, h.t, h.h, h.v, h.ix, h.kd⟩
theorem Mv.setT {n : Nat} {x : Mc} (h : Mv n x) {a : Int} (ha : u64 a) : Mv n { x with t := a } := ⟨h.w1, h.w2, h.hat, h.ch, h.th, ha, h.h, h.v, h.ix, h.kd⟩
theorem Mv.setH {n : Nat} {x : Mc} (h : Mv n x) {a : Int} (ha : u64 a) : Mv n { x with h := a } := ⟨h.w1, h.w2, h.hat, h.ch, h.th, h.t, ha, h.v, h.ix, h.kd⟩
theorem Mv.setV {n : Nat} {x : Mc} (h : Mv n x) {a : Int} (ha : u64 a) : Mv n { x with v := a } := ⟨h.w1, h.w2, h.hat, h.ch, h.th, h.t, h.h, ha, h.ix, h.kd⟩
theorem what_cases {w : Nat} (h1 : 1 ≤ w) (h2 : w ≤ 11) : w = 1 ∨ w = 2 ∨ w = 3 ∨ w = 4 ∨ w = 5 ∨ w = 6 ∨ w = 7 ∨ w = 8 ∨ w = 9 ∨ w = 10 ∨ w = 11 := by omega
theorem Mv.res {n : Nat} {l : List Int} {x : Mc} (h : Mv n x) {a : Int} (ha : u64 a) (y : Bool) : Mv n (mres l x a y) := by
  by_cases h0 : x.at_ = 0
  · rw [mres, if_pos h0]; exact h
  have w1 := h.w1
  have w2 := h.w2
  rw [mres, if_neg h0]
  unfold mpush mpop mshut mcount
  repeat' split
  all_goals first
    | (exfalso; omega)
    | exact h
    | exact h.end_ _ _
    | exact (h.setT ha).end_ _ _
    | exact h.to (by simp [atMax, *] <;> omega)
    | exact (h.setT ha).to (by simp [atMax, *] <;> omega)
    | exact (h.setH ha).to (by simp [atMax, *] <;> omega)
    | exact (h.setV ha).to (by simp [atMax, *] <;> omega)
/-- An access of a machine that has not ended. -/
structure Aok (a : Acc) : Prop where
  k : a.k = 1 ∨ a.k = 2 ∨ a.k = 3 ∨ a.k = 5 ∨ a.k = 6
  a1 : 0 ≤ a.a
  a2 : a.a ≤ 1000000
  n : u64 a.n
set_option maxHeartbeats 2000000 in
theorem mnext_ok {l : List Int} (hl : Cap l) {x : Mc} (h : Mv l.length x) (h0 : x.at_ ≠ 0) : Aok (mnext l x) := by
  have hw := what_cases h.w1 h.w2
  have hat := h.hat
  have hch := h.ch
  have hth := h.th
  have t1 := hl.tl x.ch (by omega)
  have t2 := hl.tl l.length (by omega)
  have h8 := hl.1
  have g := hl.at_ hch
  have g1 := sz_bd _ g.1 g.2
  have g2 := fun s => sl_in s _ g1.1 g1.2
  have z0 : u64 0 := by unfold u64; omega
  have z1 : u64 1 := by unfold u64; omega
  have z2 : u64 2 := by unfold u64; omega
  have z3 : u64 3 := by unfold u64; omega
  have z4 : u64 4 := by unfold u64; omega
  have zm : ∀ i : Int, u64 (i % 18446744073709551616) := fun i => by unfold u64; omega
  have s1 : ∀ s, 0 ≤ slN l x.ch s ∧ slN l x.ch s ≤ 1000 := fun s => by have := g2 s; unfold slN; omega
  have c1 : 0 ≤ clN l x.th ∧ clN l x.th ≤ 1000 := by unfold clN; omega
  have v0 := h.v
  have b0 : 0 ≤ tlN l x.ch ∧ tlN l x.ch ≤ 1000000 := by omega
  have b1 : 0 ≤ tlN l x.ch + 1 ∧ tlN l x.ch + 1 ≤ 1000000 := by omega
  have b2 : 0 ≤ tlN l x.ch + 2 ∧ tlN l x.ch + 2 ≤ 1000000 := by omega
  have S0 : ∀ s, 0 ≤ slN l x.ch s ∧ slN l x.ch s ≤ 1000000 := fun s => by have := s1 s; omega
  have S1 : ∀ s, 0 ≤ slN l x.ch s + 1 ∧ slN l x.ch s + 1 ≤ 1000000 := fun s => by have := s1 s; omega
  have C0 : 0 ≤ clN l x.th ∧ clN l x.th ≤ 1000000 := by omega
  have C1 : ∀ k : Int, 0 ≤ k → k ≤ 5 → 0 ≤ clN l x.th + k ∧ clN l x.th + k ≤ 1000000 := fun k _ _ => by omega
  have D1 := C1 1 (by omega) (by omega)
  have D2 := C1 2 (by omega) (by omega)
  have D3 := C1 3 (by omega) (by omega)
  have D4 := C1 4 (by omega) (by omega)
  clear t1 t2 g g1 g2 c1 s1 hat hth hch
  rw [mnext, if_neg h0]
  repeat' split
  all_goals
    refine ⟨by simp, ?_, ?_, ?_⟩
    · dsimp only
      first | exact b0.1 | exact b1.1 | exact b2.1 | exact (S0 _).1 | exact (S1 _).1 | exact C0.1 | exact D1.1 | exact D2.1 | exact D3.1 | exact D4.1
    · dsimp only
      first | exact b0.2 | exact b1.2 | exact b2.2 | exact (S0 _).2 | exact (S1 _).2 | exact C0.2 | exact D1.2 | exact D2.2 | exact D3.2 | exact D4.2
    · dsimp only
      first | exact z0 | exact z1 | exact z2 | exact z3 | exact z4 | exact nx_u _ _ | exact pk_u _ _ | exact zm _ | exact v0
theorem mapply_u {ws : List Int} (h : ∀ v ∈ ws, u64 v) {a : Acc} (hn : u64 a.n) : (∀ v ∈ (mapply ws a).1, u64 v) ∧ u64 (mapply ws a).2.1 ∧ (mapply ws a).1.length = ws.length := by
  have z0 : u64 0 := by unfold u64; omega
  have hs : ∀ i, ∀ v ∈ ws.set i a.n, u64 v := fun i v hv => by
    rcases List.mem_or_eq_of_mem_set hv with h1 | h1
    · exact h v h1
    · exact h1 ▸ hn
  have hg : u64 (ws.getD a.a.toNat 0) := by
    by_cases hlt : a.a.toNat < ws.length
    · rw [List.getD, List.getElem?_eq_getElem hlt]
      exact h _ (List.getElem_mem _)
    · rw [List.getD, List.getElem?_eq_none (by omega)]
      exact z0
  unfold mapply
  repeat' split
  all_goals exact ⟨by first | exact h | exact hs _, by first | exact z0 | exact hg, by simp⟩
end Go.Proofs.Ytadaoobdnnleaaa
