/- Words on small arrays: a block of a few numbers, a block of a few slices of numbers. No program in sight. -/
import Derived.Test.YtidncklgoaofpaaK
namespace Go.Proofs.Ytidncklgoaofpaa
open Go.RowKit

/-- Block g holds m numbers. -/
def NI (w : World) (g m : Nat) : Prop := g < w.heap.size ∧ ∀ k, k < m → ∃ x : Int, w.cell? ⟨g, k, none⟩ = some (.int .i64 x) ∧ -9223372036854775808 ≤ x ∧ x ≤ 9223372036854775807
theorem NI.below {w w' : World} {g m : Nat} (h : NI w g m) (hb : Below w.heap.size w w') : NI w' g m :=
  ⟨Nat.lt_of_lt_of_le h.1 hb.size, fun k hk => by
    obtain ⟨x, h1, h2⟩ := h.2 k hk
    exact ⟨x, by rw [hb.cell (p := ⟨g, k, none⟩) h.1]; exact h1, h2⟩⟩
theorem NI.drewN {w : World} {g m : Nat} (h : NI w g m) (q : Nat) : NI (w.drewN q) g m := h
theorem NI.new2 (w : World) (t : TypeId) (x y : Int) (hx : -9223372036854775808 ≤ x ∧ x ≤ 9223372036854775807) (hy : -9223372036854775808 ≤ y ∧ y ≤ 9223372036854775807) : NI (w.alloc (.cells #[.int .i64 x, .int .i64 y] t)) w.heap.size 2 := by
  refine ⟨by simp, fun j hj => ?_⟩
  have hj' : j = 0 ∨ j = 1 := by omega
  rcases hj' with rfl | rfl
  · exact ⟨_, (Bk.new _ _ _).cell 0, hx⟩
  · exact ⟨_, (Bk.new _ _ _).cell 1, hy⟩
theorem NI.new3 (w : World) (t : TypeId) (x y z : Int) (hx : -9223372036854775808 ≤ x ∧ x ≤ 9223372036854775807) (hy : -9223372036854775808 ≤ y ∧ y ≤ 9223372036854775807) (hz : -9223372036854775808 ≤ z ∧ z ≤ 9223372036854775807) :
    NI (w.alloc (.cells #[.int .i64 x, .int .i64 y, .int .i64 z] t)) w.heap.size 3 := by
  refine ⟨by simp, fun j hj => ?_⟩
  have hj' : j = 0 ∨ j = 1 ∨ j = 2 := by omega
  rcases hj' with rfl | rfl | rfl
  · exact ⟨_, (Bk.new _ _ _).cell 0, hx⟩
  · exact ⟨_, (Bk.new _ _ _).cell 1, hy⟩
  · exact ⟨_, (Bk.new _ _ _).cell 2, hz⟩
/-- Block g holds m slices of numbers, none longer than lim. -/
def NS (w : World) (g m lim : Nat) : Prop :=
  g < w.heap.size ∧ ∀ k, k < m → ∃ A n c l, w.cell? ⟨g, k, none⟩ = some (.slice A n c) ∧ IsI .i64 w A n l ∧ n ≤ lim
theorem NS.below {w w' : World} {g m lim : Nat} (h : NS w g m lim) (hb : Below w.heap.size w w') : NS w' g m lim :=
  ⟨Nat.lt_of_lt_of_le h.1 hb.size, fun k hk => by
    obtain ⟨A, n, c, l, h1, h2, h3⟩ := h.2 k hk
    exact ⟨A, n, c, l, by rw [hb.cell (p := ⟨g, k, none⟩) h.1]; exact h1, h2.below hb, h3⟩⟩
theorem NS.new2 {w : World} (t : TypeId) {lim : Nat} {A B : Option Addr} {n c m d : Nat} {l l' : List Int} (h1 : IsI .i64 w A n l) (h2 : IsI .i64 w B m l') (hn : n ≤ lim) (hm : m ≤ lim) :
    NS (w.alloc (.cells #[.slice A n c, .slice B m d] t)) w.heap.size 2 lim := by
  refine ⟨by simp, fun j hj => ?_⟩
  have hj' : j = 0 ∨ j = 1 := by omega
  rcases hj' with rfl | rfl
  · exact ⟨A, n, c, l, (Bk.new _ _ _).cell 0, h1.alloc _, hn⟩
  · exact ⟨B, m, d, l', (Bk.new _ _ _).cell 1, h2.alloc _, hm⟩
theorem NS.new3 {w : World} (t : TypeId) {lim : Nat} {A B C : Option Addr} {n c m d p e : Nat} {l l' l'' : List Int} (h1 : IsI .i64 w A n l) (h2 : IsI .i64 w B m l') (h3 : IsI .i64 w C p l'') (hn : n ≤ lim) (hm : m ≤ lim) (hp : p ≤ lim) :
    NS (w.alloc (.cells #[.slice A n c, .slice B m d, .slice C p e] t)) w.heap.size 3 lim := by
  refine ⟨by simp, fun j hj => ?_⟩
  have hj' : j = 0 ∨ j = 1 ∨ j = 2 := by omega
  rcases hj' with rfl | rfl | rfl
  · exact ⟨A, n, c, l, (Bk.new _ _ _).cell 0, h1.alloc _, hn⟩
  · exact ⟨B, m, d, l', (Bk.new _ _ _).cell 1, h2.alloc _, hm⟩
  · exact ⟨C, p, e, l'', (Bk.new _ _ _).cell 2, h3.alloc _, hp⟩
end Go.Proofs.Ytidncklgoaofpaa
