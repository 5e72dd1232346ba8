/- Contracts: the document's machines behind an answer (chanfabricref7): a theorem a branch. Printed by gen/mkN2.py. -/
import Derived.Test.YtadaoobdnnleaaaN
import Derived.Test.YtadaoobdnnleaaaR
namespace Go.Proofs.Ytadaoobdnnleaaa
open Go.RowKit
set_option linter.unusedVariables false
attribute [local irreducible] Go.bits

theorem Try.mc_und : ∃ fs, Try.prog.underlying 52 = some (.struct fs) := ⟨_, Try.underlying52⟩
theorem Try.mc_inf : (Try.prog.info? 52).map (·.size) = some 14 := by kernel_rfl
theorem bk14 {w : World} {g : Nat} {t : TypeId} {a0 a1 a2 a3 a4 a5 a6 a7 a8 a9 a10 a11 a12 a13 : Value} (h : Bk w g t #[a0, a1, a2, a3, a4, a5, a6, a7, a8, a9, a10, a11, a12, a13]) :
    w.cell? ⟨g, 0, none⟩ = some a0 ∧ w.cell? ⟨g, 1, none⟩ = some a1 ∧ w.cell? ⟨g, 2, none⟩ = some a2 ∧ w.cell? ⟨g, 3, none⟩ = some a3 ∧ w.cell? ⟨g, 4, none⟩ = some a4 ∧ w.cell? ⟨g, 5, none⟩ = some a5 ∧ w.cell? ⟨g, 6, none⟩ = some a6 ∧
    w.cell? ⟨g, 7, none⟩ = some a7 ∧ w.cell? ⟨g, 8, none⟩ = some a8 ∧ w.cell? ⟨g, 9, none⟩ = some a9 ∧ w.cell? ⟨g, 10, none⟩ = some a10 ∧ w.cell? ⟨g, 11, none⟩ = some a11 ∧ w.cell? ⟨g, 12, none⟩ = some a12 ∧ w.cell? ⟨g, 13, none⟩ = some a13 ∧ ∀ i, w.frozen? ⟨g, i, none⟩ = false :=
  ⟨h.cell 0, h.cell 1, h.cell 2, h.cell 3, h.cell 4, h.cell 5, h.cell 6, h.cell 7, h.cell 8, h.cell 9, h.cell 10, h.cell 11, h.cell 12, h.cell 13, h.frozen⟩
theorem bk4 {w : World} {g : Nat} {t : TypeId} {a0 a1 a2 a3 : Value} (h : Bk w g t #[a0, a1, a2, a3]) :
    w.cell? ⟨g, 0, none⟩ = some a0 ∧ w.cell? ⟨g, 1, none⟩ = some a1 ∧ w.cell? ⟨g, 2, none⟩ = some a2 ∧ w.cell? ⟨g, 3, none⟩ = some a3 ∧ ∀ i, w.frozen? ⟨g, i, none⟩ = false :=
  ⟨h.cell 0, h.cell 1, h.cell 2, h.cell 3, h.frozen⟩
section
variable (A : Option Addr) (n c : Nat) (B : Option Addr) (m d : Nat) (t : Int) (x : Mc)
theorem mc_size : (Mc.cells A n c B m d t x).size = 14 := rfl
theorem mc_one : (Mc.cells A n c B m d t x).all (·.oneCell') = true := by
  refine all_oneCell_toArray (cs := [_, _, _, _, _, _, _, _, _, _, _, _, _, _]) fun v hv => ?_
  simp only [List.mem_cons, List.not_mem_nil, or_false] at hv
  rcases hv with rfl | rfl | rfl | rfl | rfl | rfl | rfl | rfl | rfl | rfl | rfl | rfl | rfl | rfl <;> rfl
end
/-- Three blocks of the call's own: its two boxes and its result, in a later world. -/
structure E3 (w w2 : World) (t1 t2 t3 : TypeId) (c1 c2 c3 : Array Value) : Prop where
  b1 : Bk w2 w.heap.size t1 c1
  b2 : Bk w2 (w.heap.size + 1) t2 c2
  b3 : Bk w2 (w.heap.size + 1 + 1) t3 c3
  bel : Below w.heap.size w w2
theorem E3.of {w w2 : World} {t1 t2 t3 : TypeId} {c1 c2 c3 : Array Value} (hb : Below (((w.alloc (.cells c1 t1)).alloc (.cells c2 t2)).alloc (.cells c3 t3)).heap.size (((w.alloc (.cells c1 t1)).alloc (.cells c2 t2)).alloc (.cells c3 t3)) w2) : E3 w w2 t1 t2 t3 c1 c2 c3 := by
  have h1 : Bk (((w.alloc (.cells c1 t1)).alloc (.cells c2 t2)).alloc (.cells c3 t3)) w.heap.size t1 c1 := ((Bk.new w t1 c1).alloc _).alloc _
  have h2 : Bk (((w.alloc (.cells c1 t1)).alloc (.cells c2 t2)).alloc (.cells c3 t3)) (w.heap.size + 1) t2 c2 := by simpa using (Bk.new (w.alloc (.cells c1 t1)) t2 c2).alloc _
  obtain ⟨h3, h4⟩ := at_third hb
  exact ⟨h1.below hb h1.lt, h2.below hb h2.lt, h3, h4⟩
theorem E3.next {w w2 w3 : World} {t1 t2 t3 : TypeId} {c1 c2 c3 : Array Value} (h : E3 w w2 t1 t2 t3 c1 c2 c3) (hb : Below w2.heap.size w2 w3) : E3 w w3 t1 t2 t3 c1 c2 c3 :=
  ⟨h.b1.below hb h.b1.lt, h.b2.below hb h.b2.lt, h.b3.below hb h.b3.lt, h.bel.trans (hb.mono h.bel.size)⟩
end Go.Proofs.Ytadaoobdnnleaaa
