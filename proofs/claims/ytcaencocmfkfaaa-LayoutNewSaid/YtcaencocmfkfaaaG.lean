/- What Config and New share (chapter 5's seat). -/
import Derived.Test.YtcaencocmfkfaaaWd
import Derived.Test.YtcaencocmfkfaaaGL
import Derived.Test.YtcaencocmfkfaaaGU
namespace Go.Proofs.Ytcaencocmfkfaaa
open Go.RowKit
set_option linter.unusedVariables false
theorem bkm3 {w : World} {g : Nat} {t : TypeId} {a0 a1 a2 : Value} (h : Bk w g t #[a0, a1, a2]) :
    w.cell? ⟨g, 0, none⟩ = some a0 ∧ w.cell? ⟨g, 1, none⟩ = some a1 ∧ w.cell? ⟨g, 2, none⟩ = some a2 ∧ ∀ i, w.frozen? ⟨g, i, none⟩ = false :=
  ⟨h.cell 0, h.cell 1, h.cell 2, h.frozen⟩

/-- Four blocks of the call's own, in a later world. -/
structure E4 (w w2 : World) (t1 t2 t3 t4 : TypeId) (c1 c2 c3 c4 : Array Value) : Prop where
  b1 : Bk w2 w.heap.size t1 c1
  b2 : Bk w2 (w.heap.size + 1) t2 c2
  b3 : Bk w2 (w.heap.size + 1 + 1) t3 c3
  b4 : Bk w2 (w.heap.size + 1 + 1 + 1) t4 c4
  bel : Below w.heap.size w w2
theorem E4.of {w w2 : World} {t1 t2 t3 t4 : TypeId} {c1 c2 c3 c4 : Array Value}
    (hb : Below ((((w.alloc (.cells c1 t1)).alloc (.cells c2 t2)).alloc (.cells c3 t3)).alloc (.cells c4 t4)).heap.size ((((w.alloc (.cells c1 t1)).alloc (.cells c2 t2)).alloc (.cells c3 t3)).alloc (.cells c4 t4)) w2) : E4 w w2 t1 t2 t3 t4 c1 c2 c3 c4 := by
  have h1 : Bk ((((w.alloc (.cells c1 t1)).alloc (.cells c2 t2)).alloc (.cells c3 t3)).alloc (.cells c4 t4)) w.heap.size t1 c1 := (((Bk.new w t1 c1).alloc _).alloc _).alloc _
  have h2 : Bk ((((w.alloc (.cells c1 t1)).alloc (.cells c2 t2)).alloc (.cells c3 t3)).alloc (.cells c4 t4)) (w.heap.size + 1) t2 c2 := by simpa using ((Bk.new (w.alloc (.cells c1 t1)) t2 c2).alloc _).alloc _
  have h3 : Bk ((((w.alloc (.cells c1 t1)).alloc (.cells c2 t2)).alloc (.cells c3 t3)).alloc (.cells c4 t4)) (w.heap.size + 1 + 1) t3 c3 := by simpa using (Bk.new ((w.alloc (.cells c1 t1)).alloc (.cells c2 t2)) t3 c3).alloc _
  have h4 : Bk ((((w.alloc (.cells c1 t1)).alloc (.cells c2 t2)).alloc (.cells c3 t3)).alloc (.cells c4 t4)) (w.heap.size + 1 + 1 + 1) t4 c4 := by simpa using Bk.new (((w.alloc (.cells c1 t1)).alloc (.cells c2 t2)).alloc (.cells c3 t3)) t4 c4
  refine ⟨h1.below hb h1.lt, h2.below hb h2.lt, h3.below hb h3.lt, h4.below hb h4.lt, ?_⟩
  exact ((((below_new w _).alloc (by simp) _).alloc (by simp; omega) _).alloc (by simp; omega) _).trans (hb.mono (by simp; omega))
theorem E4.next {w w2 w3 : World} {t1 t2 t3 t4 : TypeId} {c1 c2 c3 c4 : Array Value} (h : E4 w w2 t1 t2 t3 t4 c1 c2 c3 c4) (hb : Below w2.heap.size w2 w3) : E4 w w3 t1 t2 t3 t4 c1 c2 c3 c4 :=
  ⟨h.b1.below hb h.b1.lt, h.b2.below hb h.b2.lt, h.b3.below hb h.b3.lt, h.b4.below hb h.b4.lt, h.bel.trans (hb.mono h.bel.size)⟩
theorem Try.u64_inf : (Try.prog.info? 33).map (fun i => (i.zero, i.size, i.bytes)) = some (some (.int .u64 0), 1, 8) := by kernel_rfl
end Go.Proofs.Ytcaencocmfkfaaa
