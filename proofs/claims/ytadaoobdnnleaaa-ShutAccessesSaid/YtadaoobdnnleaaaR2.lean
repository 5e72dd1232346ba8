/- Contracts: the small functions of a ring (ring). -/
import Derived.Test.YtadaoobdnnleaaaR1
namespace Go.Proofs.Ytadaoobdnnleaaa
open Go.RowKit
set_option linter.unusedVariables false
attribute [local irreducible] Go.bits
theorem ringTail_any (w : World) (cs : Array Value) (code pc : Int) (ws ls : List Int) (h : Fr w cs code pc ws ls) (q : Int) (hq : ls.getD 0 0 = q) :
    Calls Try.prog 107 #[.agg cs] w fun e w' => e = .returned (.int .i64 q) ∧ Below w.heap.size w w' := by
  obtain ⟨A, n, c, B, m, d, rfl, hh⟩ := id h
  have HS := hide (fun o1 => show Calls Try.prog 60 #[.agg #[.int .i64 code, .int .i64 pc, .slice A n c, .slice B m d, .slice none 0 0], .int .i64 0] (w.alloc o1) fun e w' => e = .returned (.int .i64 q) ∧ Below (w.alloc o1).heap.size (w.alloc o1) w' by
    have := int_any _ _ code pc ws ls (h.below (below_new w o1)) 0 (by omega)
    rwa [hq] at this)
  clear h hh hq
  go_enter Try.func107, Try.ntmps107
  go_wp2_with fail
  refine (HS.out _).mono ?_
  rintro e w2 ⟨rfl, hb⟩
  go_wp2
  go_ret
  exact ⟨rfl, below_next (below_new _ _) hb⟩
theorem ringLoad_any (w : World) (a : Int) :
    Calls Try.prog 106 #[.int .i64 a] w fun e w' => e = .returned (.agg (Acc.cells ⟨1, a, 0, 0⟩)) ∧ Below w.heap.size w w' := by
  go_enter Try.func106, Try.ntmps106
  go_wp2
  exact bodyPost_ret (v := .agg (Acc.cells ⟨1, a, 0, 0⟩)) (by simp [results, Try.results106, go_sem, Acc.cells]) rfl ⟨rfl, below_new _ _⟩
/-- Two blocks of the call's own: its box and its result. -/
structure E2 (w w2 : World) (t1 t2 : TypeId) (c1 c2 : Array Value) : Prop where
  b1 : Bk w2 w.heap.size t1 c1
  b2 : Bk w2 (w.heap.size + 1) t2 c2
  bel : Below w.heap.size w w2
theorem E2.of {w w2 : World} {t1 t2 : TypeId} {c1 c2 : Array Value} (hb : Below ((w.alloc (.cells c1 t1)).alloc (.cells c2 t2)).heap.size ((w.alloc (.cells c1 t1)).alloc (.cells c2 t2)) w2) : E2 w w2 t1 t2 c1 c2 := by
  have h1 : Bk ((w.alloc (.cells c1 t1)).alloc (.cells c2 t2)) w.heap.size t1 c1 := (Bk.new w t1 c1).alloc _
  obtain ⟨h3, h4⟩ := at_second hb
  exact ⟨h1.below hb h1.lt, h3, h4⟩
theorem E2.next {w w2 w3 : World} {t1 t2 : TypeId} {c1 c2 : Array Value} (h : E2 w w2 t1 t2 c1 c2) (hb : Below w2.heap.size w2 w3) : E2 w w3 t1 t2 c1 c2 :=
  ⟨h.b1.below hb h.b1.lt, h.b2.below hb h.b2.lt, h.bel.trans (hb.mono h.bel.size)⟩
end Go.Proofs.Ytadaoobdnnleaaa
