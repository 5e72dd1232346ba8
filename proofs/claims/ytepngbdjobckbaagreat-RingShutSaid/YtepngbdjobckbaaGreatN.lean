/- Several texts in one. -/
import Derived.Test.YtepngbdjobckbaaGreatGM
import Derived.Test.YtepngbdjobckbaaGreatGF
import Derived.Test.YtepngbdjobckbaaGreatGU
section
namespace Go.Proofs.YtepngbdjobckbaaGreat
open Go.RowKit
set_option linter.unusedVariables false
attribute [local irreducible] Go.bits

theorem access_any (w : World) (k a o n : Int) :
    Calls Tryz.prog 78 #[.int .i64 k, .int .i64 a, .int .u64 o, .int .u64 n] w fun e w' => e = .returned (.agg (Acc.cells ⟨k, a, o, n⟩)) ∧ Below w.heap.size w w' := by
  go_enter Tryz.func78, Tryz.ntmps78
  go_wp2
  exact bodyPost_ret (v := .agg (Acc.cells ⟨k, a, o, n⟩)) (by simp [results, Tryz.results78, go_sem, Acc.cells]) rfl ⟨rfl, below_new _ _⟩
theorem mnew_any (w : World) (A : Option Addr) (n c : Nat) (B : Option Addr) (m d : Nat) (t : Int) (what ch th : Nat) :
    Calls Tryz.prog 31 #[.agg #[.slice A n c, .slice B m d, .int .i64 t], .int .i64 what, .int .i64 ch, .int .i64 th] w fun e w' => e = .returned (.agg (Mc.cells A n c B m d t ⟨what, 1, ch, th, 0, 0, 0, 0, 0, 0, 0⟩)) ∧ Below w.heap.size w w' := by
  go_enter Tryz.func31, Tryz.ntmps31
  go_wp2
  exact bodyPost_ret (v := .agg (Mc.cells A n c B m d t ⟨what, 1, ch, th, 0, 0, 0, 0, 0, 0, 0⟩)) (by simp [results, Tryz.results31, go_sem, Mc.cells]) rfl ⟨rfl, (below_new _ _).alloc (by simp) _⟩
theorem mseq_any (w : World) (A : Option Addr) (n c : Nat) (B : Option Addr) (m d : Nat) (t : Int) (x : Mc) :
    Calls Tryz.prog 80 #[.agg (Mc.cells A n c B m d t x)] w fun e w' => e = .returned (.int .u64 (x.t / 2)) ∧ Below w.heap.size w w' := by
  unfold Mc.cells
  go_enter Tryz.func80, Tryz.ntmps80
  go_wp2_with (go_at_call 11; refine (rseq_any _ _).mono ?_; rintro e w' ⟨rfl, rfl⟩)
  go_ret
  exact ⟨rfl, below_new _ _⟩
theorem mcap_any (w : World) (A : Option Addr) (n c : Nat) (B : Option Addr) (m d : Nat) (t : Int) (x : Mc) (l : List Int) (h : Cf w A n l) (hk : x.ch < n) :
    Calls Tryz.prog 104 #[.agg (Mc.cells A n c B m d t x)] w fun e w' => e = .returned (.int .u64 (l.getD x.ch 0)) ∧ Below w.heap.size w w' := by
  obtain ⟨ad, rfl, hc, h1, h2⟩ := h.at_ hk
  have hb := block_lt hc
  have hu := hide (show IntKind.u64.wrap (l.getD x.ch 0) = l.getD x.ch 0 by rw [wrap_u64]; omega)
  generalize l.getD x.ch 0 = y at *
  clear h
  unfold Mc.cells
  go_enter Tryz.func104, Tryz.ntmps104
  go_wp2
  go_ret
  exact ⟨ret_eq (by first | rfl | simp [hu.out]), below_new _ _⟩
set_option maxRecDepth 100000 in
theorem mend_any (w : World) (A : Option Addr) (n c : Nat) (B : Option Addr) (m d : Nat) (t : Int) (x : Mc) (k v : Int) :
    Calls Tryz.prog 86 #[.agg (Mc.cells A n c B m d t x), .int .i64 k, .int .u64 v] w fun e w' => e = .returned (.agg (Mc.cells A n c B m d t (mend x k v))) ∧ Below w.heap.size w w' := by
  unfold Mc.cells mend
  go_enter Tryz.func86, Tryz.ntmps86
  go_wp2
  exact bodyPost_ret (v := .agg (Mc.cells A n c B m d t (mend x k v))) (by simp [results, Tryz.results86, go_sem, Mc.cells, mend]) rfl ⟨rfl, (below_new _ _).alloc (by simp) _⟩
set_option maxRecDepth 100000 in
theorem mto_any (w : World) (A : Option Addr) (n c : Nat) (B : Option Addr) (m d : Nat) (t : Int) (x : Mc) (i : Nat) :
    Calls Tryz.prog 91 #[.agg (Mc.cells A n c B m d t x), .int .i64 i] w fun e w' => e = .returned (.agg (Mc.cells A n c B m d t (mto x i))) ∧ Below w.heap.size w w' := by
  unfold Mc.cells mto
  go_enter Tryz.func91, Tryz.ntmps91
  go_wp2
  exact bodyPost_ret (v := .agg (Mc.cells A n c B m d t (mto x i))) (by simp [results, Tryz.results91, go_sem, Mc.cells, mto]) rfl ⟨rfl, (below_new _ _).alloc (by simp) _⟩
end Go.Proofs.YtepngbdjobckbaaGreat
end
section
namespace Go.Proofs.YtepngbdjobckbaaGreat
open Go.RowKit
set_option linter.unusedVariables false
attribute [local irreducible] Go.bits

theorem Tryz.mc_und : ∃ fs, Tryz.prog.underlying 81 = some (.struct fs) := ⟨_, Tryz.underlying81⟩
theorem Tryz.mc_inf : (Tryz.prog.info? 81).map (·.size) = some 14 := by kernel_rfl
theorem bk14 {w : World} {g : Nat} {t : TypeId} {a0 a1 a2 a3 a4 a5 a6 a7 a8 a9 a10 a11 a12 a13 : Value} (h : Bk w g t #[a0, a1, a2, a3, a4, a5, a6, a7, a8, a9, a10, a11, a12, a13]) :
    w.cell? ⟨g, 0, none⟩ = some a0 ∧ w.cell? ⟨g, 1, none⟩ = some a1 ∧ w.cell? ⟨g, 2, none⟩ = some a2 ∧ w.cell? ⟨g, 3, none⟩ = some a3 ∧ w.cell? ⟨g, 4, none⟩ = some a4 ∧ w.cell? ⟨g, 5, none⟩ = some a5 ∧ w.cell? ⟨g, 6, none⟩ = some a6 ∧
    w.cell? ⟨g, 7, none⟩ = some a7 ∧ w.cell? ⟨g, 8, none⟩ = some a8 ∧ w.cell? ⟨g, 9, none⟩ = some a9 ∧ w.cell? ⟨g, 10, none⟩ = some a10 ∧ w.cell? ⟨g, 11, none⟩ = some a11 ∧ w.cell? ⟨g, 12, none⟩ = some a12 ∧ w.cell? ⟨g, 13, none⟩ = some a13 ∧ ∀ i, w.frozen? ⟨g, i, none⟩ = false :=
  ⟨h.cell 0, h.cell 1, h.cell 2, h.cell 3, h.cell 4, h.cell 5, h.cell 6, h.cell 7, h.cell 8, h.cell 9, h.cell 10, h.cell 11, h.cell 12, h.cell 13, h.frozen⟩
theorem bk4 {w : World} {g : Nat} {t : TypeId} {a0 a1 a2 a3 : Value} (h : Bk w g t #[a0, a1, a2, a3]) :
    w.cell? ⟨g, 0, none⟩ = some a0 ∧ w.cell? ⟨g, 1, none⟩ = some a1 ∧ w.cell? ⟨g, 2, none⟩ = some a2 ∧ w.cell? ⟨g, 3, none⟩ = some a3 ∧ ∀ i, w.frozen? ⟨g, i, none⟩ = false :=
  ⟨h.cell 0, h.cell 1, h.cell 2, h.cell 3, h.frozen⟩
section
variable (A : Option Addr) (n c : Nat) (B : Option Addr) (m d : Nat) (t : Int) (x : Mc)
theorem mc_size : (Mc.cells A n c B m d t x).size = 14 := rfl
theorem mc_one : (Mc.cells A n c B m d t x).all (·.oneCell') = true := by
  refine all_oneCell_toArray (cs := [_, _, _, _, _, _, _, _, _, _, _, _, _, _]) fun v hv => ?_
  simp only [List.mem_cons, List.not_mem_nil, or_false] at hv
  rcases hv with rfl | rfl | rfl | rfl | rfl | rfl | rfl | rfl | rfl | rfl | rfl | rfl | rfl | rfl <;> rfl
end
/-- Three blocks of the call's own: its two boxes and its result, in a later world. -/
structure E3 (w w2 : World) (t1 t2 t3 : TypeId) (c1 c2 c3 : Array Value) : Prop where
  b1 : Bk w2 w.heap.size t1 c1
  b2 : Bk w2 (w.heap.size + 1) t2 c2
  b3 : Bk w2 (w.heap.size + 1 + 1) t3 c3
  bel : Below w.heap.size w w2
theorem E3.of {w w2 : World} {t1 t2 t3 : TypeId} {c1 c2 c3 : Array Value} (hb : Below (((w.alloc (.cells c1 t1)).alloc (.cells c2 t2)).alloc (.cells c3 t3)).heap.size (((w.alloc (.cells c1 t1)).alloc (.cells c2 t2)).alloc (.cells c3 t3)) w2) : E3 w w2 t1 t2 t3 c1 c2 c3 := by
  have h1 : Bk (((w.alloc (.cells c1 t1)).alloc (.cells c2 t2)).alloc (.cells c3 t3)) w.heap.size t1 c1 := ((Bk.new w t1 c1).alloc _).alloc _
  have h2 : Bk (((w.alloc (.cells c1 t1)).alloc (.cells c2 t2)).alloc (.cells c3 t3)) (w.heap.size + 1) t2 c2 := by simpa using (Bk.new (w.alloc (.cells c1 t1)) t2 c2).alloc _
  obtain ⟨h3, h4⟩ := at_third hb
  exact ⟨h1.below hb h1.lt, h2.below hb h2.lt, h3, h4⟩
theorem E3.next {w w2 w3 : World} {t1 t2 t3 : TypeId} {c1 c2 c3 : Array Value} (h : E3 w w2 t1 t2 t3 c1 c2 c3) (hb : Below w2.heap.size w2 w3) : E3 w w3 t1 t2 t3 c1 c2 c3 :=
  ⟨h.b1.below hb h.b1.lt, h.b2.below hb h.b2.lt, h.b3.below hb h.b3.lt, h.bel.trans (hb.mono h.bel.size)⟩
end Go.Proofs.YtepngbdjobckbaaGreat
end
