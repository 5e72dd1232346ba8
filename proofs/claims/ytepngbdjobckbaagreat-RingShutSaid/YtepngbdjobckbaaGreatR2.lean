/- Contracts: the small functions of a ring (ring). -/
import Derived.Test.YtepngbdjobckbaaGreatR1
namespace Go.Proofs.YtepngbdjobckbaaGreat
open Go.RowKit
set_option linter.unusedVariables false
attribute [local irreducible] Go.bits
theorem ringTail_any (w : World) (cs : Array Value) (code pc : Int) (ws ls : List Int) (h : Fr w cs code pc ws ls) (q : Int) (hq : ls.getD 0 0 = q) :
    Calls Tryz.prog 76 #[.agg cs] w fun e w' => e = .returned (.int .i64 q) ∧ Below w.heap.size w w' := by
  obtain ⟨A, n, c, B, m, d, rfl, hh⟩ := id h
  have HS := hide (fun o1 => show Calls Tryz.prog 103 #[.agg #[.int .i64 code, .int .i64 pc, .slice A n c, .slice B m d, .slice none 0 0], .int .i64 0] (w.alloc o1) fun e w' => e = .returned (.int .i64 q) ∧ Below (w.alloc o1).heap.size (w.alloc o1) w' by
    have := int_any _ _ code pc ws ls (h.below (below_new w o1)) 0 (by omega)
    rwa [hq] at this)
  clear h hh hq
  go_enter Tryz.func76, Tryz.ntmps76
  go_wp2_with fail
  refine (HS.out _).mono ?_
  rintro e w2 ⟨rfl, hb⟩
  go_wp2
  go_ret
  exact ⟨rfl, below_next (below_new _ _) hb⟩
theorem ringHead_any (w : World) (cs : Array Value) (code pc : Int) (ws ls : List Int) (h : Fr w cs code pc ws ls) (q : Int) (hq : ls.getD 1 0 = q) :
    Calls Tryz.prog 77 #[.agg cs] w fun e w' => e = .returned (.int .i64 q) ∧ Below w.heap.size w w' := by
  obtain ⟨A, n, c, B, m, d, rfl, hh⟩ := id h
  have HS := hide (fun o1 => show Calls Tryz.prog 103 #[.agg #[.int .i64 code, .int .i64 pc, .slice A n c, .slice B m d, .slice none 0 0], .int .i64 1] (w.alloc o1) fun e w' => e = .returned (.int .i64 q) ∧ Below (w.alloc o1).heap.size (w.alloc o1) w' by
    have := int_any _ _ code pc ws ls (h.below (below_new w o1)) 1 (by omega)
    rwa [hq] at this)
  clear h hh hq
  go_enter Tryz.func77, Tryz.ntmps77
  go_wp2_with fail
  refine (HS.out _).mono ?_
  rintro e w2 ⟨rfl, hb⟩
  go_wp2
  go_ret
  exact ⟨rfl, below_next (below_new _ _) hb⟩
theorem ringSize_any (w : World) (cs : Array Value) (code pc : Int) (ws ls : List Int) (h : Fr w cs code pc ws ls) (q : Int) (hq : ls.getD 3 0 = q) :
    Calls Tryz.prog 100 #[.agg cs] w fun e w' => e = .returned (.int .i64 q) ∧ Below w.heap.size w w' := by
  obtain ⟨A, n, c, B, m, d, rfl, hh⟩ := id h
  have HS := hide (fun o1 => show Calls Tryz.prog 103 #[.agg #[.int .i64 code, .int .i64 pc, .slice A n c, .slice B m d, .slice none 0 0], .int .i64 3] (w.alloc o1) fun e w' => e = .returned (.int .i64 q) ∧ Below (w.alloc o1).heap.size (w.alloc o1) w' by
    have := int_any _ _ code pc ws ls (h.below (below_new w o1)) 3 (by omega)
    rwa [hq] at this)
  clear h hh hq
  go_enter Tryz.func100, Tryz.ntmps100
  go_wp2_with fail
  refine (HS.out _).mono ?_
  rintro e w2 ⟨rfl, hb⟩
  go_wp2
  go_ret
  exact ⟨rfl, below_next (below_new _ _) hb⟩
theorem ringCap_any (w : World) (cs : Array Value) (code pc : Int) (ws ls : List Int) (h : Fr w cs code pc ws ls) (q : Int) (hq : ls.getD 4 0 = q) (h0 : 0 ≤ q) (h1 : q ≤ 1000) :
    Calls Tryz.prog 101 #[.agg cs] w fun e w' => e = .returned (.int .u64 q) ∧ Below w.heap.size w w' := by
  obtain ⟨A, n, c, B, m, d, rfl, hh⟩ := id h
  have HS := hide (fun o1 => show Calls Tryz.prog 103 #[.agg #[.int .i64 code, .int .i64 pc, .slice A n c, .slice B m d, .slice none 0 0], .int .i64 4] (w.alloc o1) fun e w' => e = .returned (.int .i64 q) ∧ Below (w.alloc o1).heap.size (w.alloc o1) w' by
    have := int_any _ _ code pc ws ls (h.below (below_new w o1)) 4 (by omega)
    rwa [hq] at this)
  have eq : IntKind.u64.wrap q = q := by rw [wrap_u64]; omega
  clear h hh hq
  go_enter Tryz.func101, Tryz.ntmps101
  go_wp2_with fail
  refine (HS.out _).mono ?_
  rintro e w2 ⟨rfl, hb⟩
  go_wp2
  go_ret
  exact ⟨rfl, below_next (below_new _ _) hb⟩
theorem ringLoad_any (w : World) (a : Int) :
    Calls Tryz.prog 75 #[.int .i64 a] w fun e w' => e = .returned (.agg (Acc.cells ⟨1, a, 0, 0⟩)) ∧ Below w.heap.size w w' := by
  go_enter Tryz.func75, Tryz.ntmps75
  go_wp2
  exact bodyPost_ret (v := .agg (Acc.cells ⟨1, a, 0, 0⟩)) (by simp [results, Tryz.results75, go_sem, Acc.cells]) rfl ⟨rfl, below_new _ _⟩
theorem ringCount_any (w : World) (t h : Int) :
    Calls Tryz.prog 59 #[.int .u64 t, .int .u64 h] w fun e w' => e = .returned (.int .u64 (rest (t / 2) h)) ∧ w = w' := by
  have e1 : (IntKind.u64.wrap (t / 2 - h)).tmod 9223372036854775808 = rest (t / 2) h := by
    rw [wrap_u64, Int.tmod_eq_emod_of_nonneg (by omega)]
    unfold rest
    omega
  have e2 : IntKind.u64.wrap (rest (t / 2) h) = rest (t / 2) h := by rw [wrap_u64]; unfold rest; omega
  generalize rest (t / 2) h = r at *
  go_enter Tryz.func59, Tryz.ntmps59
  go_wp2_with (go_at_call 92; refine (seq_any _ _).mono ?_; rintro e w' ⟨rfl, rfl⟩)
  go_ret
  exact ⟨rfl, rfl⟩
set_option maxHeartbeats 1000000 in
theorem ringSlot_any (w : World) (cs : Array Value) (code pc : Int) (ws ls : List Int) (h : Fr w cs code pc ws ls) (p z s q : Int) (hp : ls.getD 2 0 = p) (hz : ls.getD 3 0 = z) (h1 : 1 ≤ z) (h2 : z ≤ 16) (p1 : 0 ≤ p) (p2 : p ≤ 1000) (s0 : 0 ≤ s) (s1 : s ≤ 18446744073709551615) (hq : p + 2 * sl s z = q) :
    Calls Tryz.prog 97 #[.agg cs, .int .u64 s] w fun e w' => e = .returned (.int .i64 q) ∧ Below w.heap.size w w' := by
  obtain ⟨A, n, c, B, m, d, rfl, hh⟩ := id h
  have b3 := sl_bd s z h1
  have q1 := fun (u : Up (w.alloc (.cells #[.int .i64 code, .int .i64 pc, .slice A n c, .slice B m d, .slice none 0 0] 51))) => show Calls Tryz.prog 103 #[.agg #[.int .i64 code, .int .i64 pc, .slice A n c, .slice B m d, .slice none 0 0], .int .i64 2] u.1 fun e w' => e = .returned (.int .i64 p) ∧ Below u.1.heap.size u.1 w' by
    have := int_any u.1 _ code pc ws ls ((h.below (below_new w _)).below u.2) 2 (by omega)
    rwa [hp] at this
  have q2 := fun (u : Up (w.alloc (.cells #[.int .i64 code, .int .i64 pc, .slice A n c, .slice B m d, .slice none 0 0] 51))) => ringSize_any u.1 _ code pc ws ls ((h.below (below_new w _)).below u.2) z hz
  have q3 := fun W => slot_any s z W s0 s1 (by omega)
  have nb := Bk.new w 51 #[.int .i64 code, .int .i64 pc, .slice A n c, .slice B m d, .slice none 0 0]
  have c0 := fun u => up_cell (nb.cell 0) u
  have c1 := fun u => up_cell (nb.cell 1) u
  have c2 := fun u => up_cell (nb.cell 2) u
  have c3 := fun u => up_cell (nb.cell 3) u
  have c4 := fun u => up_cell (nb.cell 4) u
  generalize sl s z = y at *
  have Q1 := hide q1
  have Q2 := hide q2
  have Q3 := hide q3
  have HQ := hide hq
  clear h hh q1 q2 q3 nb hp hz hq
  go_enter Tryz.func97, Tryz.ntmps97
  go_wp2
  refine wp_region_up (by kernel_rfl) (by kernel_rfl) ?_
  repeat (go_big_quiet_step (first
    | (go_at_call 103; exact up_call (Q1.out _))
    | (go_at_call 100; exact up_call (Q2.out _))
    | (go_at_call 107; exact up_same (Q3.out _))))
  refine wpQuiet_nil ?_
  rintro _ ⟨u, rfl⟩
  clear c0 c1 c2 c3 c4
  go_wp2
  go_ret
  exact ⟨ret_int (by rw [← HQ.out]), below_next (below_new _ _) u.2⟩
/-- Two blocks of the call's own: its box and its result. -/
structure E2 (w w2 : World) (t1 t2 : TypeId) (c1 c2 : Array Value) : Prop where
  b1 : Bk w2 w.heap.size t1 c1
  b2 : Bk w2 (w.heap.size + 1) t2 c2
  bel : Below w.heap.size w w2
theorem E2.of {w w2 : World} {t1 t2 : TypeId} {c1 c2 : Array Value} (hb : Below ((w.alloc (.cells c1 t1)).alloc (.cells c2 t2)).heap.size ((w.alloc (.cells c1 t1)).alloc (.cells c2 t2)) w2) : E2 w w2 t1 t2 c1 c2 := by
  have h1 : Bk ((w.alloc (.cells c1 t1)).alloc (.cells c2 t2)) w.heap.size t1 c1 := (Bk.new w t1 c1).alloc _
  obtain ⟨h3, h4⟩ := at_second hb
  exact ⟨h1.below hb h1.lt, h3, h4⟩
theorem E2.next {w w2 w3 : World} {t1 t2 : TypeId} {c1 c2 : Array Value} (h : E2 w w2 t1 t2 c1 c2) (hb : Below w2.heap.size w2 w3) : E2 w w3 t1 t2 c1 c2 :=
  ⟨h.b1.below hb h.b1.lt, h.b2.below hb h.b2.lt, h.bel.trans (hb.mono h.bel.size)⟩
end Go.Proofs.YtepngbdjobckbaaGreat
