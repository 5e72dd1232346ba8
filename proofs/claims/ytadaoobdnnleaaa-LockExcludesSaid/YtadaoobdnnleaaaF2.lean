/- Contracts: the outcome of a frame (frame.End and the Ends of the packages). -/
import Derived.Test.YtadaoobdnnleaaaF
namespace Go.Proofs.Ytadaoobdnnleaaa
open Go.RowKit
set_option linter.unusedVariables false

theorem fr_up {w : World} {cs : Array Value} {code pc : Int} {ws ls : List Int} (h : Fr w cs code pc ws ls) (u : Up w) : Fr u.1 cs code pc ws ls := h.below u.2
theorem up_frozen {w : World} {p : Addr} {v : Value} (hc : w.cell? p = some v) (h : w.frozen? p = false) (u : Up w) : u.1.frozen? p = false := (u.2.frozen (block_lt hc)).trans h
set_option maxRecDepth 100000 in
theorem end_yes (w : World) (cs : Array Value) (code : Int) (ws ls : List Int) (h : Fr w cs code (-1) ws ls) :
    Calls Try.prog 58 #[.agg cs] w fun e w' => e = .returned (.tuple #[.agg #[.int .i64 code, .int .u64 (ws.getD 0 0)], .bool true]) ∧ Below w.heap.size w w' := by
  obtain ⟨A, n, c, B, m, d, rfl, hh⟩ := id h
  have HS : Hid (∀ o1 o2 (u : Up ((w.alloc o1).alloc o2)), Calls Try.prog 90 #[.agg #[.int .i64 code, .int .i64 (-1), .slice A n c, .slice B m d, .slice none 0 0], .int .i64 0] u.1 fun e w' => e = .returned (.int .u64 (ws.getD 0 0)) ∧ Below u.1.heap.size u.1 w') := by
    intro o1 o2 u
    have h2 := fr_up ((h.below (below_new w o1)).below (below_new _ o2)) u
    exact word_any u.1 _ code (-1) ws ls h2 0 (by omega)
  generalize ws.getD 0 0 = x at HS ⊢
  clear h hh
  have B1 : Bk ((w.alloc (.cells #[.int .i64 code, .int .i64 (-1), .slice A n c, .slice B m d, .slice none 0 0] 55)).alloc (.cells #[.int .i64 0, .int .u64 0] 50)) w.heap.size 55 #[.int .i64 code, .int .i64 (-1), .slice A n c, .slice B m d, .slice none 0 0] := (Bk.new _ _ _).alloc _
  have B2 : Bk ((w.alloc (.cells #[.int .i64 code, .int .i64 (-1), .slice A n c, .slice B m d, .slice none 0 0] 55)).alloc (.cells #[.int .i64 0, .int .u64 0] 50)) (w.heap.size + 1) 50 #[.int .i64 0, .int .u64 0] := by
    simpa using Bk.new (w.alloc (.cells #[.int .i64 code, .int .i64 (-1), .slice A n c, .slice B m d, .slice none 0 0] 55)) 50 #[.int .i64 0, .int .u64 0]
  obtain ⟨c0, c1, c2, c3, c4, f1⟩ := bk5 B1
  have K0 := hide (up_cell c0)
  have K1 := hide (up_cell c1)
  have K2 := hide (up_cell c2)
  have K3 := hide (up_cell c3)
  have K4 := hide (up_cell c4)
  have R0 := hide (up_cell (B2.cell 0))
  have R1 := hide (up_cell (B2.cell 1))
  have G0 := hide (up_frozen (B2.cell 0) (B2.frozen 0))
  have G1 := hide (up_frozen (B2.cell 1) (B2.frozen 1))
  clear B1 B2 c0 c1 c2 c3 c4 f1
  go_enter Try.func58, Try.ntmps58
  go_wp2
  have k0 := K0.out
  have k1 := K1.out
  have k2 := K2.out
  have k3 := K3.out
  have k4 := K4.out
  refine wp_region_up_tail 5 (by kernel_rfl) (by kernel_rfl) ?_
  simp only [List.take_succ_cons, List.take_zero, List.drop_succ_cons, List.drop_zero]
  repeat (go_big_quiet_step (first
    | (go_at_call 90; exact up_call (HS.out _ _ _))))
  refine wpQuiet_nil ?_
  intro u
  have hbu := hide u.2
  have r0 := R0.out u
  have r1 := R1.out u
  have g0 := G0.out u
  have g1 := G1.out u
  clear k0 k1 k2 k3 k4 K0 K1 K2 K3 K4 R0 R1 G0 G1
  generalize u.1 = w2 at *
  go_wp2
  exact bodyPost_ret (v := .tuple #[.agg #[.int .i64 code, .int .u64 x], .bool true]) (by simp [results, Try.results58, go_sem, r0, r1]) rfl
    ⟨rfl, (((below_new _ _).trans ((below_new _ _).mono (by simp))).trans (hbu.out.mono (by simp; omega))).setCell (by simp) _ |>.setCell (by simp) _⟩
set_option maxRecDepth 100000 in
theorem end_no (w : World) (cs : Array Value) (code pc : Int) (ws ls : List Int) (h : Fr w cs code pc ws ls) (hp : pc ≠ -1) :
    Calls Try.prog 58 #[.agg cs] w fun e w' => e = .returned (.tuple #[.agg #[.int .i64 0, .int .u64 0], .bool false]) ∧ Below w.heap.size w w' := by
  obtain ⟨A, n, c, B, m, d, rfl, hh⟩ := id h
  have hd : (pc != -1) = true := by simpa using hp
  clear h hh hp
  go_enter Try.func58, Try.ntmps58
  go_wp2
  exact bodyPost_ret (v := .tuple #[.agg #[.int .i64 0, .int .u64 0], .bool false]) (by simp [results, Try.results58, go_sem]) rfl
    ⟨rfl, (below_new _ _).trans ((below_new _ _).mono (by simp))⟩
theorem lockEnd_yes (w : World) (cs : Array Value) (code : Int) (ws ls : List Int) (h : Fr w cs code (-1) ws ls) :
    Calls Try.prog 26 #[.agg cs] w fun e w' => e = .returned (.tuple #[.agg #[.int .i64 code, .int .u64 (ws.getD 0 0)], .bool true]) ∧ Below w.heap.size w w' := by
  obtain ⟨A, n, c, B, m, d, rfl, hh⟩ := id h
  have HS : Hid (∀ o1 o2, Calls Try.prog 58 #[.agg #[.int .i64 code, .int .i64 (-1), .slice A n c, .slice B m d, .slice none 0 0]] ((w.alloc o1).alloc o2) fun e w' => e = .returned (.tuple #[.agg #[.int .i64 code, .int .u64 (ws.getD 0 0)], .bool true]) ∧ Below ((w.alloc o1).alloc o2).heap.size ((w.alloc o1).alloc o2) w') := by
    intro o1 o2
    exact end_yes _ _ code ws ls ((h.below (below_new w o1)).below (below_new _ o2))
  generalize ws.getD 0 0 = x at HS ⊢
  clear h hh
  go_enter Try.func26, Try.ntmps26
  go_wp2_with fail
  refine (HS.out _ _).mono ?_
  rintro e w2 ⟨rfl, hb⟩
  have B2 := ((by simpa using Bk.new (w.alloc (.cells #[.int .i64 code, .int .i64 (-1), .slice A n c, .slice B m d, .slice none 0 0] 55)) 50 #[.int .i64 0, .int .u64 0] : Bk ((w.alloc (.cells #[.int .i64 code, .int .i64 (-1), .slice A n c, .slice B m d, .slice none 0 0] 55)).alloc (.cells #[.int .i64 0, .int .u64 0] 50)) (w.heap.size + 1) 50 #[.int .i64 0, .int .u64 0])).below hb (by simp)
  have r0 := B2.cell 0
  have r1 := B2.cell 1
  have g0 := B2.frozen 0
  have g1 := B2.frozen 1
  simp only [List.getElem?_toArray, List.getElem?_cons_zero, List.getElem?_cons_succ] at r0 r1
  have HB := hide hb
  clear B2 hb
  go_wp2
  exact bodyPost_ret (v := .tuple #[.agg #[.int .i64 code, .int .u64 x], .bool true]) (by simp [results, Try.results26, go_sem, r0, r1]) rfl
    ⟨rfl, (((below_new _ _).trans ((below_new _ _).mono (by simp))).trans (HB.out.mono (by simp; omega))).setCell (by simp) _ |>.setCell (by simp) _⟩
theorem lockEnd_no (w : World) (cs : Array Value) (code pc : Int) (ws ls : List Int) (h : Fr w cs code pc ws ls) (hp : pc ≠ -1) :
    Calls Try.prog 26 #[.agg cs] w fun e w' => e = .returned (.tuple #[.agg #[.int .i64 0, .int .u64 0], .bool false]) ∧ Below w.heap.size w w' := by
  obtain ⟨A, n, c, B, m, d, rfl, hh⟩ := id h
  have HS : Hid (∀ o1 o2, Calls Try.prog 58 #[.agg #[.int .i64 code, .int .i64 pc, .slice A n c, .slice B m d, .slice none 0 0]] ((w.alloc o1).alloc o2) fun e w' => e = .returned (.tuple #[.agg #[.int .i64 0, .int .u64 0], .bool false]) ∧ Below ((w.alloc o1).alloc o2).heap.size ((w.alloc o1).alloc o2) w') := by
    intro o1 o2
    exact end_no _ _ code pc ws ls ((h.below (below_new w o1)).below (below_new _ o2)) hp
  clear h hh hp
  go_enter Try.func26, Try.ntmps26
  go_wp2_with fail
  refine (HS.out _ _).mono ?_
  rintro e w2 ⟨rfl, hb⟩
  have B2 := ((by simpa using Bk.new (w.alloc (.cells #[.int .i64 code, .int .i64 pc, .slice A n c, .slice B m d, .slice none 0 0] 55)) 50 #[.int .i64 0, .int .u64 0] : Bk ((w.alloc (.cells #[.int .i64 code, .int .i64 pc, .slice A n c, .slice B m d, .slice none 0 0] 55)).alloc (.cells #[.int .i64 0, .int .u64 0] 50)) (w.heap.size + 1) 50 #[.int .i64 0, .int .u64 0])).below hb (by simp)
  have r0 := B2.cell 0
  have r1 := B2.cell 1
  have g0 := B2.frozen 0
  have g1 := B2.frozen 1
  simp only [List.getElem?_toArray, List.getElem?_cons_zero, List.getElem?_cons_succ] at r0 r1
  have HB := hide hb
  clear B2 hb
  go_wp2
  exact bodyPost_ret (v := .tuple #[.agg #[.int .i64 0, .int .u64 0], .bool false]) (by simp [results, Try.results26, go_sem, r0, r1]) rfl
    ⟨rfl, (((below_new _ _).trans ((below_new _ _).mono (by simp))).trans (HB.out.mono (by simp; omega))).setCell (by simp) _ |>.setCell (by simp) _⟩
theorem shutEnd_yes (w : World) (cs : Array Value) (code : Int) (ws ls : List Int) (h : Fr w cs code (-1) ws ls) :
    Calls Try.prog 50 #[.agg cs] w fun e w' => e = .returned (.tuple #[.agg #[.int .i64 code, .int .u64 (ws.getD 0 0)], .bool true]) ∧ Below w.heap.size w w' := by
  obtain ⟨A, n, c, B, m, d, rfl, hh⟩ := id h
  have HS : Hid (∀ o1 o2, Calls Try.prog 58 #[.agg #[.int .i64 code, .int .i64 (-1), .slice A n c, .slice B m d, .slice none 0 0]] ((w.alloc o1).alloc o2) fun e w' => e = .returned (.tuple #[.agg #[.int .i64 code, .int .u64 (ws.getD 0 0)], .bool true]) ∧ Below ((w.alloc o1).alloc o2).heap.size ((w.alloc o1).alloc o2) w') := by
    intro o1 o2
    exact end_yes _ _ code ws ls ((h.below (below_new w o1)).below (below_new _ o2))
  generalize ws.getD 0 0 = x at HS ⊢
  clear h hh
  go_enter Try.func50, Try.ntmps50
  go_wp2_with fail
  refine (HS.out _ _).mono ?_
  rintro e w2 ⟨rfl, hb⟩
  have B2 := ((by simpa using Bk.new (w.alloc (.cells #[.int .i64 code, .int .i64 (-1), .slice A n c, .slice B m d, .slice none 0 0] 55)) 50 #[.int .i64 0, .int .u64 0] : Bk ((w.alloc (.cells #[.int .i64 code, .int .i64 (-1), .slice A n c, .slice B m d, .slice none 0 0] 55)).alloc (.cells #[.int .i64 0, .int .u64 0] 50)) (w.heap.size + 1) 50 #[.int .i64 0, .int .u64 0])).below hb (by simp)
  have r0 := B2.cell 0
  have r1 := B2.cell 1
  have g0 := B2.frozen 0
  have g1 := B2.frozen 1
  simp only [List.getElem?_toArray, List.getElem?_cons_zero, List.getElem?_cons_succ] at r0 r1
  have HB := hide hb
  clear B2 hb
  go_wp2
  exact bodyPost_ret (v := .tuple #[.agg #[.int .i64 code, .int .u64 x], .bool true]) (by simp [results, Try.results50, go_sem, r0, r1]) rfl
    ⟨rfl, (((below_new _ _).trans ((below_new _ _).mono (by simp))).trans (HB.out.mono (by simp; omega))).setCell (by simp) _ |>.setCell (by simp) _⟩
theorem shutEnd_no (w : World) (cs : Array Value) (code pc : Int) (ws ls : List Int) (h : Fr w cs code pc ws ls) (hp : pc ≠ -1) :
    Calls Try.prog 50 #[.agg cs] w fun e w' => e = .returned (.tuple #[.agg #[.int .i64 0, .int .u64 0], .bool false]) ∧ Below w.heap.size w w' := by
  obtain ⟨A, n, c, B, m, d, rfl, hh⟩ := id h
  have HS : Hid (∀ o1 o2, Calls Try.prog 58 #[.agg #[.int .i64 code, .int .i64 pc, .slice A n c, .slice B m d, .slice none 0 0]] ((w.alloc o1).alloc o2) fun e w' => e = .returned (.tuple #[.agg #[.int .i64 0, .int .u64 0], .bool false]) ∧ Below ((w.alloc o1).alloc o2).heap.size ((w.alloc o1).alloc o2) w') := by
    intro o1 o2
    exact end_no _ _ code pc ws ls ((h.below (below_new w o1)).below (below_new _ o2)) hp
  clear h hh hp
  go_enter Try.func50, Try.ntmps50
  go_wp2_with fail
  refine (HS.out _ _).mono ?_
  rintro e w2 ⟨rfl, hb⟩
  have B2 := ((by simpa using Bk.new (w.alloc (.cells #[.int .i64 code, .int .i64 pc, .slice A n c, .slice B m d, .slice none 0 0] 55)) 50 #[.int .i64 0, .int .u64 0] : Bk ((w.alloc (.cells #[.int .i64 code, .int .i64 pc, .slice A n c, .slice B m d, .slice none 0 0] 55)).alloc (.cells #[.int .i64 0, .int .u64 0] 50)) (w.heap.size + 1) 50 #[.int .i64 0, .int .u64 0])).below hb (by simp)
  have r0 := B2.cell 0
  have r1 := B2.cell 1
  have g0 := B2.frozen 0
  have g1 := B2.frozen 1
  simp only [List.getElem?_toArray, List.getElem?_cons_zero, List.getElem?_cons_succ] at r0 r1
  have HB := hide hb
  clear B2 hb
  go_wp2
  exact bodyPost_ret (v := .tuple #[.agg #[.int .i64 0, .int .u64 0], .bool false]) (by simp [results, Try.results50, go_sem, r0, r1]) rfl
    ⟨rfl, (((below_new _ _).trans ((below_new _ _).mono (by simp))).trans (HB.out.mono (by simp; omega))).setCell (by simp) _ |>.setCell (by simp) _⟩
theorem claimEnd_yes (w : World) (cs : Array Value) (code : Int) (ws ls : List Int) (h : Fr w cs code (-1) ws ls) :
    Calls Try.prog 38 #[.agg cs] w fun e w' => e = .returned (.tuple #[.agg #[.int .i64 code, .int .u64 (ws.getD 0 0)], .bool true]) ∧ Below w.heap.size w w' := by
  obtain ⟨A, n, c, B, m, d, rfl, hh⟩ := id h
  have HS : Hid (∀ o1 o2, Calls Try.prog 58 #[.agg #[.int .i64 code, .int .i64 (-1), .slice A n c, .slice B m d, .slice none 0 0]] ((w.alloc o1).alloc o2) fun e w' => e = .returned (.tuple #[.agg #[.int .i64 code, .int .u64 (ws.getD 0 0)], .bool true]) ∧ Below ((w.alloc o1).alloc o2).heap.size ((w.alloc o1).alloc o2) w') := by
    intro o1 o2
    exact end_yes _ _ code ws ls ((h.below (below_new w o1)).below (below_new _ o2))
  generalize ws.getD 0 0 = x at HS ⊢
  clear h hh
  go_enter Try.func38, Try.ntmps38
  go_wp2_with fail
  refine (HS.out _ _).mono ?_
  rintro e w2 ⟨rfl, hb⟩
  have B2 := ((by simpa using Bk.new (w.alloc (.cells #[.int .i64 code, .int .i64 (-1), .slice A n c, .slice B m d, .slice none 0 0] 55)) 50 #[.int .i64 0, .int .u64 0] : Bk ((w.alloc (.cells #[.int .i64 code, .int .i64 (-1), .slice A n c, .slice B m d, .slice none 0 0] 55)).alloc (.cells #[.int .i64 0, .int .u64 0] 50)) (w.heap.size + 1) 50 #[.int .i64 0, .int .u64 0])).below hb (by simp)
  have r0 := B2.cell 0
  have r1 := B2.cell 1
  have g0 := B2.frozen 0
  have g1 := B2.frozen 1
  simp only [List.getElem?_toArray, List.getElem?_cons_zero, List.getElem?_cons_succ] at r0 r1
  have HB := hide hb
  clear B2 hb
  go_wp2
  exact bodyPost_ret (v := .tuple #[.agg #[.int .i64 code, .int .u64 x], .bool true]) (by simp [results, Try.results38, go_sem, r0, r1]) rfl
    ⟨rfl, (((below_new _ _).trans ((below_new _ _).mono (by simp))).trans (HB.out.mono (by simp; omega))).setCell (by simp) _ |>.setCell (by simp) _⟩
theorem claimEnd_no (w : World) (cs : Array Value) (code pc : Int) (ws ls : List Int) (h : Fr w cs code pc ws ls) (hp : pc ≠ -1) :
    Calls Try.prog 38 #[.agg cs] w fun e w' => e = .returned (.tuple #[.agg #[.int .i64 0, .int .u64 0], .bool false]) ∧ Below w.heap.size w w' := by
  obtain ⟨A, n, c, B, m, d, rfl, hh⟩ := id h
  have HS : Hid (∀ o1 o2, Calls Try.prog 58 #[.agg #[.int .i64 code, .int .i64 pc, .slice A n c, .slice B m d, .slice none 0 0]] ((w.alloc o1).alloc o2) fun e w' => e = .returned (.tuple #[.agg #[.int .i64 0, .int .u64 0], .bool false]) ∧ Below ((w.alloc o1).alloc o2).heap.size ((w.alloc o1).alloc o2) w') := by
    intro o1 o2
    exact end_no _ _ code pc ws ls ((h.below (below_new w o1)).below (below_new _ o2)) hp
  clear h hh hp
  go_enter Try.func38, Try.ntmps38
  go_wp2_with fail
  refine (HS.out _ _).mono ?_
  rintro e w2 ⟨rfl, hb⟩
  have B2 := ((by simpa using Bk.new (w.alloc (.cells #[.int .i64 code, .int .i64 pc, .slice A n c, .slice B m d, .slice none 0 0] 55)) 50 #[.int .i64 0, .int .u64 0] : Bk ((w.alloc (.cells #[.int .i64 code, .int .i64 pc, .slice A n c, .slice B m d, .slice none 0 0] 55)).alloc (.cells #[.int .i64 0, .int .u64 0] 50)) (w.heap.size + 1) 50 #[.int .i64 0, .int .u64 0])).below hb (by simp)
  have r0 := B2.cell 0
  have r1 := B2.cell 1
  have g0 := B2.frozen 0
  have g1 := B2.frozen 1
  simp only [List.getElem?_toArray, List.getElem?_cons_zero, List.getElem?_cons_succ] at r0 r1
  have HB := hide hb
  clear B2 hb
  go_wp2
  exact bodyPost_ret (v := .tuple #[.agg #[.int .i64 0, .int .u64 0], .bool false]) (by simp [results, Try.results38, go_sem, r0, r1]) rfl
    ⟨rfl, (((below_new _ _).trans ((below_new _ _).mono (by simp))).trans (HB.out.mono (by simp; omega))).setCell (by simp) _ |>.setCell (by simp) _⟩
end Go.Proofs.Ytadaoobdnnleaaa
