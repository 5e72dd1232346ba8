/- Contracts: the machines of a claim: the accesses with a word, and what they do behind an answer. -/
import Derived.Test.YtadaoobdnnleaaaI12
namespace Go.Proofs.Ytadaoobdnnleaaa
open Go.RowKit
set_option linter.unusedVariables false

set_option maxHeartbeats 1000000 in
set_option maxRecDepth 100000 in
theorem claimNext_5 (w : World) (cs : Array Value) (p q v : Int) (ws : List Int) (h : Fr w cs 0 5 ws (clL p)) (hq : (clL p).getD 3 0 = q) (hv : ws.getD 0 0 = v) :
    Calls Try.prog 64 #[.agg cs] w fun e w' => e = .returned (.agg (Acc.cells ⟨6, q, 0, v⟩)) ∧ Below w.heap.size w w' := by
  obtain ⟨A, n, c, B, m, d, rfl, hh⟩ := id h
  have HS := hide (fun W (hW : Below w.heap.size w W) => claimAccess_any W _ 0 5 ws (clL p) (h.below hW) 6 0 v 3 (by omega) q hq)
  have HV := hide (fun W (hW : Below w.heap.size w W) => claimWord_any W _ 0 5 ws (clL p) (h.below hW) 0 (by omega) v hv)
  have BK2 : Bk (((w.alloc (.cells #[.int .i64 0, .int .i64 5, .slice A n c, .slice B m d, .slice none 0 0] 55)).alloc (.cells #[.int .i64 0, .int .i64 0, .int .u64 0, .int .u64 0, .int .i64 0] 65)).alloc (.cells #[.int .i64 0, .int .i64 5, .slice A n c, .slice B m d, .slice none 0 0] 116)) (w.heap.size + 1) 65 #[.int .i64 0, .int .i64 0, .int .u64 0, .int .u64 0, .int .i64 0] :=
    ((by simpa using Bk.new (w.alloc (.cells #[.int .i64 0, .int .i64 5, .slice A n c, .slice B m d, .slice none 0 0] 55)) 65 #[.int .i64 0, .int .i64 0, .int .u64 0, .int .u64 0, .int .i64 0] : Bk ((w.alloc (.cells #[.int .i64 0, .int .i64 5, .slice A n c, .slice B m d, .slice none 0 0] 55)).alloc (.cells #[.int .i64 0, .int .i64 0, .int .u64 0, .int .u64 0, .int .i64 0] 65)) (w.heap.size + 1) 65 #[.int .i64 0, .int .i64 0, .int .u64 0, .int .u64 0, .int .i64 0])).alloc _
  have BK3 : Bk (((w.alloc (.cells #[.int .i64 0, .int .i64 5, .slice A n c, .slice B m d, .slice none 0 0] 55)).alloc (.cells #[.int .i64 0, .int .i64 0, .int .u64 0, .int .u64 0, .int .i64 0] 65)).alloc (.cells #[.int .i64 0, .int .i64 5, .slice A n c, .slice B m d, .slice none 0 0] 116)) (w.heap.size + 1 + 1) 116 #[.int .i64 0, .int .i64 5, .slice A n c, .slice B m d, .slice none 0 0] := by
    simpa using Bk.new ((w.alloc (.cells #[.int .i64 0, .int .i64 5, .slice A n c, .slice B m d, .slice none 0 0] 55)).alloc (.cells #[.int .i64 0, .int .i64 0, .int .u64 0, .int .u64 0, .int .i64 0] 65)) 116 #[.int .i64 0, .int .i64 5, .slice A n c, .slice B m d, .slice none 0 0]
  have HU := hide (((below_new w (.cells #[.int .i64 0, .int .i64 5, .slice A n c, .slice B m d, .slice none 0 0] 55)).alloc (by simp) (.cells #[.int .i64 0, .int .i64 0, .int .u64 0, .int .u64 0, .int .i64 0] 65)).alloc (by simp; omega) (.cells #[.int .i64 0, .int .i64 5, .slice A n c, .slice B m d, .slice none 0 0] 116))
  have B2 := hide BK2
  have B3 := hide BK3
  clear h hh hq hv BK2 BK3
  go_enter Try.func64, Try.ntmps64
  go_wp2_with ((with_reducible show wpList _ _ _ _ _ _); refine wpList_store_new (by rfl) 116 _ _ (by rfl) #[.int .i64 0, .int .i64 0, .slice none 0 0, .slice none 0 0, .slice none 0 0] #[.int .i64 0, .int .i64 5, .slice A n c, .slice B m d, .slice none 0 0] 116 (by rfl) (by rfl) (by rfl) Try.pl_inf (fr_one _ _ _ _ _ _ _ _ _ _ _) ?_)
  have hsz : w.heap.size + 1 + 1 < (((w.alloc (.cells #[.int .i64 0, .int .i64 5, .slice A n c, .slice B m d, .slice none 0 0] 55)).alloc (.cells #[.int .i64 0, .int .i64 0, .int .u64 0, .int .u64 0, .int .i64 0] 65)).alloc (.cells #[.int .i64 0, .int .i64 5, .slice A n c, .slice B m d, .slice none 0 0] 116)).heap.size := B3.out.lt
  generalize (((w.alloc (.cells #[.int .i64 0, .int .i64 5, .slice A n c, .slice B m d, .slice none 0 0] 55)).alloc (.cells #[.int .i64 0, .int .i64 0, .int .u64 0, .int .u64 0, .int .i64 0] 65)).alloc (.cells #[.int .i64 0, .int .i64 5, .slice A n c, .slice B m d, .slice none 0 0] 116)) = w1 at *
  obtain ⟨c0, c1, c2, c3, c4, -⟩ := bk5 B3.out
  have k0 := fun (u : Up w1) => up_cell c0 u
  have k1 := fun (u : Up w1) => up_cell c1 u
  have k2 := fun (u : Up w1) => up_cell c2 u
  have k3 := fun (u : Up w1) => up_cell c3 u
  have k4 := fun (u : Up w1) => up_cell c4 u
  have HS1 := hide (fun (u : Up w1) => HS.out u.1 (HU.out.trans (u.2.mono (by omega))))
  have HV1 := hide (fun (u : Up w1) => HV.out u.1 (HU.out.trans (u.2.mono (by omega))))
  clear c0 c1 c2 c3 c4 HS HV
  refine wp_region_up_tail 4 (by kernel_rfl) (by kernel_rfl) ?_
  simp only [List.take_succ_cons, List.take_zero, List.drop_succ_cons, List.drop_zero]
  repeat (go_big_quiet_step (first
    | (go_at_call 97; exact up_call (HV1.out _))
    | (go_at_call 96; exact up_call (HS1.out _))))
  refine wpQuiet_nil ?_
  intro u
  have KB := hide (HU.out.trans (u.2.mono (by omega)))
  have K2 := hide (B2.out.below u.2 B2.out.lt)
  have HT := hide (K2.out.there (n := 5) rfl)
  clear k0 k1 k2 k3 k4 HS1 HV1
  generalize u.1 = w2 at *
  go_wp2_with ((with_reducible show wpList _ _ _ _ _ _); refine wpList_store_res (by rfl) 65 _ _ (by rfl) (w.heap.size + 1) (Acc.cells ⟨6, q, 0, v⟩) (by rfl) (by rfl) HT.out Try.ac_inf (ac_one _) ?_; intro wz HZ)
  obtain ⟨fs, hfs⟩ := Try.ac_und
  exact ret_stored HZ Try.results64 rfl HT.out hfs rfl Try.ac_inf rfl ⟨rfl, below_stored HZ KB.out (by omega)⟩
set_option maxHeartbeats 1000000 in
set_option maxRecDepth 100000 in
theorem claimNext_6 (w : World) (cs : Array Value) (p q v : Int) (ws : List Int) (h : Fr w cs 0 6 ws (clL p)) (hq : (clL p).getD 2 0 = q) (hv : ws.getD 1 0 = v) :
    Calls Try.prog 64 #[.agg cs] w fun e w' => e = .returned (.agg (Acc.cells ⟨6, q, 0, v⟩)) ∧ Below w.heap.size w w' := by
  obtain ⟨A, n, c, B, m, d, rfl, hh⟩ := id h
  have HS := hide (fun W (hW : Below w.heap.size w W) => claimAccess_any W _ 0 6 ws (clL p) (h.below hW) 6 0 v 2 (by omega) q hq)
  have HV := hide (fun W (hW : Below w.heap.size w W) => claimWord_any W _ 0 6 ws (clL p) (h.below hW) 1 (by omega) v hv)
  have BK2 : Bk (((w.alloc (.cells #[.int .i64 0, .int .i64 6, .slice A n c, .slice B m d, .slice none 0 0] 55)).alloc (.cells #[.int .i64 0, .int .i64 0, .int .u64 0, .int .u64 0, .int .i64 0] 65)).alloc (.cells #[.int .i64 0, .int .i64 6, .slice A n c, .slice B m d, .slice none 0 0] 116)) (w.heap.size + 1) 65 #[.int .i64 0, .int .i64 0, .int .u64 0, .int .u64 0, .int .i64 0] :=
    ((by simpa using Bk.new (w.alloc (.cells #[.int .i64 0, .int .i64 6, .slice A n c, .slice B m d, .slice none 0 0] 55)) 65 #[.int .i64 0, .int .i64 0, .int .u64 0, .int .u64 0, .int .i64 0] : Bk ((w.alloc (.cells #[.int .i64 0, .int .i64 6, .slice A n c, .slice B m d, .slice none 0 0] 55)).alloc (.cells #[.int .i64 0, .int .i64 0, .int .u64 0, .int .u64 0, .int .i64 0] 65)) (w.heap.size + 1) 65 #[.int .i64 0, .int .i64 0, .int .u64 0, .int .u64 0, .int .i64 0])).alloc _
  have BK3 : Bk (((w.alloc (.cells #[.int .i64 0, .int .i64 6, .slice A n c, .slice B m d, .slice none 0 0] 55)).alloc (.cells #[.int .i64 0, .int .i64 0, .int .u64 0, .int .u64 0, .int .i64 0] 65)).alloc (.cells #[.int .i64 0, .int .i64 6, .slice A n c, .slice B m d, .slice none 0 0] 116)) (w.heap.size + 1 + 1) 116 #[.int .i64 0, .int .i64 6, .slice A n c, .slice B m d, .slice none 0 0] := by
    simpa using Bk.new ((w.alloc (.cells #[.int .i64 0, .int .i64 6, .slice A n c, .slice B m d, .slice none 0 0] 55)).alloc (.cells #[.int .i64 0, .int .i64 0, .int .u64 0, .int .u64 0, .int .i64 0] 65)) 116 #[.int .i64 0, .int .i64 6, .slice A n c, .slice B m d, .slice none 0 0]
  have HU := hide (((below_new w (.cells #[.int .i64 0, .int .i64 6, .slice A n c, .slice B m d, .slice none 0 0] 55)).alloc (by simp) (.cells #[.int .i64 0, .int .i64 0, .int .u64 0, .int .u64 0, .int .i64 0] 65)).alloc (by simp; omega) (.cells #[.int .i64 0, .int .i64 6, .slice A n c, .slice B m d, .slice none 0 0] 116))
  have B2 := hide BK2
  have B3 := hide BK3
  clear h hh hq hv BK2 BK3
  go_enter Try.func64, Try.ntmps64
  go_wp2_with ((with_reducible show wpList _ _ _ _ _ _); refine wpList_store_new (by rfl) 116 _ _ (by rfl) #[.int .i64 0, .int .i64 0, .slice none 0 0, .slice none 0 0, .slice none 0 0] #[.int .i64 0, .int .i64 6, .slice A n c, .slice B m d, .slice none 0 0] 116 (by rfl) (by rfl) (by rfl) Try.pl_inf (fr_one _ _ _ _ _ _ _ _ _ _ _) ?_)
  have hsz : w.heap.size + 1 + 1 < (((w.alloc (.cells #[.int .i64 0, .int .i64 6, .slice A n c, .slice B m d, .slice none 0 0] 55)).alloc (.cells #[.int .i64 0, .int .i64 0, .int .u64 0, .int .u64 0, .int .i64 0] 65)).alloc (.cells #[.int .i64 0, .int .i64 6, .slice A n c, .slice B m d, .slice none 0 0] 116)).heap.size := B3.out.lt
  generalize (((w.alloc (.cells #[.int .i64 0, .int .i64 6, .slice A n c, .slice B m d, .slice none 0 0] 55)).alloc (.cells #[.int .i64 0, .int .i64 0, .int .u64 0, .int .u64 0, .int .i64 0] 65)).alloc (.cells #[.int .i64 0, .int .i64 6, .slice A n c, .slice B m d, .slice none 0 0] 116)) = w1 at *
  obtain ⟨c0, c1, c2, c3, c4, -⟩ := bk5 B3.out
  have k0 := fun (u : Up w1) => up_cell c0 u
  have k1 := fun (u : Up w1) => up_cell c1 u
  have k2 := fun (u : Up w1) => up_cell c2 u
  have k3 := fun (u : Up w1) => up_cell c3 u
  have k4 := fun (u : Up w1) => up_cell c4 u
  have HS1 := hide (fun (u : Up w1) => HS.out u.1 (HU.out.trans (u.2.mono (by omega))))
  have HV1 := hide (fun (u : Up w1) => HV.out u.1 (HU.out.trans (u.2.mono (by omega))))
  clear c0 c1 c2 c3 c4 HS HV
  refine wp_region_up_tail 4 (by kernel_rfl) (by kernel_rfl) ?_
  simp only [List.take_succ_cons, List.take_zero, List.drop_succ_cons, List.drop_zero]
  repeat (go_big_quiet_step (first
    | (go_at_call 97; exact up_call (HV1.out _))
    | (go_at_call 96; exact up_call (HS1.out _))))
  refine wpQuiet_nil ?_
  intro u
  have KB := hide (HU.out.trans (u.2.mono (by omega)))
  have K2 := hide (B2.out.below u.2 B2.out.lt)
  have HT := hide (K2.out.there (n := 5) rfl)
  clear k0 k1 k2 k3 k4 HS1 HV1
  generalize u.1 = w2 at *
  go_wp2_with ((with_reducible show wpList _ _ _ _ _ _); refine wpList_store_res (by rfl) 65 _ _ (by rfl) (w.heap.size + 1) (Acc.cells ⟨6, q, 0, v⟩) (by rfl) (by rfl) HT.out Try.ac_inf (ac_one _) ?_; intro wz HZ)
  obtain ⟨fs, hfs⟩ := Try.ac_und
  exact ret_stored HZ Try.results64 rfl HT.out hfs rfl Try.ac_inf rfl ⟨rfl, below_stored HZ KB.out (by omega)⟩
set_option maxHeartbeats 1000000 in
set_option maxRecDepth 100000 in
theorem claimNext_7 (w : World) (cs : Array Value) (p q v : Int) (ws : List Int) (h : Fr w cs 0 7 ws (clL p)) (hq : (clL p).getD 4 0 = q) (hv : ws.getD 2 0 = v) :
    Calls Try.prog 64 #[.agg cs] w fun e w' => e = .returned (.agg (Acc.cells ⟨6, q, 0, v⟩)) ∧ Below w.heap.size w w' := by
  obtain ⟨A, n, c, B, m, d, rfl, hh⟩ := id h
  have HS := hide (fun W (hW : Below w.heap.size w W) => claimAccess_any W _ 0 7 ws (clL p) (h.below hW) 6 0 v 4 (by omega) q hq)
  have HV := hide (fun W (hW : Below w.heap.size w W) => claimWord_any W _ 0 7 ws (clL p) (h.below hW) 2 (by omega) v hv)
  have BK2 : Bk (((w.alloc (.cells #[.int .i64 0, .int .i64 7, .slice A n c, .slice B m d, .slice none 0 0] 55)).alloc (.cells #[.int .i64 0, .int .i64 0, .int .u64 0, .int .u64 0, .int .i64 0] 65)).alloc (.cells #[.int .i64 0, .int .i64 7, .slice A n c, .slice B m d, .slice none 0 0] 116)) (w.heap.size + 1) 65 #[.int .i64 0, .int .i64 0, .int .u64 0, .int .u64 0, .int .i64 0] :=
    ((by simpa using Bk.new (w.alloc (.cells #[.int .i64 0, .int .i64 7, .slice A n c, .slice B m d, .slice none 0 0] 55)) 65 #[.int .i64 0, .int .i64 0, .int .u64 0, .int .u64 0, .int .i64 0] : Bk ((w.alloc (.cells #[.int .i64 0, .int .i64 7, .slice A n c, .slice B m d, .slice none 0 0] 55)).alloc (.cells #[.int .i64 0, .int .i64 0, .int .u64 0, .int .u64 0, .int .i64 0] 65)) (w.heap.size + 1) 65 #[.int .i64 0, .int .i64 0, .int .u64 0, .int .u64 0, .int .i64 0])).alloc _
  have BK3 : Bk (((w.alloc (.cells #[.int .i64 0, .int .i64 7, .slice A n c, .slice B m d, .slice none 0 0] 55)).alloc (.cells #[.int .i64 0, .int .i64 0, .int .u64 0, .int .u64 0, .int .i64 0] 65)).alloc (.cells #[.int .i64 0, .int .i64 7, .slice A n c, .slice B m d, .slice none 0 0] 116)) (w.heap.size + 1 + 1) 116 #[.int .i64 0, .int .i64 7, .slice A n c, .slice B m d, .slice none 0 0] := by
    simpa using Bk.new ((w.alloc (.cells #[.int .i64 0, .int .i64 7, .slice A n c, .slice B m d, .slice none 0 0] 55)).alloc (.cells #[.int .i64 0, .int .i64 0, .int .u64 0, .int .u64 0, .int .i64 0] 65)) 116 #[.int .i64 0, .int .i64 7, .slice A n c, .slice B m d, .slice none 0 0]
  have HU := hide (((below_new w (.cells #[.int .i64 0, .int .i64 7, .slice A n c, .slice B m d, .slice none 0 0] 55)).alloc (by simp) (.cells #[.int .i64 0, .int .i64 0, .int .u64 0, .int .u64 0, .int .i64 0] 65)).alloc (by simp; omega) (.cells #[.int .i64 0, .int .i64 7, .slice A n c, .slice B m d, .slice none 0 0] 116))
  have B2 := hide BK2
  have B3 := hide BK3
  clear h hh hq hv BK2 BK3
  go_enter Try.func64, Try.ntmps64
  go_wp2_with ((with_reducible show wpList _ _ _ _ _ _); refine wpList_store_new (by rfl) 116 _ _ (by rfl) #[.int .i64 0, .int .i64 0, .slice none 0 0, .slice none 0 0, .slice none 0 0] #[.int .i64 0, .int .i64 7, .slice A n c, .slice B m d, .slice none 0 0] 116 (by rfl) (by rfl) (by rfl) Try.pl_inf (fr_one _ _ _ _ _ _ _ _ _ _ _) ?_)
  have hsz : w.heap.size + 1 + 1 < (((w.alloc (.cells #[.int .i64 0, .int .i64 7, .slice A n c, .slice B m d, .slice none 0 0] 55)).alloc (.cells #[.int .i64 0, .int .i64 0, .int .u64 0, .int .u64 0, .int .i64 0] 65)).alloc (.cells #[.int .i64 0, .int .i64 7, .slice A n c, .slice B m d, .slice none 0 0] 116)).heap.size := B3.out.lt
  generalize (((w.alloc (.cells #[.int .i64 0, .int .i64 7, .slice A n c, .slice B m d, .slice none 0 0] 55)).alloc (.cells #[.int .i64 0, .int .i64 0, .int .u64 0, .int .u64 0, .int .i64 0] 65)).alloc (.cells #[.int .i64 0, .int .i64 7, .slice A n c, .slice B m d, .slice none 0 0] 116)) = w1 at *
  obtain ⟨c0, c1, c2, c3, c4, -⟩ := bk5 B3.out
  have k0 := fun (u : Up w1) => up_cell c0 u
  have k1 := fun (u : Up w1) => up_cell c1 u
  have k2 := fun (u : Up w1) => up_cell c2 u
  have k3 := fun (u : Up w1) => up_cell c3 u
  have k4 := fun (u : Up w1) => up_cell c4 u
  have HS1 := hide (fun (u : Up w1) => HS.out u.1 (HU.out.trans (u.2.mono (by omega))))
  have HV1 := hide (fun (u : Up w1) => HV.out u.1 (HU.out.trans (u.2.mono (by omega))))
  clear c0 c1 c2 c3 c4 HS HV
  refine wp_region_up_tail 4 (by kernel_rfl) (by kernel_rfl) ?_
  simp only [List.take_succ_cons, List.take_zero, List.drop_succ_cons, List.drop_zero]
  repeat (go_big_quiet_step (first
    | (go_at_call 97; exact up_call (HV1.out _))
    | (go_at_call 96; exact up_call (HS1.out _))))
  refine wpQuiet_nil ?_
  intro u
  have KB := hide (HU.out.trans (u.2.mono (by omega)))
  have K2 := hide (B2.out.below u.2 B2.out.lt)
  have HT := hide (K2.out.there (n := 5) rfl)
  clear k0 k1 k2 k3 k4 HS1 HV1
  generalize u.1 = w2 at *
  go_wp2_with ((with_reducible show wpList _ _ _ _ _ _); refine wpList_store_res (by rfl) 65 _ _ (by rfl) (w.heap.size + 1) (Acc.cells ⟨6, q, 0, v⟩) (by rfl) (by rfl) HT.out Try.ac_inf (ac_one _) ?_; intro wz HZ)
  obtain ⟨fs, hfs⟩ := Try.ac_und
  exact ret_stored HZ Try.results64 rfl HT.out hfs rfl Try.ac_inf rfl ⟨rfl, below_stored HZ KB.out (by omega)⟩
set_option maxHeartbeats 1000000 in
set_option maxRecDepth 100000 in
theorem claimNext_e (w : World) (cs : Array Value) (ws ls : List Int) (code : Int) (h : Fr w cs code (-1) ws ls) :
    Calls Try.prog 64 #[.agg cs] w fun e w' => e = .returned (.agg (Acc.cells ⟨0, 0, 0, 0⟩)) ∧ Below w.heap.size w w' := by
  obtain ⟨A, n, c, B, m, d, rfl, hh⟩ := id h
  clear h hh
  go_enter Try.func64, Try.ntmps64
  go_wp2_with ((with_reducible show wpList _ _ _ _ _ _); refine wpList_store_new (by rfl) 116 _ _ (by rfl) #[.int .i64 0, .int .i64 0, .slice none 0 0, .slice none 0 0, .slice none 0 0] #[.int .i64 code, .int .i64 (-1), .slice A n c, .slice B m d, .slice none 0 0] 116 (by rfl) (by rfl) (by rfl) Try.pl_inf (fr_one _ _ _ _ _ _ _ _ _ _ _) ?_)
  exact bodyPost_ret (v := .agg #[.int .i64 0, .int .i64 0, .int .u64 0, .int .u64 0, .int .i64 0]) (by simp [results, Try.results64, go_sem]) rfl
    ⟨rfl, (((below_new _ _).alloc (by simp) _).alloc (by simp; omega) _)⟩
/-! ### Behind an answer -/
set_option maxHeartbeats 1000000 in
set_option maxRecDepth 100000 in
theorem claimResume_y1 (w : World) (cs : Array Value) (code v : Int) (ws ls : List Int) (ok lt : Bool) (D : Option Addr) (ln lc : Nat) (h : Fr w cs code 1 ws ls) :
    Calls Try.prog 36 #[.agg cs, .agg #[.int .u64 v, .bool true, .bool lt, .slice D ln lc]] w fun e w' => ∃ cs', e = .returned (.agg cs') ∧ Fr w' cs' 7 (-1) [0] [] ∧ Below w.heap.size w w' := by
  obtain ⟨A, n, c, B, m, d, rfl, hh⟩ := id h
  clear h hh
  go_enter Try.func36, Try.ntmps36
  go_wp2_with fail
  refine (done_any _ _ _).mono ?_
  rintro e w2 ⟨cs, rfl, hf, hb⟩
  obtain ⟨k2, kb⟩ := at_third hb
  obtain ⟨FA, fn, fc, FB, fm, fd, rfl, -⟩ := id hf
  have HF := hide hf
  have KB := hide kb
  have K2 := hide k2
  have HT := hide (k2.there (n := 5) rfl)
  clear hb k2 kb hf
  go_wp2_with ((with_reducible show wpList _ _ _ _ _ _); refine wpList_store_res (by rfl) 55 _ _ (by rfl) (w.heap.size + 1 + 1) #[.int .i64 7, .int .i64 (-1), .slice FA fn fc, .slice FB fm fd, .slice none 0 0] (by rfl) (by rfl) HT.out Try.fr_inf (fr_one _ _ _ _ _ _ _ _ _ _ _) ?_; intro wz HZ)
  obtain ⟨fs, hfs⟩ := Try.fr_und
  exact ret_stored HZ Try.results36 rfl HT.out hfs rfl Try.fr_inf rfl ⟨_, rfl, Fr.stored HZ HF.out K2.out, below_stored HZ KB.out (by omega)⟩
set_option maxHeartbeats 1000000 in
set_option maxRecDepth 100000 in
theorem claimResume_y3 (w : World) (cs : Array Value) (code v : Int) (ws ls : List Int) (ok lt : Bool) (D : Option Addr) (ln lc : Nat) (h : Fr w cs code 3 ws ls) :
    Calls Try.prog 36 #[.agg cs, .agg #[.int .u64 v, .bool true, .bool lt, .slice D ln lc]] w fun e w' => ∃ cs', e = .returned (.agg cs') ∧ Fr w' cs' 7 (-1) [0] [] ∧ Below w.heap.size w w' := by
  obtain ⟨A, n, c, B, m, d, rfl, hh⟩ := id h
  clear h hh
  go_enter Try.func36, Try.ntmps36
  go_wp2_with fail
  refine (done_any _ _ _).mono ?_
  rintro e w2 ⟨cs, rfl, hf, hb⟩
  obtain ⟨k2, kb⟩ := at_third hb
  obtain ⟨FA, fn, fc, FB, fm, fd, rfl, -⟩ := id hf
  have HF := hide hf
  have KB := hide kb
  have K2 := hide k2
  have HT := hide (k2.there (n := 5) rfl)
  clear hb k2 kb hf
  go_wp2_with ((with_reducible show wpList _ _ _ _ _ _); refine wpList_store_res (by rfl) 55 _ _ (by rfl) (w.heap.size + 1 + 1) #[.int .i64 7, .int .i64 (-1), .slice FA fn fc, .slice FB fm fd, .slice none 0 0] (by rfl) (by rfl) HT.out Try.fr_inf (fr_one _ _ _ _ _ _ _ _ _ _ _) ?_; intro wz HZ)
  obtain ⟨fs, hfs⟩ := Try.fr_und
  exact ret_stored HZ Try.results36 rfl HT.out hfs rfl Try.fr_inf rfl ⟨_, rfl, Fr.stored HZ HF.out K2.out, below_stored HZ KB.out (by omega)⟩
set_option maxHeartbeats 1000000 in
set_option maxRecDepth 100000 in
theorem claimResume_u2 (w : World) (cs : Array Value) (code v : Int) (ws ls : List Int) (ok lt : Bool) (D : Option Addr) (ln lc : Nat) (h : Fr w cs code 2 ws ls) :
    Calls Try.prog 36 #[.agg cs, .agg #[.int .u64 v, .bool ok, .bool lt, .slice D ln lc]] w fun e w' => ∃ cs', e = .returned (.agg cs') ∧ Fr w' cs' 1 (-1) [0] [] ∧ Below w.heap.size w w' := by
  obtain ⟨A, n, c, B, m, d, rfl, hh⟩ := id h
  clear h hh
  go_enter Try.func36, Try.ntmps36
  go_wp2_with fail
  refine (done_any _ _ _).mono ?_
  rintro e w2 ⟨cs, rfl, hf, hb⟩
  obtain ⟨k2, kb⟩ := at_third hb
  obtain ⟨FA, fn, fc, FB, fm, fd, rfl, -⟩ := id hf
  have HF := hide hf
  have KB := hide kb
  have K2 := hide k2
  have HT := hide (k2.there (n := 5) rfl)
  clear hb k2 kb hf
  go_wp2_with ((with_reducible show wpList _ _ _ _ _ _); refine wpList_store_res (by rfl) 55 _ _ (by rfl) (w.heap.size + 1 + 1) #[.int .i64 1, .int .i64 (-1), .slice FA fn fc, .slice FB fm fd, .slice none 0 0] (by rfl) (by rfl) HT.out Try.fr_inf (fr_one _ _ _ _ _ _ _ _ _ _ _) ?_; intro wz HZ)
  obtain ⟨fs, hfs⟩ := Try.fr_und
  exact ret_stored HZ Try.results36 rfl HT.out hfs rfl Try.fr_inf rfl ⟨_, rfl, Fr.stored HZ HF.out K2.out, below_stored HZ KB.out (by omega)⟩
set_option maxHeartbeats 1000000 in
set_option maxRecDepth 100000 in
theorem claimResume_u4 (w : World) (cs : Array Value) (code v : Int) (ws ls : List Int) (ok lt : Bool) (D : Option Addr) (ln lc : Nat) (h : Fr w cs code 4 ws ls) :
    Calls Try.prog 36 #[.agg cs, .agg #[.int .u64 v, .bool ok, .bool lt, .slice D ln lc]] w fun e w' => ∃ cs', e = .returned (.agg cs') ∧ Fr w' cs' 1 (-1) [0] [] ∧ Below w.heap.size w w' := by
  obtain ⟨A, n, c, B, m, d, rfl, hh⟩ := id h
  clear h hh
  go_enter Try.func36, Try.ntmps36
  go_wp2_with fail
  refine (done_any _ _ _).mono ?_
  rintro e w2 ⟨cs, rfl, hf, hb⟩
  obtain ⟨k2, kb⟩ := at_third hb
  obtain ⟨FA, fn, fc, FB, fm, fd, rfl, -⟩ := id hf
  have HF := hide hf
  have KB := hide kb
  have K2 := hide k2
  have HT := hide (k2.there (n := 5) rfl)
  clear hb k2 kb hf
  go_wp2_with ((with_reducible show wpList _ _ _ _ _ _); refine wpList_store_res (by rfl) 55 _ _ (by rfl) (w.heap.size + 1 + 1) #[.int .i64 1, .int .i64 (-1), .slice FA fn fc, .slice FB fm fd, .slice none 0 0] (by rfl) (by rfl) HT.out Try.fr_inf (fr_one _ _ _ _ _ _ _ _ _ _ _) ?_; intro wz HZ)
  obtain ⟨fs, hfs⟩ := Try.fr_und
  exact ret_stored HZ Try.results36 rfl HT.out hfs rfl Try.fr_inf rfl ⟨_, rfl, Fr.stored HZ HF.out K2.out, below_stored HZ KB.out (by omega)⟩
set_option maxHeartbeats 1000000 in
set_option maxRecDepth 100000 in
theorem claimResume_u9 (w : World) (cs : Array Value) (code v : Int) (ws ls : List Int) (ok lt : Bool) (D : Option Addr) (ln lc : Nat) (h : Fr w cs code 9 ws ls) :
    Calls Try.prog 36 #[.agg cs, .agg #[.int .u64 v, .bool ok, .bool lt, .slice D ln lc]] w fun e w' => ∃ cs', e = .returned (.agg cs') ∧ Fr w' cs' 1 (-1) [0] [] ∧ Below w.heap.size w w' := by
  obtain ⟨A, n, c, B, m, d, rfl, hh⟩ := id h
  clear h hh
  go_enter Try.func36, Try.ntmps36
  go_wp2_with fail
  refine (done_any _ _ _).mono ?_
  rintro e w2 ⟨cs, rfl, hf, hb⟩
  obtain ⟨k2, kb⟩ := at_third hb
  obtain ⟨FA, fn, fc, FB, fm, fd, rfl, -⟩ := id hf
  have HF := hide hf
  have KB := hide kb
  have K2 := hide k2
  have HT := hide (k2.there (n := 5) rfl)
  clear hb k2 kb hf
  go_wp2_with ((with_reducible show wpList _ _ _ _ _ _); refine wpList_store_res (by rfl) 55 _ _ (by rfl) (w.heap.size + 1 + 1) #[.int .i64 1, .int .i64 (-1), .slice FA fn fc, .slice FB fm fd, .slice none 0 0] (by rfl) (by rfl) HT.out Try.fr_inf (fr_one _ _ _ _ _ _ _ _ _ _ _) ?_; intro wz HZ)
  obtain ⟨fs, hfs⟩ := Try.fr_und
  exact ret_stored HZ Try.results36 rfl HT.out hfs rfl Try.fr_inf rfl ⟨_, rfl, Fr.stored HZ HF.out K2.out, below_stored HZ KB.out (by omega)⟩
set_option maxHeartbeats 1000000 in
set_option maxRecDepth 100000 in
theorem claimResume_n3 (w : World) (cs : Array Value) (code v : Int) (ws ls : List Int) (ok lt : Bool) (D : Option Addr) (ln lc : Nat) (h : Fr w cs code 3 ws ls) :
    Calls Try.prog 36 #[.agg cs, .agg #[.int .u64 v, .bool false, .bool lt, .slice D ln lc]] w fun e w' => ∃ cs', e = .returned (.agg cs') ∧ Fr w' cs' 8 (-1) [0] [] ∧ Below w.heap.size w w' := by
  obtain ⟨A, n, c, B, m, d, rfl, hh⟩ := id h
  clear h hh
  go_enter Try.func36, Try.ntmps36
  go_wp2_with fail
  refine (done_any _ _ _).mono ?_
  rintro e w2 ⟨cs, rfl, hf, hb⟩
  obtain ⟨k2, kb⟩ := at_third hb
  obtain ⟨FA, fn, fc, FB, fm, fd, rfl, -⟩ := id hf
  have HF := hide hf
  have KB := hide kb
  have K2 := hide k2
  have HT := hide (k2.there (n := 5) rfl)
  clear hb k2 kb hf
  go_wp2_with ((with_reducible show wpList _ _ _ _ _ _); refine wpList_store_res (by rfl) 55 _ _ (by rfl) (w.heap.size + 1 + 1) #[.int .i64 8, .int .i64 (-1), .slice FA fn fc, .slice FB fm fd, .slice none 0 0] (by rfl) (by rfl) HT.out Try.fr_inf (fr_one _ _ _ _ _ _ _ _ _ _ _) ?_; intro wz HZ)
  obtain ⟨fs, hfs⟩ := Try.fr_und
  exact ret_stored HZ Try.results36 rfl HT.out hfs rfl Try.fr_inf rfl ⟨_, rfl, Fr.stored HZ HF.out K2.out, below_stored HZ KB.out (by omega)⟩
set_option maxHeartbeats 1000000 in
set_option maxRecDepth 100000 in
theorem claimResume_n1 (w : World) (cs : Array Value) (code v : Int) (ws ls : List Int) (lt : Bool) (D : Option Addr) (ln lc : Nat) (h : Fr w cs code 1 ws ls) (hv : (v == 2) = false) :
    Calls Try.prog 36 #[.agg cs, .agg #[.int .u64 v, .bool false, .bool lt, .slice D ln lc]] w fun e w' => ∃ cs', e = .returned (.agg cs') ∧ Fr w' cs' 8 (-1) [0] [] ∧ Below w.heap.size w w' := by
  obtain ⟨A, n, c, B, m, d, rfl, hh⟩ := id h
  clear h hh
  go_enter Try.func36, Try.ntmps36
  go_wp2_with fail
  refine (done_any _ _ _).mono ?_
  rintro e w2 ⟨cs, rfl, hf, hb⟩
  obtain ⟨k2, kb⟩ := at_third hb
  obtain ⟨FA, fn, fc, FB, fm, fd, rfl, -⟩ := id hf
  have HF := hide hf
  have KB := hide kb
  have K2 := hide k2
  have HT := hide (k2.there (n := 5) rfl)
  clear hb k2 kb hf
  go_wp2_with ((with_reducible show wpList _ _ _ _ _ _); refine wpList_store_res (by rfl) 55 _ _ (by rfl) (w.heap.size + 1 + 1) #[.int .i64 8, .int .i64 (-1), .slice FA fn fc, .slice FB fm fd, .slice none 0 0] (by rfl) (by rfl) HT.out Try.fr_inf (fr_one _ _ _ _ _ _ _ _ _ _ _) ?_; intro wz HZ)
  obtain ⟨fs, hfs⟩ := Try.fr_und
  exact ret_stored HZ Try.results36 rfl HT.out hfs rfl Try.fr_inf rfl ⟨_, rfl, Fr.stored HZ HF.out K2.out, below_stored HZ KB.out (by omega)⟩
set_option maxHeartbeats 1000000 in
set_option maxRecDepth 100000 in
theorem claimResume_s1 (w : World) (cs : Array Value) (code v : Int) (ws ls : List Int) (ok lt : Bool) (D : Option Addr) (ln lc : Nat) (h : Fr w cs code 1 ws ls) (hv : (v == 2) = true) :
    Calls Try.prog 36 #[.agg cs, .agg #[.int .u64 v, .bool false, .bool lt, .slice D ln lc]] w fun e w' => e = .returned (.agg cs) ∧ Below w.heap.size w w' := by
  obtain ⟨A, n, c, B, m, d, rfl, hh⟩ := id h
  clear h hh
  go_enter Try.func36, Try.ntmps36
  go_wp2
  exact bodyPost_ret (v := .agg #[.int .i64 code, .int .i64 1, .slice A n c, .slice B m d, .slice none 0 0]) (by simp [results, Try.results36, go_sem]) rfl
    ⟨rfl, (by first | exact ((below_new _ _).alloc (by simp) _).alloc (by simp; omega) _ | exact (below_new _ _).alloc (by simp) _)⟩
set_option maxHeartbeats 1000000 in
set_option maxRecDepth 100000 in
theorem claimResume_se (w : World) (cs : Array Value) (code v : Int) (ws ls : List Int) (ok lt : Bool) (D : Option Addr) (ln lc : Nat) (h : Fr w cs code (-1) ws ls) (hv : True) :
    Calls Try.prog 36 #[.agg cs, .agg #[.int .u64 v, .bool ok, .bool lt, .slice D ln lc]] w fun e w' => e = .returned (.agg cs) ∧ Below w.heap.size w w' := by
  obtain ⟨A, n, c, B, m, d, rfl, hh⟩ := id h
  clear h hh
  go_enter Try.func36, Try.ntmps36
  go_wp2
  exact bodyPost_ret (v := .agg #[.int .i64 code, .int .i64 (-1), .slice A n c, .slice B m d, .slice none 0 0]) (by simp [results, Try.results36, go_sem]) rfl
    ⟨rfl, (by first | exact ((below_new _ _).alloc (by simp) _).alloc (by simp; omega) _ | exact (below_new _ _).alloc (by simp) _)⟩
set_option maxHeartbeats 1000000 in
set_option maxRecDepth 100000 in
theorem claimResume_a5 (w : World) (cs : Array Value) (code v : Int) (ws ls : List Int) (ok lt : Bool) (D : Option Addr) (ln lc : Nat) (h : Fr w cs code 5 ws ls) :
    Calls Try.prog 36 #[.agg cs, .agg #[.int .u64 v, .bool ok, .bool lt, .slice D ln lc]] w fun e w' => ∃ cs', e = .returned (.agg cs') ∧ Fr w' cs' code 6 ws ls ∧ Below w.heap.size w w' := by
  obtain ⟨A, n, c, B, m, d, rfl, hh⟩ := id h
  have HS := hide (fun o1 o2 o3 => at_any (((w.alloc o1).alloc o2).alloc o3) _ code 5 ws ls (((h.below (below_new w o1)).below (below_new _ o2)).below (below_new _ o3)) 6)
  clear h hh
  go_enter Try.func36, Try.ntmps36
  go_wp2_with fail
  refine (HS.out _ _ _).mono ?_
  rintro e w2 ⟨cs, rfl, hf, hb⟩
  obtain ⟨k2, kb⟩ := at_third hb
  obtain ⟨FA, fn, fc, FB, fm, fd, rfl, -⟩ := id hf
  have HF := hide hf
  have KB := hide kb
  have K2 := hide k2
  have HT := hide (k2.there (n := 5) rfl)
  clear hb k2 kb hf HS
  go_wp2_with ((with_reducible show wpList _ _ _ _ _ _); refine wpList_store_res (by rfl) 55 _ _ (by rfl) (w.heap.size + 1 + 1) #[.int .i64 code, .int .i64 6, .slice FA fn fc, .slice FB fm fd, .slice none 0 0] (by rfl) (by rfl) HT.out Try.fr_inf (fr_one _ _ _ _ _ _ _ _ _ _ _) ?_; intro wz HZ)
  obtain ⟨fs, hfs⟩ := Try.fr_und
  exact ret_stored HZ Try.results36 rfl HT.out hfs rfl Try.fr_inf rfl ⟨_, rfl, Fr.stored HZ HF.out K2.out, below_stored HZ KB.out (by omega)⟩
set_option maxHeartbeats 1000000 in
set_option maxRecDepth 100000 in
theorem claimResume_a6 (w : World) (cs : Array Value) (code v : Int) (ws ls : List Int) (ok lt : Bool) (D : Option Addr) (ln lc : Nat) (h : Fr w cs code 6 ws ls) :
    Calls Try.prog 36 #[.agg cs, .agg #[.int .u64 v, .bool ok, .bool lt, .slice D ln lc]] w fun e w' => ∃ cs', e = .returned (.agg cs') ∧ Fr w' cs' code 7 ws ls ∧ Below w.heap.size w w' := by
  obtain ⟨A, n, c, B, m, d, rfl, hh⟩ := id h
  have HS := hide (fun o1 o2 o3 => at_any (((w.alloc o1).alloc o2).alloc o3) _ code 6 ws ls (((h.below (below_new w o1)).below (below_new _ o2)).below (below_new _ o3)) 7)
  clear h hh
  go_enter Try.func36, Try.ntmps36
  go_wp2_with fail
  refine (HS.out _ _ _).mono ?_
  rintro e w2 ⟨cs, rfl, hf, hb⟩
  obtain ⟨k2, kb⟩ := at_third hb
  obtain ⟨FA, fn, fc, FB, fm, fd, rfl, -⟩ := id hf
  have HF := hide hf
  have KB := hide kb
  have K2 := hide k2
  have HT := hide (k2.there (n := 5) rfl)
  clear hb k2 kb hf HS
  go_wp2_with ((with_reducible show wpList _ _ _ _ _ _); refine wpList_store_res (by rfl) 55 _ _ (by rfl) (w.heap.size + 1 + 1) #[.int .i64 code, .int .i64 7, .slice FA fn fc, .slice FB fm fd, .slice none 0 0] (by rfl) (by rfl) HT.out Try.fr_inf (fr_one _ _ _ _ _ _ _ _ _ _ _) ?_; intro wz HZ)
  obtain ⟨fs, hfs⟩ := Try.fr_und
  exact ret_stored HZ Try.results36 rfl HT.out hfs rfl Try.fr_inf rfl ⟨_, rfl, Fr.stored HZ HF.out K2.out, below_stored HZ KB.out (by omega)⟩
set_option maxHeartbeats 1000000 in
set_option maxRecDepth 100000 in
theorem claimResume_a7 (w : World) (cs : Array Value) (code v : Int) (ws ls : List Int) (ok lt : Bool) (D : Option Addr) (ln lc : Nat) (h : Fr w cs code 7 ws ls) :
    Calls Try.prog 36 #[.agg cs, .agg #[.int .u64 v, .bool ok, .bool lt, .slice D ln lc]] w fun e w' => ∃ cs', e = .returned (.agg cs') ∧ Fr w' cs' code 8 ws ls ∧ Below w.heap.size w w' := by
  obtain ⟨A, n, c, B, m, d, rfl, hh⟩ := id h
  have HS := hide (fun o1 o2 o3 => at_any (((w.alloc o1).alloc o2).alloc o3) _ code 7 ws ls (((h.below (below_new w o1)).below (below_new _ o2)).below (below_new _ o3)) 8)
  clear h hh
  go_enter Try.func36, Try.ntmps36
  go_wp2_with fail
  refine (HS.out _ _ _).mono ?_
  rintro e w2 ⟨cs, rfl, hf, hb⟩
  obtain ⟨k2, kb⟩ := at_third hb
  obtain ⟨FA, fn, fc, FB, fm, fd, rfl, -⟩ := id hf
  have HF := hide hf
  have KB := hide kb
  have K2 := hide k2
  have HT := hide (k2.there (n := 5) rfl)
  clear hb k2 kb hf HS
  go_wp2_with ((with_reducible show wpList _ _ _ _ _ _); refine wpList_store_res (by rfl) 55 _ _ (by rfl) (w.heap.size + 1 + 1) #[.int .i64 code, .int .i64 8, .slice FA fn fc, .slice FB fm fd, .slice none 0 0] (by rfl) (by rfl) HT.out Try.fr_inf (fr_one _ _ _ _ _ _ _ _ _ _ _) ?_; intro wz HZ)
  obtain ⟨fs, hfs⟩ := Try.fr_und
  exact ret_stored HZ Try.results36 rfl HT.out hfs rfl Try.fr_inf rfl ⟨_, rfl, Fr.stored HZ HF.out K2.out, below_stored HZ KB.out (by omega)⟩
set_option maxHeartbeats 1000000 in
set_option maxRecDepth 100000 in
theorem claimResume_a8 (w : World) (cs : Array Value) (code v : Int) (ws ls : List Int) (ok lt : Bool) (D : Option Addr) (ln lc : Nat) (h : Fr w cs code 8 ws ls) :
    Calls Try.prog 36 #[.agg cs, .agg #[.int .u64 v, .bool ok, .bool lt, .slice D ln lc]] w fun e w' => ∃ cs', e = .returned (.agg cs') ∧ Fr w' cs' code 9 ws ls ∧ Below w.heap.size w w' := by
  obtain ⟨A, n, c, B, m, d, rfl, hh⟩ := id h
  have HS := hide (fun o1 o2 o3 => at_any (((w.alloc o1).alloc o2).alloc o3) _ code 8 ws ls (((h.below (below_new w o1)).below (below_new _ o2)).below (below_new _ o3)) 9)
  clear h hh
  go_enter Try.func36, Try.ntmps36
  go_wp2_with fail
  refine (HS.out _ _ _).mono ?_
  rintro e w2 ⟨cs, rfl, hf, hb⟩
  obtain ⟨k2, kb⟩ := at_third hb
  obtain ⟨FA, fn, fc, FB, fm, fd, rfl, -⟩ := id hf
  have HF := hide hf
  have KB := hide kb
  have K2 := hide k2
  have HT := hide (k2.there (n := 5) rfl)
  clear hb k2 kb hf HS
  go_wp2_with ((with_reducible show wpList _ _ _ _ _ _); refine wpList_store_res (by rfl) 55 _ _ (by rfl) (w.heap.size + 1 + 1) #[.int .i64 code, .int .i64 9, .slice FA fn fc, .slice FB fm fd, .slice none 0 0] (by rfl) (by rfl) HT.out Try.fr_inf (fr_one _ _ _ _ _ _ _ _ _ _ _) ?_; intro wz HZ)
  obtain ⟨fs, hfs⟩ := Try.fr_und
  exact ret_stored HZ Try.results36 rfl HT.out hfs rfl Try.fr_inf rfl ⟨_, rfl, Fr.stored HZ HF.out K2.out, below_stored HZ KB.out (by omega)⟩
end Go.Proofs.Ytadaoobdnnleaaa
