/- Contracts: the machines of a ring. -/
import Derived.Test.YtepngbdjobckbaaGreatR2
namespace Go.Proofs.YtepngbdjobckbaaGreat
open Go.RowKit
set_option linter.unusedVariables false
set_option maxHeartbeats 1000000 in
set_option maxRecDepth 100000 in
theorem shutNext_1 (w : World) (cs : Array Value) (t q0 q1 q2 z cp : Int) (z1 : 1 ≤ z) (z2 : z ≤ 16) (p1 : 0 ≤ q2) (p2 : q2 ≤ 1000) (c1 : 0 ≤ cp) (c2 : cp ≤ 16) (h : Fr w cs 0 1 [t] [q0, q1, q2, z, cp]) :
    Calls Tryz.prog 71 #[.agg cs] w fun e w' => e = .returned (.agg (Acc.cells ⟨1, q0, 0, 0⟩)) ∧ Below w.heap.size w w' := by
  obtain ⟨A, n, c, B, m, d, rfl, hh⟩ := id h
  have WD := hide (fun W (hW : Below w.heap.size w W) => show Calls Tryz.prog 57 #[.agg #[.int .i64 0, .int .i64 1, .slice A n c, .slice B m d, .slice none 0 0], .int .i64 0] W fun e w' => e = .returned (.int .u64 t) ∧ Below W.heap.size W w' from word_any W _ 0 1 [t] [q0, q1, q2, z, cp] (h.below hW) 0 (by omega))
  have RT := hide (fun W (hW : Below w.heap.size w W) => ringTail_any W _ 0 1 [t] [q0, q1, q2, z, cp] (h.below hW) q0 rfl)
  have LD := hide (fun W (hW : Below w.heap.size w W) => ringLoad_any W (q0))
  have E0 : Hid (E2 w ((w.alloc (.cells #[.int .i64 0, .int .i64 1, .slice A n c, .slice B m d, .slice none 0 0] 51)).alloc (.cells #[.int .i64 0, .int .i64 0, .int .u64 0, .int .u64 0, .int .i64 0] 56)) 51 56 #[.int .i64 0, .int .i64 1, .slice A n c, .slice B m d, .slice none 0 0] #[.int .i64 0, .int .i64 0, .int .u64 0, .int .u64 0, .int .i64 0]) := hide (E2.of (Below.refl _ _))
  clear h hh
  go_enter Tryz.func71, Tryz.ntmps71
  go_wp2_with fail
  refine (WD.out _ E0.out.bel).mono ?_
  rintro e v1 ⟨rfl, hb⟩
  have E1 := hide (E0.out.next hb)
  clear hb
  obtain ⟨f0, f1, f2, f3, f4, -⟩ := bk5 E1.out.b1
  have l1 := E1.out.b1.lt
  have l2 := E1.out.b2.lt
  go_wp2_with fail
  refine (RT.out _ E1.out.bel).mono ?_
  rintro e v2 ⟨rfl, hb⟩
  have E2 := hide (E1.out.next hb)
  clear f0 f1 f2 f3 f4 l1 l2
  clear hb
  obtain ⟨f0, f1, f2, f3, f4, -⟩ := bk5 E2.out.b1
  have l1 := E2.out.b1.lt
  have l2 := E2.out.b2.lt
  go_wp2_with fail
  refine (LD.out _ E2.out.bel).mono ?_
  rintro e v3 ⟨rfl, hb⟩
  have E3 := hide (E2.out.next hb)
  clear f0 f1 f2 f3 f4 l1 l2
  clear hb
  obtain ⟨f0, f1, f2, f3, f4, -⟩ := bk5 E3.out.b1
  have l1 := E3.out.b1.lt
  have l2 := E3.out.b2.lt
  have HT := hide (E3.out.b2.there (n := 5) rfl)
  go_wp2_with ((with_reducible show wpList _ _ _ _ _ _); refine wpList_store_res (by rfl) 56 _ _ (by rfl) (w.heap.size + 1) (Acc.cells ⟨1, q0, 0, 0⟩) (by rfl) (by rfl) HT.out Tryz.ac_inf (ac_one _) ?_; intro wz HZ)
  obtain ⟨fs, hfs⟩ := Tryz.ac_und
  exact ret_stored HZ Tryz.results71 rfl HT.out hfs rfl Tryz.ac_inf rfl ⟨rfl, below_stored HZ E3.out.bel (by omega)⟩
set_option maxHeartbeats 1000000 in
set_option maxRecDepth 100000 in
theorem shutNext_2 (w : World) (cs : Array Value) (t q0 q1 q2 z cp : Int) (z1 : 1 ≤ z) (z2 : z ≤ 16) (p1 : 0 ≤ q2) (p2 : q2 ≤ 1000) (c1 : 0 ≤ cp) (c2 : cp ≤ 16) (h : Fr w cs 0 2 [t] [q0, q1, q2, z, cp]) :
    Calls Tryz.prog 71 #[.agg cs] w fun e w' => e = .returned (.agg (Acc.cells ⟨3, q0, t, pk (t / 2) true⟩)) ∧ Below w.heap.size w w' := by
  obtain ⟨A, n, c, B, m, d, rfl, hh⟩ := id h
  have WD := hide (fun W (hW : Below w.heap.size w W) => show Calls Tryz.prog 57 #[.agg #[.int .i64 0, .int .i64 2, .slice A n c, .slice B m d, .slice none 0 0], .int .i64 0] W fun e w' => e = .returned (.int .u64 t) ∧ Below W.heap.size W w' from word_any W _ 0 2 [t] [q0, q1, q2, z, cp] (h.below hW) 0 (by omega))
  have RT := hide (fun W (hW : Below w.heap.size w W) => ringTail_any W _ 0 2 [t] [q0, q1, q2, z, cp] (h.below hW) q0 rfl)
  have E0 : Hid (E2 w ((w.alloc (.cells #[.int .i64 0, .int .i64 2, .slice A n c, .slice B m d, .slice none 0 0] 51)).alloc (.cells #[.int .i64 0, .int .i64 0, .int .u64 0, .int .u64 0, .int .i64 0] 56)) 51 56 #[.int .i64 0, .int .i64 2, .slice A n c, .slice B m d, .slice none 0 0] #[.int .i64 0, .int .i64 0, .int .u64 0, .int .u64 0, .int .i64 0]) := hide (E2.of (Below.refl _ _))
  clear h hh
  go_enter Tryz.func71, Tryz.ntmps71
  go_wp2_with fail
  refine (WD.out _ E0.out.bel).mono ?_
  rintro e v1 ⟨rfl, hb⟩
  have E1 := hide (E0.out.next hb)
  clear hb
  obtain ⟨f0, f1, f2, f3, f4, -⟩ := bk5 E1.out.b1
  have l1 := E1.out.b1.lt
  have l2 := E1.out.b2.lt
  go_wp2_with fail
  refine (RT.out _ E1.out.bel).mono ?_
  rintro e v2 ⟨rfl, hb⟩
  have E2 := hide (E1.out.next hb)
  clear f0 f1 f2 f3 f4 l1 l2
  clear hb
  obtain ⟨f0, f1, f2, f3, f4, -⟩ := bk5 E2.out.b1
  have l1 := E2.out.b1.lt
  have l2 := E2.out.b2.lt
  go_wp2_with fail
  refine (seq_any _ _).mono ?_
  rintro e v ⟨rfl, rfl⟩
  go_wp2_with fail
  refine (pack_any _ _ _).mono ?_
  rintro e v ⟨rfl, rfl⟩
  have HT := hide (E2.out.b2.there (n := 5) rfl)
  go_wp2_with ((with_reducible show wpList _ _ _ _ _ _); refine wpList_store_res (by rfl) 56 _ _ (by rfl) (w.heap.size + 1) (Acc.cells ⟨3, q0, t, pk (t / 2) true⟩) (by rfl) (by rfl) HT.out Tryz.ac_inf (ac_one _) ?_; intro wz HZ)
  obtain ⟨fs, hfs⟩ := Tryz.ac_und
  exact ret_stored HZ Tryz.results71 rfl HT.out hfs rfl Tryz.ac_inf rfl ⟨rfl, below_stored HZ E2.out.bel (by omega)⟩
set_option maxHeartbeats 1000000 in
set_option maxRecDepth 100000 in
theorem shutNext_e (w : World) (cs : Array Value) (code v : Int) (h : Fr w cs code (-1) [v] []) :
    Calls Tryz.prog 71 #[.agg cs] w fun e w' => e = .returned (.agg (Acc.cells ⟨0, 0, 0, 0⟩)) ∧ Below w.heap.size w w' := by
  obtain ⟨A, n, c, B, m, d, rfl, hh⟩ := id h
  have WD := hide (fun o1 o2 => show Calls Tryz.prog 57 #[.agg #[.int .i64 code, .int .i64 (-1), .slice A n c, .slice B m d, .slice none 0 0], .int .i64 0] ((w.alloc o1).alloc o2) fun e w' => e = .returned (.int .u64 v) ∧ Below ((w.alloc o1).alloc o2).heap.size ((w.alloc o1).alloc o2) w' from word_any _ _ code (-1) [v] [] ((h.below (below_new w o1)).below (below_new _ o2)) 0 (by omega))
  clear h hh
  go_enter Tryz.func71, Tryz.ntmps71
  go_wp2_with fail
  refine (WD.out _ _).mono ?_
  rintro e v1 ⟨rfl, hb⟩
  have E1 : Hid (E2 w v1 51 56 #[.int .i64 code, .int .i64 (-1), .slice A n c, .slice B m d, .slice none 0 0] #[.int .i64 0, .int .i64 0, .int .u64 0, .int .u64 0, .int .i64 0]) := hide (E2.of hb)
  clear hb WD
  obtain ⟨f0, f1, f2, f3, f4, -⟩ := bk5 E1.out.b1
  have l1 := E1.out.b1.lt
  have l2 := E1.out.b2.lt
  have HT := hide (E1.out.b2.there (n := 5) rfl)
  go_wp2_with ((with_reducible show wpList _ _ _ _ _ _); refine wpList_store_res (by rfl) 56 _ _ (by rfl) (w.heap.size + 1) (Acc.cells ⟨0, 0, 0, 0⟩) (by rfl) (by rfl) HT.out Tryz.ac_inf (ac_one _) ?_; intro wz HZ)
  obtain ⟨fs, hfs⟩ := Tryz.ac_und
  exact ret_stored HZ Tryz.results71 rfl HT.out hfs rfl Tryz.ac_inf rfl ⟨rfl, below_stored HZ E1.out.bel (by omega)⟩
set_option maxHeartbeats 1000000 in
set_option maxRecDepth 100000 in
theorem shutResume_1c (w : World) (cs : Array Value) (t q0 q1 q2 z cp a : Int) (ok : Bool) (lt : Bool) (D : Option Addr) (ln lc : Nat) (z1 : 1 ≤ z) (z2 : z ≤ 16) (p1 : 0 ≤ q2) (p2 : q2 ≤ 1000) (c1 : 0 ≤ cp) (c2 : cp ≤ 16) (u1 : 0 ≤ a ∧ a ≤ 18446744073709551615) (hc : cl a = true) (h : Fr w cs 0 1 [t] [q0, q1, q2, z, cp]) :
    Calls Tryz.prog 74 #[.agg cs, .agg #[.int .u64 a, .bool ok, .bool lt, .slice D ln lc]] w fun e w' => ∃ cs', e = .returned (.agg cs') ∧ Fr w' cs' 4 (-1) [0] [] ∧ Below w.heap.size w w' := by
  obtain ⟨A, n, c, B, m, d, rfl, hh⟩ := id h
  have CL := hide (fun W => closed_any a W u1.1 u1.2)
  have H0 := hide h
  have E0 : Hid (E3 w (((w.alloc (.cells #[.int .i64 0, .int .i64 1, .slice A n c, .slice B m d, .slice none 0 0] 51)).alloc (.cells #[.int .u64 a, .bool ok, .bool lt, .slice D ln lc] 86)).alloc (.cells #[.int .i64 0, .int .i64 0, .slice none 0 0, .slice none 0 0, .slice none 0 0] 51)) 51 86 51 #[.int .i64 0, .int .i64 1, .slice A n c, .slice B m d, .slice none 0 0] #[.int .u64 a, .bool ok, .bool lt, .slice D ln lc] #[.int .i64 0, .int .i64 0, .slice none 0 0, .slice none 0 0, .slice none 0 0]) := hide (E3.of (Below.refl _ _))
  clear h hh
  go_enter Tryz.func74, Tryz.ntmps74
  have hcl := hide hc
  clear hc
  go_wp2_with fail
  refine (CL.out _).mono ?_
  rintro e v ⟨rfl, rfl⟩
  have hc := hcl.out
  go_wp2_with fail
  refine (done_any _ 4 0).mono ?_
  rintro e v1 ⟨cs1, rfl, hf, hb⟩
  obtain ⟨A1, n1, c1, B1, m1, d1, rfl, -⟩ := id hf
  have H1 := hide hf
  clear hf
  have E1 := hide (E0.out.next hb)
  clear hb
  obtain ⟨f0, f1, f2, f3, f4, -⟩ := bk5 E1.out.b1
  have l1 := E1.out.b1.lt
  have l2 := E1.out.b2.lt
  obtain ⟨a0, a1, a2, a3, -⟩ := bk4 E1.out.b2
  have l3 := E1.out.b3.lt
  have HT := hide (E1.out.b3.there (n := 5) rfl)
  go_wp2_with ((with_reducible show wpList _ _ _ _ _ _); refine wpList_store_res (by rfl) 51 _ _ (by rfl) (w.heap.size + 1 + 1) #[.int .i64 4, .int .i64 (-1), .slice A1 n1 c1, .slice B1 m1 d1, .slice none 0 0] (by rfl) (by rfl) HT.out Tryz.fr_inf (fr_one _ _ _ _ _ _ _ _ _ _ _) ?_; intro wz HZ)
  obtain ⟨fs, hfs⟩ := Tryz.fr_und
  exact ret_stored HZ Tryz.results74 rfl HT.out hfs rfl Tryz.fr_inf rfl ⟨_, rfl, Fr.stored HZ H1.out E1.out.b3, below_stored HZ E1.out.bel (by omega)⟩
set_option maxHeartbeats 1000000 in
set_option maxRecDepth 100000 in
theorem shutResume_1o (w : World) (cs : Array Value) (t q0 q1 q2 z cp a : Int) (ok : Bool) (lt : Bool) (D : Option Addr) (ln lc : Nat) (z1 : 1 ≤ z) (z2 : z ≤ 16) (p1 : 0 ≤ q2) (p2 : q2 ≤ 1000) (c1 : 0 ≤ cp) (c2 : cp ≤ 16) (u1 : 0 ≤ a ∧ a ≤ 18446744073709551615) (hc : cl a = false) (h : Fr w cs 0 1 [t] [q0, q1, q2, z, cp]) :
    Calls Tryz.prog 74 #[.agg cs, .agg #[.int .u64 a, .bool ok, .bool lt, .slice D ln lc]] w fun e w' => ∃ cs', e = .returned (.agg cs') ∧ Fr w' cs' 0 2 [a] [q0, q1, q2, z, cp] ∧ Below w.heap.size w w' := by
  obtain ⟨A, n, c, B, m, d, rfl, hh⟩ := id h
  have CL := hide (fun W => closed_any a W u1.1 u1.2)
  have H0 := hide h
  have E0 : Hid (E3 w (((w.alloc (.cells #[.int .i64 0, .int .i64 1, .slice A n c, .slice B m d, .slice none 0 0] 51)).alloc (.cells #[.int .u64 a, .bool ok, .bool lt, .slice D ln lc] 86)).alloc (.cells #[.int .i64 0, .int .i64 0, .slice none 0 0, .slice none 0 0, .slice none 0 0] 51)) 51 86 51 #[.int .i64 0, .int .i64 1, .slice A n c, .slice B m d, .slice none 0 0] #[.int .u64 a, .bool ok, .bool lt, .slice D ln lc] #[.int .i64 0, .int .i64 0, .slice none 0 0, .slice none 0 0, .slice none 0 0]) := hide (E3.of (Below.refl _ _))
  clear h hh
  go_enter Tryz.func74, Tryz.ntmps74
  have hcl := hide hc
  clear hc
  go_wp2_with fail
  refine (CL.out _).mono ?_
  rintro e v ⟨rfl, rfl⟩
  have hc := hcl.out
  go_wp2_with fail
  refine (with_any _ _ 0 1 [t] [q0, q1, q2, z, cp] (H0.out.below (E0.out.bel)) 0 a (by simp)).mono ?_
  rintro e v1 ⟨cs1, rfl, hf, hb⟩
  obtain ⟨A1, n1, c1, B1, m1, d1, rfl, -⟩ := id hf
  have H1 := hide hf
  clear hf
  have E1 := hide (E0.out.next hb)
  clear hb
  obtain ⟨f0, f1, f2, f3, f4, -⟩ := bk5 E1.out.b1
  have l1 := E1.out.b1.lt
  have l2 := E1.out.b2.lt
  obtain ⟨a0, a1, a2, a3, -⟩ := bk4 E1.out.b2
  have l3 := E1.out.b3.lt
  go_wp2_with fail
  refine (at_any _ _ 0 1 [a] [q0, q1, q2, z, cp] H1.out 2).mono ?_
  rintro e v2 ⟨cs2, rfl, hf, hb⟩
  obtain ⟨A2, n2, c2, B2, m2, d2, rfl, -⟩ := id hf
  have H2 := hide hf
  clear hf
  have E2 := hide (E1.out.next hb)
  clear f0 f1 f2 f3 f4 l1 l2 a0 a1 a2 a3 l3
  clear hb
  obtain ⟨f0, f1, f2, f3, f4, -⟩ := bk5 E2.out.b1
  have l1 := E2.out.b1.lt
  have l2 := E2.out.b2.lt
  obtain ⟨a0, a1, a2, a3, -⟩ := bk4 E2.out.b2
  have l3 := E2.out.b3.lt
  have HT := hide (E2.out.b3.there (n := 5) rfl)
  go_wp2_with ((with_reducible show wpList _ _ _ _ _ _); refine wpList_store_res (by rfl) 51 _ _ (by rfl) (w.heap.size + 1 + 1) #[.int .i64 0, .int .i64 2, .slice A2 n2 c2, .slice B2 m2 d2, .slice none 0 0] (by rfl) (by rfl) HT.out Tryz.fr_inf (fr_one _ _ _ _ _ _ _ _ _ _ _) ?_; intro wz HZ)
  obtain ⟨fs, hfs⟩ := Tryz.fr_und
  exact ret_stored HZ Tryz.results74 rfl HT.out hfs rfl Tryz.fr_inf rfl ⟨_, rfl, Fr.stored HZ H2.out E2.out.b3, below_stored HZ E2.out.bel (by omega)⟩
set_option maxHeartbeats 1000000 in
set_option maxRecDepth 100000 in
theorem shutResume_2y (w : World) (cs : Array Value) (t q0 q1 q2 z cp a : Int) (lt : Bool) (D : Option Addr) (ln lc : Nat) (z1 : 1 ≤ z) (z2 : z ≤ 16) (p1 : 0 ≤ q2) (p2 : q2 ≤ 1000) (c1 : 0 ≤ cp) (c2 : cp ≤ 16) (h : Fr w cs 0 2 [t] [q0, q1, q2, z, cp]) :
    Calls Tryz.prog 74 #[.agg cs, .agg #[.int .u64 a, .bool true, .bool lt, .slice D ln lc]] w fun e w' => ∃ cs', e = .returned (.agg cs') ∧ Fr w' cs' 1 (-1) [0] [] ∧ Below w.heap.size w w' := by
  obtain ⟨A, n, c, B, m, d, rfl, hh⟩ := id h
  have H0 := hide h
  have E0 : Hid (E3 w (((w.alloc (.cells #[.int .i64 0, .int .i64 2, .slice A n c, .slice B m d, .slice none 0 0] 51)).alloc (.cells #[.int .u64 a, .bool true, .bool lt, .slice D ln lc] 86)).alloc (.cells #[.int .i64 0, .int .i64 0, .slice none 0 0, .slice none 0 0, .slice none 0 0] 51)) 51 86 51 #[.int .i64 0, .int .i64 2, .slice A n c, .slice B m d, .slice none 0 0] #[.int .u64 a, .bool true, .bool lt, .slice D ln lc] #[.int .i64 0, .int .i64 0, .slice none 0 0, .slice none 0 0, .slice none 0 0]) := hide (E3.of (Below.refl _ _))
  clear h hh
  go_enter Tryz.func74, Tryz.ntmps74
  go_wp2_with fail
  refine (done_any _ 1 0).mono ?_
  rintro e v1 ⟨cs1, rfl, hf, hb⟩
  obtain ⟨A1, n1, c1, B1, m1, d1, rfl, -⟩ := id hf
  have H1 := hide hf
  clear hf
  have E1 := hide (E0.out.next hb)
  clear hb
  obtain ⟨f0, f1, f2, f3, f4, -⟩ := bk5 E1.out.b1
  have l1 := E1.out.b1.lt
  have l2 := E1.out.b2.lt
  obtain ⟨a0, a1, a2, a3, -⟩ := bk4 E1.out.b2
  have l3 := E1.out.b3.lt
  have HT := hide (E1.out.b3.there (n := 5) rfl)
  go_wp2_with ((with_reducible show wpList _ _ _ _ _ _); refine wpList_store_res (by rfl) 51 _ _ (by rfl) (w.heap.size + 1 + 1) #[.int .i64 1, .int .i64 (-1), .slice A1 n1 c1, .slice B1 m1 d1, .slice none 0 0] (by rfl) (by rfl) HT.out Tryz.fr_inf (fr_one _ _ _ _ _ _ _ _ _ _ _) ?_; intro wz HZ)
  obtain ⟨fs, hfs⟩ := Tryz.fr_und
  exact ret_stored HZ Tryz.results74 rfl HT.out hfs rfl Tryz.fr_inf rfl ⟨_, rfl, Fr.stored HZ H1.out E1.out.b3, below_stored HZ E1.out.bel (by omega)⟩
set_option maxHeartbeats 1000000 in
set_option maxRecDepth 100000 in
theorem shutResume_2n (w : World) (cs : Array Value) (t q0 q1 q2 z cp a : Int) (lt : Bool) (D : Option Addr) (ln lc : Nat) (z1 : 1 ≤ z) (z2 : z ≤ 16) (p1 : 0 ≤ q2) (p2 : q2 ≤ 1000) (c1 : 0 ≤ cp) (c2 : cp ≤ 16) (h : Fr w cs 0 2 [t] [q0, q1, q2, z, cp]) :
    Calls Tryz.prog 74 #[.agg cs, .agg #[.int .u64 a, .bool false, .bool lt, .slice D ln lc]] w fun e w' => ∃ cs', e = .returned (.agg cs') ∧ Fr w' cs' 0 1 [t] [q0, q1, q2, z, cp] ∧ Below w.heap.size w w' := by
  obtain ⟨A, n, c, B, m, d, rfl, hh⟩ := id h
  have H0 := hide h
  have E0 : Hid (E3 w (((w.alloc (.cells #[.int .i64 0, .int .i64 2, .slice A n c, .slice B m d, .slice none 0 0] 51)).alloc (.cells #[.int .u64 a, .bool false, .bool lt, .slice D ln lc] 86)).alloc (.cells #[.int .i64 0, .int .i64 0, .slice none 0 0, .slice none 0 0, .slice none 0 0] 51)) 51 86 51 #[.int .i64 0, .int .i64 2, .slice A n c, .slice B m d, .slice none 0 0] #[.int .u64 a, .bool false, .bool lt, .slice D ln lc] #[.int .i64 0, .int .i64 0, .slice none 0 0, .slice none 0 0, .slice none 0 0]) := hide (E3.of (Below.refl _ _))
  clear h hh
  go_enter Tryz.func74, Tryz.ntmps74
  go_wp2_with fail
  refine (at_any _ _ 0 2 [t] [q0, q1, q2, z, cp] (H0.out.below (E0.out.bel)) 1).mono ?_
  rintro e v1 ⟨cs1, rfl, hf, hb⟩
  obtain ⟨A1, n1, c1, B1, m1, d1, rfl, -⟩ := id hf
  have H1 := hide hf
  clear hf
  have E1 := hide (E0.out.next hb)
  clear hb
  obtain ⟨f0, f1, f2, f3, f4, -⟩ := bk5 E1.out.b1
  have l1 := E1.out.b1.lt
  have l2 := E1.out.b2.lt
  obtain ⟨a0, a1, a2, a3, -⟩ := bk4 E1.out.b2
  have l3 := E1.out.b3.lt
  have HT := hide (E1.out.b3.there (n := 5) rfl)
  go_wp2_with ((with_reducible show wpList _ _ _ _ _ _); refine wpList_store_res (by rfl) 51 _ _ (by rfl) (w.heap.size + 1 + 1) #[.int .i64 0, .int .i64 1, .slice A1 n1 c1, .slice B1 m1 d1, .slice none 0 0] (by rfl) (by rfl) HT.out Tryz.fr_inf (fr_one _ _ _ _ _ _ _ _ _ _ _) ?_; intro wz HZ)
  obtain ⟨fs, hfs⟩ := Tryz.fr_und
  exact ret_stored HZ Tryz.results74 rfl HT.out hfs rfl Tryz.fr_inf rfl ⟨_, rfl, Fr.stored HZ H1.out E1.out.b3, below_stored HZ E1.out.bel (by omega)⟩
set_option maxHeartbeats 1000000 in
set_option maxRecDepth 100000 in
theorem shutResume_e (w : World) (cs : Array Value) (co v q0 q1 q2 z cp a : Int) (ok : Bool) (lt : Bool) (D : Option Addr) (ln lc : Nat) (z1 : 1 ≤ z) (z2 : z ≤ 16) (p1 : 0 ≤ q2) (p2 : q2 ≤ 1000) (c1 : 0 ≤ cp) (c2 : cp ≤ 16) (h : Fr w cs co (-1) [v] []) :
    Calls Tryz.prog 74 #[.agg cs, .agg #[.int .u64 a, .bool ok, .bool lt, .slice D ln lc]] w fun e w' => ∃ cs', e = .returned (.agg cs') ∧ Fr w' cs' co (-1) [v] [] ∧ Below w.heap.size w w' := by
  obtain ⟨A, n, c, B, m, d, rfl, hh⟩ := id h
  have H0 := hide h
  have E0 : Hid (E3 w (((w.alloc (.cells #[.int .i64 co, .int .i64 (-1), .slice A n c, .slice B m d, .slice none 0 0] 51)).alloc (.cells #[.int .u64 a, .bool ok, .bool lt, .slice D ln lc] 86)).alloc (.cells #[.int .i64 0, .int .i64 0, .slice none 0 0, .slice none 0 0, .slice none 0 0] 51)) 51 86 51 #[.int .i64 co, .int .i64 (-1), .slice A n c, .slice B m d, .slice none 0 0] #[.int .u64 a, .bool ok, .bool lt, .slice D ln lc] #[.int .i64 0, .int .i64 0, .slice none 0 0, .slice none 0 0, .slice none 0 0]) := hide (E3.of (Below.refl _ _))
  clear h hh
  go_enter Tryz.func74, Tryz.ntmps74
  go_wp2
  exact bodyPost_ret (v := .agg #[.int .i64 co, .int .i64 (-1), .slice A n c, .slice B m d, .slice none 0 0]) (by simp [results, Tryz.results74, go_sem]) rfl ⟨_, rfl, H0.out.below (((below_new _ _).alloc (by simp) _).alloc (by simp; omega) _), ((below_new _ _).alloc (by simp) _).alloc (by simp; omega) _⟩
end Go.Proofs.YtepngbdjobckbaaGreat
