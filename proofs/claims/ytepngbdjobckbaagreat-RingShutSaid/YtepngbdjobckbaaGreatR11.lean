/- Contracts: the machines of a ring. -/
import Derived.Test.YtepngbdjobckbaaGreatR2
namespace Go.Proofs.YtepngbdjobckbaaGreat
open Go.RowKit
set_option linter.unusedVariables false
set_option maxHeartbeats 1000000 in
set_option maxRecDepth 100000 in
theorem countNext_1 (w : World) (cs : Array Value) (t hd q0 q1 q2 z cp : Int) (z1 : 1 ≤ z) (z2 : z ≤ 16) (p1 : 0 ≤ q2) (p2 : q2 ≤ 1000) (c1 : 0 ≤ cp) (c2 : cp ≤ 16) (h : Fr w cs 0 1 [t, hd] [q0, q1, q2, z, cp]) :
    Calls Tryz.prog 52 #[.agg cs] w fun e w' => e = .returned (.agg (Acc.cells ⟨1, q0, 0, 0⟩)) ∧ Below w.heap.size w w' := by
  obtain ⟨A, n, c, B, m, d, rfl, hh⟩ := id h
  have RT := hide (fun W (hW : Below w.heap.size w W) => ringTail_any W _ 0 1 [t, hd] [q0, q1, q2, z, cp] (h.below hW) q0 rfl)
  have LD := hide (fun W (hW : Below w.heap.size w W) => ringLoad_any W (q0))
  have E0 : Hid (E2 w ((w.alloc (.cells #[.int .i64 0, .int .i64 1, .slice A n c, .slice B m d, .slice none 0 0] 51)).alloc (.cells #[.int .i64 0, .int .i64 0, .int .u64 0, .int .u64 0, .int .i64 0] 56)) 51 56 #[.int .i64 0, .int .i64 1, .slice A n c, .slice B m d, .slice none 0 0] #[.int .i64 0, .int .i64 0, .int .u64 0, .int .u64 0, .int .i64 0]) := hide (E2.of (Below.refl _ _))
  clear h hh
  go_enter Tryz.func52, Tryz.ntmps52
  go_wp2_with fail
  refine (RT.out _ E0.out.bel).mono ?_
  rintro e v1 ⟨rfl, hb⟩
  have E1 := hide (E0.out.next hb)
  clear hb
  obtain ⟨f0, f1, f2, f3, f4, -⟩ := bk5 E1.out.b1
  have l1 := E1.out.b1.lt
  have l2 := E1.out.b2.lt
  go_wp2_with fail
  refine (LD.out _ E1.out.bel).mono ?_
  rintro e v2 ⟨rfl, hb⟩
  have E2 := hide (E1.out.next hb)
  clear f0 f1 f2 f3 f4 l1 l2
  clear hb
  obtain ⟨f0, f1, f2, f3, f4, -⟩ := bk5 E2.out.b1
  have l1 := E2.out.b1.lt
  have l2 := E2.out.b2.lt
  have HT := hide (E2.out.b2.there (n := 5) rfl)
  go_wp2_with ((with_reducible show wpList _ _ _ _ _ _); refine wpList_store_res (by rfl) 56 _ _ (by rfl) (w.heap.size + 1) (Acc.cells ⟨1, q0, 0, 0⟩) (by rfl) (by rfl) HT.out Tryz.ac_inf (ac_one _) ?_; intro wz HZ)
  obtain ⟨fs, hfs⟩ := Tryz.ac_und
  exact ret_stored HZ Tryz.results52 rfl HT.out hfs rfl Tryz.ac_inf rfl ⟨rfl, below_stored HZ E2.out.bel (by omega)⟩
set_option maxHeartbeats 1000000 in
set_option maxRecDepth 100000 in
theorem countNext_2 (w : World) (cs : Array Value) (t hd q0 q1 q2 z cp : Int) (z1 : 1 ≤ z) (z2 : z ≤ 16) (p1 : 0 ≤ q2) (p2 : q2 ≤ 1000) (c1 : 0 ≤ cp) (c2 : cp ≤ 16) (h : Fr w cs 0 2 [t, hd] [q0, q1, q2, z, cp]) :
    Calls Tryz.prog 52 #[.agg cs] w fun e w' => e = .returned (.agg (Acc.cells ⟨1, q1, 0, 0⟩)) ∧ Below w.heap.size w w' := by
  obtain ⟨A, n, c, B, m, d, rfl, hh⟩ := id h
  have RH := hide (fun W (hW : Below w.heap.size w W) => ringHead_any W _ 0 2 [t, hd] [q0, q1, q2, z, cp] (h.below hW) q1 rfl)
  have LD := hide (fun W (hW : Below w.heap.size w W) => ringLoad_any W (q1))
  have E0 : Hid (E2 w ((w.alloc (.cells #[.int .i64 0, .int .i64 2, .slice A n c, .slice B m d, .slice none 0 0] 51)).alloc (.cells #[.int .i64 0, .int .i64 0, .int .u64 0, .int .u64 0, .int .i64 0] 56)) 51 56 #[.int .i64 0, .int .i64 2, .slice A n c, .slice B m d, .slice none 0 0] #[.int .i64 0, .int .i64 0, .int .u64 0, .int .u64 0, .int .i64 0]) := hide (E2.of (Below.refl _ _))
  clear h hh
  go_enter Tryz.func52, Tryz.ntmps52
  go_wp2_with fail
  refine (RH.out _ E0.out.bel).mono ?_
  rintro e v1 ⟨rfl, hb⟩
  have E1 := hide (E0.out.next hb)
  clear hb
  obtain ⟨f0, f1, f2, f3, f4, -⟩ := bk5 E1.out.b1
  have l1 := E1.out.b1.lt
  have l2 := E1.out.b2.lt
  go_wp2_with fail
  refine (LD.out _ E1.out.bel).mono ?_
  rintro e v2 ⟨rfl, hb⟩
  have E2 := hide (E1.out.next hb)
  clear f0 f1 f2 f3 f4 l1 l2
  clear hb
  obtain ⟨f0, f1, f2, f3, f4, -⟩ := bk5 E2.out.b1
  have l1 := E2.out.b1.lt
  have l2 := E2.out.b2.lt
  have HT := hide (E2.out.b2.there (n := 5) rfl)
  go_wp2_with ((with_reducible show wpList _ _ _ _ _ _); refine wpList_store_res (by rfl) 56 _ _ (by rfl) (w.heap.size + 1) (Acc.cells ⟨1, q1, 0, 0⟩) (by rfl) (by rfl) HT.out Tryz.ac_inf (ac_one _) ?_; intro wz HZ)
  obtain ⟨fs, hfs⟩ := Tryz.ac_und
  exact ret_stored HZ Tryz.results52 rfl HT.out hfs rfl Tryz.ac_inf rfl ⟨rfl, below_stored HZ E2.out.bel (by omega)⟩
set_option maxHeartbeats 1000000 in
set_option maxRecDepth 100000 in
theorem countNext_3 (w : World) (cs : Array Value) (t hd q0 q1 q2 z cp : Int) (z1 : 1 ≤ z) (z2 : z ≤ 16) (p1 : 0 ≤ q2) (p2 : q2 ≤ 1000) (c1 : 0 ≤ cp) (c2 : cp ≤ 16) (h : Fr w cs 0 3 [t, hd] [q0, q1, q2, z, cp]) :
    Calls Tryz.prog 52 #[.agg cs] w fun e w' => e = .returned (.agg (Acc.cells ⟨1, q0, 0, 0⟩)) ∧ Below w.heap.size w w' := by
  obtain ⟨A, n, c, B, m, d, rfl, hh⟩ := id h
  have RT := hide (fun W (hW : Below w.heap.size w W) => ringTail_any W _ 0 3 [t, hd] [q0, q1, q2, z, cp] (h.below hW) q0 rfl)
  have LD := hide (fun W (hW : Below w.heap.size w W) => ringLoad_any W (q0))
  have E0 : Hid (E2 w ((w.alloc (.cells #[.int .i64 0, .int .i64 3, .slice A n c, .slice B m d, .slice none 0 0] 51)).alloc (.cells #[.int .i64 0, .int .i64 0, .int .u64 0, .int .u64 0, .int .i64 0] 56)) 51 56 #[.int .i64 0, .int .i64 3, .slice A n c, .slice B m d, .slice none 0 0] #[.int .i64 0, .int .i64 0, .int .u64 0, .int .u64 0, .int .i64 0]) := hide (E2.of (Below.refl _ _))
  clear h hh
  go_enter Tryz.func52, Tryz.ntmps52
  go_wp2_with fail
  refine (RT.out _ E0.out.bel).mono ?_
  rintro e v1 ⟨rfl, hb⟩
  have E1 := hide (E0.out.next hb)
  clear hb
  obtain ⟨f0, f1, f2, f3, f4, -⟩ := bk5 E1.out.b1
  have l1 := E1.out.b1.lt
  have l2 := E1.out.b2.lt
  go_wp2_with fail
  refine (LD.out _ E1.out.bel).mono ?_
  rintro e v2 ⟨rfl, hb⟩
  have E2 := hide (E1.out.next hb)
  clear f0 f1 f2 f3 f4 l1 l2
  clear hb
  obtain ⟨f0, f1, f2, f3, f4, -⟩ := bk5 E2.out.b1
  have l1 := E2.out.b1.lt
  have l2 := E2.out.b2.lt
  have HT := hide (E2.out.b2.there (n := 5) rfl)
  go_wp2_with ((with_reducible show wpList _ _ _ _ _ _); refine wpList_store_res (by rfl) 56 _ _ (by rfl) (w.heap.size + 1) (Acc.cells ⟨1, q0, 0, 0⟩) (by rfl) (by rfl) HT.out Tryz.ac_inf (ac_one _) ?_; intro wz HZ)
  obtain ⟨fs, hfs⟩ := Tryz.ac_und
  exact ret_stored HZ Tryz.results52 rfl HT.out hfs rfl Tryz.ac_inf rfl ⟨rfl, below_stored HZ E2.out.bel (by omega)⟩
set_option maxHeartbeats 1000000 in
set_option maxRecDepth 100000 in
theorem countNext_e (w : World) (cs : Array Value) (code v : Int) (h : Fr w cs code (-1) [v] []) :
    Calls Tryz.prog 52 #[.agg cs] w fun e w' => e = .returned (.agg (Acc.cells ⟨0, 0, 0, 0⟩)) ∧ Below w.heap.size w w' := by
  obtain ⟨A, n, c, B, m, d, rfl, hh⟩ := id h
  clear h hh
  go_enter Tryz.func52, Tryz.ntmps52
  go_wp2
  exact bodyPost_ret (v := .agg #[.int .i64 0, .int .i64 0, .int .u64 0, .int .u64 0, .int .i64 0]) (by simp [results, Tryz.results52, go_sem]) rfl ⟨rfl, (by first | exact (below_new _ _).alloc (by simp) _ | exact ((below_new _ _).alloc (by simp) _).alloc (by simp; omega) _)⟩
set_option maxHeartbeats 1000000 in
set_option maxRecDepth 100000 in
theorem countResume_1 (w : World) (cs : Array Value) (t hd q0 q1 q2 z cp a : Int) (ok : Bool) (lt : Bool) (D : Option Addr) (ln lc : Nat) (z1 : 1 ≤ z) (z2 : z ≤ 16) (p1 : 0 ≤ q2) (p2 : q2 ≤ 1000) (c1 : 0 ≤ cp) (c2 : cp ≤ 16) (h : Fr w cs 0 1 [t, hd] [q0, q1, q2, z, cp]) :
    Calls Tryz.prog 36 #[.agg cs, .agg #[.int .u64 a, .bool ok, .bool lt, .slice D ln lc]] w fun e w' => ∃ cs', e = .returned (.agg cs') ∧ Fr w' cs' 0 2 [a, hd] [q0, q1, q2, z, cp] ∧ Below w.heap.size w w' := by
  obtain ⟨A, n, c, B, m, d, rfl, hh⟩ := id h
  have H0 := hide h
  have E0 : Hid (E3 w (((w.alloc (.cells #[.int .i64 0, .int .i64 1, .slice A n c, .slice B m d, .slice none 0 0] 51)).alloc (.cells #[.int .u64 a, .bool ok, .bool lt, .slice D ln lc] 86)).alloc (.cells #[.int .i64 0, .int .i64 0, .slice none 0 0, .slice none 0 0, .slice none 0 0] 51)) 51 86 51 #[.int .i64 0, .int .i64 1, .slice A n c, .slice B m d, .slice none 0 0] #[.int .u64 a, .bool ok, .bool lt, .slice D ln lc] #[.int .i64 0, .int .i64 0, .slice none 0 0, .slice none 0 0, .slice none 0 0]) := hide (E3.of (Below.refl _ _))
  clear h hh
  go_enter Tryz.func36, Tryz.ntmps36
  go_wp2_with fail
  refine (with_any _ _ 0 1 [t, hd] [q0, q1, q2, z, cp] (H0.out.below (E0.out.bel)) 0 a (by simp)).mono ?_
  rintro e v1 ⟨cs1, rfl, hf, hb⟩
  obtain ⟨A1, n1, c1, B1, m1, d1, rfl, -⟩ := id hf
  have H1 := hide hf
  clear hf
  have E1 := hide (E0.out.next hb)
  clear hb
  obtain ⟨f0, f1, f2, f3, f4, -⟩ := bk5 E1.out.b1
  have l1 := E1.out.b1.lt
  have l2 := E1.out.b2.lt
  obtain ⟨a0, a1, a2, a3, -⟩ := bk4 E1.out.b2
  have l3 := E1.out.b3.lt
  go_wp2_with fail
  refine (at_any _ _ 0 1 [a, hd] [q0, q1, q2, z, cp] H1.out 2).mono ?_
  rintro e v2 ⟨cs2, rfl, hf, hb⟩
  obtain ⟨A2, n2, c2, B2, m2, d2, rfl, -⟩ := id hf
  have H2 := hide hf
  clear hf
  have E2 := hide (E1.out.next hb)
  clear f0 f1 f2 f3 f4 l1 l2 a0 a1 a2 a3 l3
  clear hb
  obtain ⟨f0, f1, f2, f3, f4, -⟩ := bk5 E2.out.b1
  have l1 := E2.out.b1.lt
  have l2 := E2.out.b2.lt
  obtain ⟨a0, a1, a2, a3, -⟩ := bk4 E2.out.b2
  have l3 := E2.out.b3.lt
  have HT := hide (E2.out.b3.there (n := 5) rfl)
  go_wp2_with ((with_reducible show wpList _ _ _ _ _ _); refine wpList_store_res (by rfl) 51 _ _ (by rfl) (w.heap.size + 1 + 1) #[.int .i64 0, .int .i64 2, .slice A2 n2 c2, .slice B2 m2 d2, .slice none 0 0] (by rfl) (by rfl) HT.out Tryz.fr_inf (fr_one _ _ _ _ _ _ _ _ _ _ _) ?_; intro wz HZ)
  obtain ⟨fs, hfs⟩ := Tryz.fr_und
  exact ret_stored HZ Tryz.results36 rfl HT.out hfs rfl Tryz.fr_inf rfl ⟨_, rfl, Fr.stored HZ H2.out E2.out.b3, below_stored HZ E2.out.bel (by omega)⟩
set_option maxHeartbeats 1000000 in
set_option maxRecDepth 100000 in
theorem countResume_2 (w : World) (cs : Array Value) (t hd q0 q1 q2 z cp a : Int) (ok : Bool) (lt : Bool) (D : Option Addr) (ln lc : Nat) (z1 : 1 ≤ z) (z2 : z ≤ 16) (p1 : 0 ≤ q2) (p2 : q2 ≤ 1000) (c1 : 0 ≤ cp) (c2 : cp ≤ 16) (h : Fr w cs 0 2 [t, hd] [q0, q1, q2, z, cp]) :
    Calls Tryz.prog 36 #[.agg cs, .agg #[.int .u64 a, .bool ok, .bool lt, .slice D ln lc]] w fun e w' => ∃ cs', e = .returned (.agg cs') ∧ Fr w' cs' 0 3 [t, a] [q0, q1, q2, z, cp] ∧ Below w.heap.size w w' := by
  obtain ⟨A, n, c, B, m, d, rfl, hh⟩ := id h
  have H0 := hide h
  have E0 : Hid (E3 w (((w.alloc (.cells #[.int .i64 0, .int .i64 2, .slice A n c, .slice B m d, .slice none 0 0] 51)).alloc (.cells #[.int .u64 a, .bool ok, .bool lt, .slice D ln lc] 86)).alloc (.cells #[.int .i64 0, .int .i64 0, .slice none 0 0, .slice none 0 0, .slice none 0 0] 51)) 51 86 51 #[.int .i64 0, .int .i64 2, .slice A n c, .slice B m d, .slice none 0 0] #[.int .u64 a, .bool ok, .bool lt, .slice D ln lc] #[.int .i64 0, .int .i64 0, .slice none 0 0, .slice none 0 0, .slice none 0 0]) := hide (E3.of (Below.refl _ _))
  clear h hh
  go_enter Tryz.func36, Tryz.ntmps36
  go_wp2_with fail
  refine (with_any _ _ 0 2 [t, hd] [q0, q1, q2, z, cp] (H0.out.below (E0.out.bel)) 1 a (by simp)).mono ?_
  rintro e v1 ⟨cs1, rfl, hf, hb⟩
  obtain ⟨A1, n1, c1, B1, m1, d1, rfl, -⟩ := id hf
  have H1 := hide hf
  clear hf
  have E1 := hide (E0.out.next hb)
  clear hb
  obtain ⟨f0, f1, f2, f3, f4, -⟩ := bk5 E1.out.b1
  have l1 := E1.out.b1.lt
  have l2 := E1.out.b2.lt
  obtain ⟨a0, a1, a2, a3, -⟩ := bk4 E1.out.b2
  have l3 := E1.out.b3.lt
  go_wp2_with fail
  refine (at_any _ _ 0 2 [t, a] [q0, q1, q2, z, cp] H1.out 3).mono ?_
  rintro e v2 ⟨cs2, rfl, hf, hb⟩
  obtain ⟨A2, n2, c2, B2, m2, d2, rfl, -⟩ := id hf
  have H2 := hide hf
  clear hf
  have E2 := hide (E1.out.next hb)
  clear f0 f1 f2 f3 f4 l1 l2 a0 a1 a2 a3 l3
  clear hb
  obtain ⟨f0, f1, f2, f3, f4, -⟩ := bk5 E2.out.b1
  have l1 := E2.out.b1.lt
  have l2 := E2.out.b2.lt
  obtain ⟨a0, a1, a2, a3, -⟩ := bk4 E2.out.b2
  have l3 := E2.out.b3.lt
  have HT := hide (E2.out.b3.there (n := 5) rfl)
  go_wp2_with ((with_reducible show wpList _ _ _ _ _ _); refine wpList_store_res (by rfl) 51 _ _ (by rfl) (w.heap.size + 1 + 1) #[.int .i64 0, .int .i64 3, .slice A2 n2 c2, .slice B2 m2 d2, .slice none 0 0] (by rfl) (by rfl) HT.out Tryz.fr_inf (fr_one _ _ _ _ _ _ _ _ _ _ _) ?_; intro wz HZ)
  obtain ⟨fs, hfs⟩ := Tryz.fr_und
  exact ret_stored HZ Tryz.results36 rfl HT.out hfs rfl Tryz.fr_inf rfl ⟨_, rfl, Fr.stored HZ H2.out E2.out.b3, below_stored HZ E2.out.bel (by omega)⟩
set_option maxHeartbeats 1000000 in
set_option maxRecDepth 100000 in
theorem countResume_3e (w : World) (cs : Array Value) (t hd q0 q1 q2 z cp a : Int) (ok : Bool) (lt : Bool) (D : Option Addr) (ln lc : Nat) (z1 : 1 ≤ z) (z2 : z ≤ 16) (p1 : 0 ≤ q2) (p2 : q2 ≤ 1000) (c1 : 0 ≤ cp) (c2 : cp ≤ 16) (hc : (a == t) = true) (h : Fr w cs 0 3 [t, hd] [q0, q1, q2, z, cp]) :
    Calls Tryz.prog 36 #[.agg cs, .agg #[.int .u64 a, .bool ok, .bool lt, .slice D ln lc]] w fun e w' => ∃ cs', e = .returned (.agg cs') ∧ Fr w' cs' 9 (-1) [rest (t / 2) hd] [] ∧ Below w.heap.size w w' := by
  obtain ⟨A, n, c, B, m, d, rfl, hh⟩ := id h
  have WD := hide (fun W (hW : Below w.heap.size w W) => show Calls Tryz.prog 57 #[.agg #[.int .i64 0, .int .i64 3, .slice A n c, .slice B m d, .slice none 0 0], .int .i64 0] W fun e w' => e = .returned (.int .u64 t) ∧ Below W.heap.size W w' from word_any W _ 0 3 [t, hd] [q0, q1, q2, z, cp] (h.below hW) 0 (by omega))
  have WH := hide (fun W (hW : Below w.heap.size w W) => show Calls Tryz.prog 57 #[.agg #[.int .i64 0, .int .i64 3, .slice A n c, .slice B m d, .slice none 0 0], .int .i64 1] W fun e w' => e = .returned (.int .u64 hd) ∧ Below W.heap.size W w' from word_any W _ 0 3 [t, hd] [q0, q1, q2, z, cp] (h.below hW) 1 (by omega))
  have H0 := hide h
  have E0 : Hid (E3 w (((w.alloc (.cells #[.int .i64 0, .int .i64 3, .slice A n c, .slice B m d, .slice none 0 0] 51)).alloc (.cells #[.int .u64 a, .bool ok, .bool lt, .slice D ln lc] 86)).alloc (.cells #[.int .i64 0, .int .i64 0, .slice none 0 0, .slice none 0 0, .slice none 0 0] 51)) 51 86 51 #[.int .i64 0, .int .i64 3, .slice A n c, .slice B m d, .slice none 0 0] #[.int .u64 a, .bool ok, .bool lt, .slice D ln lc] #[.int .i64 0, .int .i64 0, .slice none 0 0, .slice none 0 0, .slice none 0 0]) := hide (E3.of (Below.refl _ _))
  clear h hh
  go_enter Tryz.func36, Tryz.ntmps36
  have hcl := hide hc
  clear hc
  go_wp2_with fail
  refine (WD.out _ E0.out.bel).mono ?_
  rintro e v1 ⟨rfl, hb⟩
  have E1 := hide (E0.out.next hb)
  clear hb
  obtain ⟨f0, f1, f2, f3, f4, -⟩ := bk5 E1.out.b1
  have l1 := E1.out.b1.lt
  have l2 := E1.out.b2.lt
  obtain ⟨a0, a1, a2, a3, -⟩ := bk4 E1.out.b2
  have l3 := E1.out.b3.lt
  have hc := hcl.out
  go_wp2_with fail
  refine (WH.out _ E1.out.bel).mono ?_
  rintro e v2 ⟨rfl, hb⟩
  have E2 := hide (E1.out.next hb)
  clear f0 f1 f2 f3 f4 l1 l2 a0 a1 a2 a3 l3
  clear hb
  obtain ⟨f0, f1, f2, f3, f4, -⟩ := bk5 E2.out.b1
  have l1 := E2.out.b1.lt
  have l2 := E2.out.b2.lt
  obtain ⟨a0, a1, a2, a3, -⟩ := bk4 E2.out.b2
  have l3 := E2.out.b3.lt
  go_wp2_with fail
  refine (ringCount_any _ t hd).mono ?_
  rintro e v ⟨rfl, rfl⟩
  go_wp2_with fail
  refine (done_any _ 9 (rest (t / 2) hd)).mono ?_
  rintro e v3 ⟨cs1, rfl, hf, hb⟩
  obtain ⟨A1, n1, c1, B1, m1, d1, rfl, -⟩ := id hf
  have H1 := hide hf
  clear hf
  have E3 := hide (E2.out.next hb)
  clear f0 f1 f2 f3 f4 l1 l2 a0 a1 a2 a3 l3
  clear hb
  obtain ⟨f0, f1, f2, f3, f4, -⟩ := bk5 E3.out.b1
  have l1 := E3.out.b1.lt
  have l2 := E3.out.b2.lt
  obtain ⟨a0, a1, a2, a3, -⟩ := bk4 E3.out.b2
  have l3 := E3.out.b3.lt
  have HT := hide (E3.out.b3.there (n := 5) rfl)
  go_wp2_with ((with_reducible show wpList _ _ _ _ _ _); refine wpList_store_res (by rfl) 51 _ _ (by rfl) (w.heap.size + 1 + 1) #[.int .i64 9, .int .i64 (-1), .slice A1 n1 c1, .slice B1 m1 d1, .slice none 0 0] (by rfl) (by rfl) HT.out Tryz.fr_inf (fr_one _ _ _ _ _ _ _ _ _ _ _) ?_; intro wz HZ)
  obtain ⟨fs, hfs⟩ := Tryz.fr_und
  exact ret_stored HZ Tryz.results36 rfl HT.out hfs rfl Tryz.fr_inf rfl ⟨_, rfl, Fr.stored HZ H1.out E3.out.b3, below_stored HZ E3.out.bel (by omega)⟩
set_option maxHeartbeats 1000000 in
set_option maxRecDepth 100000 in
theorem countResume_3n (w : World) (cs : Array Value) (t hd q0 q1 q2 z cp a : Int) (ok : Bool) (lt : Bool) (D : Option Addr) (ln lc : Nat) (z1 : 1 ≤ z) (z2 : z ≤ 16) (p1 : 0 ≤ q2) (p2 : q2 ≤ 1000) (c1 : 0 ≤ cp) (c2 : cp ≤ 16) (hc : (a == t) = false) (h : Fr w cs 0 3 [t, hd] [q0, q1, q2, z, cp]) :
    Calls Tryz.prog 36 #[.agg cs, .agg #[.int .u64 a, .bool ok, .bool lt, .slice D ln lc]] w fun e w' => ∃ cs', e = .returned (.agg cs') ∧ Fr w' cs' 0 2 [a, hd] [q0, q1, q2, z, cp] ∧ Below w.heap.size w w' := by
  obtain ⟨A, n, c, B, m, d, rfl, hh⟩ := id h
  have WD := hide (fun W (hW : Below w.heap.size w W) => show Calls Tryz.prog 57 #[.agg #[.int .i64 0, .int .i64 3, .slice A n c, .slice B m d, .slice none 0 0], .int .i64 0] W fun e w' => e = .returned (.int .u64 t) ∧ Below W.heap.size W w' from word_any W _ 0 3 [t, hd] [q0, q1, q2, z, cp] (h.below hW) 0 (by omega))
  have H0 := hide h
  have E0 : Hid (E3 w (((w.alloc (.cells #[.int .i64 0, .int .i64 3, .slice A n c, .slice B m d, .slice none 0 0] 51)).alloc (.cells #[.int .u64 a, .bool ok, .bool lt, .slice D ln lc] 86)).alloc (.cells #[.int .i64 0, .int .i64 0, .slice none 0 0, .slice none 0 0, .slice none 0 0] 51)) 51 86 51 #[.int .i64 0, .int .i64 3, .slice A n c, .slice B m d, .slice none 0 0] #[.int .u64 a, .bool ok, .bool lt, .slice D ln lc] #[.int .i64 0, .int .i64 0, .slice none 0 0, .slice none 0 0, .slice none 0 0]) := hide (E3.of (Below.refl _ _))
  clear h hh
  go_enter Tryz.func36, Tryz.ntmps36
  have hcl := hide hc
  clear hc
  go_wp2_with fail
  refine (WD.out _ E0.out.bel).mono ?_
  rintro e v1 ⟨rfl, hb⟩
  have E1 := hide (E0.out.next hb)
  clear hb
  obtain ⟨f0, f1, f2, f3, f4, -⟩ := bk5 E1.out.b1
  have l1 := E1.out.b1.lt
  have l2 := E1.out.b2.lt
  obtain ⟨a0, a1, a2, a3, -⟩ := bk4 E1.out.b2
  have l3 := E1.out.b3.lt
  have hc := hcl.out
  go_wp2_with fail
  refine (with_any _ _ 0 3 [t, hd] [q0, q1, q2, z, cp] (H0.out.below (E1.out.bel)) 0 a (by simp)).mono ?_
  rintro e v2 ⟨cs1, rfl, hf, hb⟩
  obtain ⟨A1, n1, c1, B1, m1, d1, rfl, -⟩ := id hf
  have H1 := hide hf
  clear hf
  have E2 := hide (E1.out.next hb)
  clear f0 f1 f2 f3 f4 l1 l2 a0 a1 a2 a3 l3
  clear hb
  obtain ⟨f0, f1, f2, f3, f4, -⟩ := bk5 E2.out.b1
  have l1 := E2.out.b1.lt
  have l2 := E2.out.b2.lt
  obtain ⟨a0, a1, a2, a3, -⟩ := bk4 E2.out.b2
  have l3 := E2.out.b3.lt
  go_wp2_with fail
  refine (at_any _ _ 0 3 [a, hd] [q0, q1, q2, z, cp] H1.out 2).mono ?_
  rintro e v3 ⟨cs2, rfl, hf, hb⟩
  obtain ⟨A2, n2, c2, B2, m2, d2, rfl, -⟩ := id hf
  have H2 := hide hf
  clear hf
  have E3 := hide (E2.out.next hb)
  clear f0 f1 f2 f3 f4 l1 l2 a0 a1 a2 a3 l3
  clear hb
  obtain ⟨f0, f1, f2, f3, f4, -⟩ := bk5 E3.out.b1
  have l1 := E3.out.b1.lt
  have l2 := E3.out.b2.lt
  obtain ⟨a0, a1, a2, a3, -⟩ := bk4 E3.out.b2
  have l3 := E3.out.b3.lt
  have HT := hide (E3.out.b3.there (n := 5) rfl)
  go_wp2_with ((with_reducible show wpList _ _ _ _ _ _); refine wpList_store_res (by rfl) 51 _ _ (by rfl) (w.heap.size + 1 + 1) #[.int .i64 0, .int .i64 2, .slice A2 n2 c2, .slice B2 m2 d2, .slice none 0 0] (by rfl) (by rfl) HT.out Tryz.fr_inf (fr_one _ _ _ _ _ _ _ _ _ _ _) ?_; intro wz HZ)
  obtain ⟨fs, hfs⟩ := Tryz.fr_und
  exact ret_stored HZ Tryz.results36 rfl HT.out hfs rfl Tryz.fr_inf rfl ⟨_, rfl, Fr.stored HZ H2.out E3.out.b3, below_stored HZ E3.out.bel (by omega)⟩
set_option maxHeartbeats 1000000 in
set_option maxRecDepth 100000 in
theorem countResume_e (w : World) (cs : Array Value) (co v q0 q1 q2 z cp a : Int) (ok : Bool) (lt : Bool) (D : Option Addr) (ln lc : Nat) (z1 : 1 ≤ z) (z2 : z ≤ 16) (p1 : 0 ≤ q2) (p2 : q2 ≤ 1000) (c1 : 0 ≤ cp) (c2 : cp ≤ 16) (h : Fr w cs co (-1) [v] []) :
    Calls Tryz.prog 36 #[.agg cs, .agg #[.int .u64 a, .bool ok, .bool lt, .slice D ln lc]] w fun e w' => ∃ cs', e = .returned (.agg cs') ∧ Fr w' cs' co (-1) [v] [] ∧ Below w.heap.size w w' := by
  obtain ⟨A, n, c, B, m, d, rfl, hh⟩ := id h
  have H0 := hide h
  have E0 : Hid (E3 w (((w.alloc (.cells #[.int .i64 co, .int .i64 (-1), .slice A n c, .slice B m d, .slice none 0 0] 51)).alloc (.cells #[.int .u64 a, .bool ok, .bool lt, .slice D ln lc] 86)).alloc (.cells #[.int .i64 0, .int .i64 0, .slice none 0 0, .slice none 0 0, .slice none 0 0] 51)) 51 86 51 #[.int .i64 co, .int .i64 (-1), .slice A n c, .slice B m d, .slice none 0 0] #[.int .u64 a, .bool ok, .bool lt, .slice D ln lc] #[.int .i64 0, .int .i64 0, .slice none 0 0, .slice none 0 0, .slice none 0 0]) := hide (E3.of (Below.refl _ _))
  clear h hh
  go_enter Tryz.func36, Tryz.ntmps36
  go_wp2
  exact bodyPost_ret (v := .agg #[.int .i64 co, .int .i64 (-1), .slice A n c, .slice B m d, .slice none 0 0]) (by simp [results, Tryz.results36, go_sem]) rfl ⟨_, rfl, H0.out.below (((below_new _ _).alloc (by simp) _).alloc (by simp; omega) _), ((below_new _ _).alloc (by simp) _).alloc (by simp; omega) _⟩
end Go.Proofs.YtepngbdjobckbaaGreat
