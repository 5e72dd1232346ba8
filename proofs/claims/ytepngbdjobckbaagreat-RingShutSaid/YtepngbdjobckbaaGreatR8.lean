/- Contracts: the machines of a ring. -/
import Derived.Test.YtepngbdjobckbaaGreatR2
namespace Go.Proofs.YtepngbdjobckbaaGreat
open Go.RowKit
set_option linter.unusedVariables false
set_option maxHeartbeats 1000000 in
set_option maxRecDepth 100000 in
theorem pushNext_1 (w : World) (cs : Array Value) (t v q0 q1 q2 z cp : Int) (z1 : 1 ≤ z) (z2 : z ≤ 16) (p1 : 0 ≤ q2) (p2 : q2 ≤ 1000) (c1 : 0 ≤ cp) (c2 : cp ≤ 16) (h : Fr w cs 0 1 [t, v] [q0, q1, q2, z, cp]) :
    Calls Tryz.prog 69 #[.agg cs] w fun e w' => e = .returned (.agg (Acc.cells ⟨1, q0, 0, 0⟩)) ∧ Below w.heap.size w w' := by
  obtain ⟨A, n, c, B, m, d, rfl, hh⟩ := id h
  have WD := hide (fun W (hW : Below w.heap.size w W) => show Calls Tryz.prog 57 #[.agg #[.int .i64 0, .int .i64 1, .slice A n c, .slice B m d, .slice none 0 0], .int .i64 0] W fun e w' => e = .returned (.int .u64 t) ∧ Below W.heap.size W w' from word_any W _ 0 1 [t, v] [q0, q1, q2, z, cp] (h.below hW) 0 (by omega))
  have RT := hide (fun W (hW : Below w.heap.size w W) => ringTail_any W _ 0 1 [t, v] [q0, q1, q2, z, cp] (h.below hW) q0 rfl)
  have LD := hide (fun W (hW : Below w.heap.size w W) => ringLoad_any W (q0))
  have E0 : Hid (E2 w ((w.alloc (.cells #[.int .i64 0, .int .i64 1, .slice A n c, .slice B m d, .slice none 0 0] 51)).alloc (.cells #[.int .i64 0, .int .i64 0, .int .u64 0, .int .u64 0, .int .i64 0] 56)) 51 56 #[.int .i64 0, .int .i64 1, .slice A n c, .slice B m d, .slice none 0 0] #[.int .i64 0, .int .i64 0, .int .u64 0, .int .u64 0, .int .i64 0]) := hide (E2.of (Below.refl _ _))
  clear h hh
  go_enter Tryz.func69, Tryz.ntmps69
  go_wp2_with fail
  refine (WD.out _ E0.out.bel).mono ?_
  rintro e v1 ⟨rfl, hb⟩
  have E1 := hide (E0.out.next hb)
  clear hb
  obtain ⟨f0, f1, f2, f3, f4, -⟩ := bk5 E1.out.b1
  have l1 := E1.out.b1.lt
  have l2 := E1.out.b2.lt
  go_wp2_with fail
  refine (seq_any _ _).mono ?_
  rintro e v ⟨rfl, rfl⟩
  go_wp2_with fail
  refine (RT.out _ E1.out.bel).mono ?_
  rintro e v2 ⟨rfl, hb⟩
  have E2 := hide (E1.out.next hb)
  clear f0 f1 f2 f3 f4 l1 l2
  clear hb
  obtain ⟨f0, f1, f2, f3, f4, -⟩ := bk5 E2.out.b1
  have l1 := E2.out.b1.lt
  have l2 := E2.out.b2.lt
  go_wp2_with fail
  refine (LD.out _ E2.out.bel).mono ?_
  rintro e v3 ⟨rfl, hb⟩
  have E3 := hide (E2.out.next hb)
  clear f0 f1 f2 f3 f4 l1 l2
  clear hb
  obtain ⟨f0, f1, f2, f3, f4, -⟩ := bk5 E3.out.b1
  have l1 := E3.out.b1.lt
  have l2 := E3.out.b2.lt
  have HT := hide (E3.out.b2.there (n := 5) rfl)
  go_wp2_with ((with_reducible show wpList _ _ _ _ _ _); refine wpList_store_res (by rfl) 56 _ _ (by rfl) (w.heap.size + 1) (Acc.cells ⟨1, q0, 0, 0⟩) (by rfl) (by rfl) HT.out Tryz.ac_inf (ac_one _) ?_; intro wz HZ)
  obtain ⟨fs, hfs⟩ := Tryz.ac_und
  exact ret_stored HZ Tryz.results69 rfl HT.out hfs rfl Tryz.ac_inf rfl ⟨rfl, below_stored HZ E3.out.bel (by omega)⟩
set_option maxHeartbeats 1000000 in
set_option maxRecDepth 100000 in
theorem pushNext_3 (w : World) (cs : Array Value) (t v q0 q1 q2 z cp : Int) (z1 : 1 ≤ z) (z2 : z ≤ 16) (p1 : 0 ≤ q2) (p2 : q2 ≤ 1000) (c1 : 0 ≤ cp) (c2 : cp ≤ 16) (h : Fr w cs 0 3 [t, v] [q0, q1, q2, z, cp]) :
    Calls Tryz.prog 69 #[.agg cs] w fun e w' => e = .returned (.agg (Acc.cells ⟨1, q0, 0, 0⟩)) ∧ Below w.heap.size w w' := by
  obtain ⟨A, n, c, B, m, d, rfl, hh⟩ := id h
  have WD := hide (fun W (hW : Below w.heap.size w W) => show Calls Tryz.prog 57 #[.agg #[.int .i64 0, .int .i64 3, .slice A n c, .slice B m d, .slice none 0 0], .int .i64 0] W fun e w' => e = .returned (.int .u64 t) ∧ Below W.heap.size W w' from word_any W _ 0 3 [t, v] [q0, q1, q2, z, cp] (h.below hW) 0 (by omega))
  have RT := hide (fun W (hW : Below w.heap.size w W) => ringTail_any W _ 0 3 [t, v] [q0, q1, q2, z, cp] (h.below hW) q0 rfl)
  have LD := hide (fun W (hW : Below w.heap.size w W) => ringLoad_any W (q0))
  have E0 : Hid (E2 w ((w.alloc (.cells #[.int .i64 0, .int .i64 3, .slice A n c, .slice B m d, .slice none 0 0] 51)).alloc (.cells #[.int .i64 0, .int .i64 0, .int .u64 0, .int .u64 0, .int .i64 0] 56)) 51 56 #[.int .i64 0, .int .i64 3, .slice A n c, .slice B m d, .slice none 0 0] #[.int .i64 0, .int .i64 0, .int .u64 0, .int .u64 0, .int .i64 0]) := hide (E2.of (Below.refl _ _))
  clear h hh
  go_enter Tryz.func69, Tryz.ntmps69
  go_wp2_with fail
  refine (WD.out _ E0.out.bel).mono ?_
  rintro e v1 ⟨rfl, hb⟩
  have E1 := hide (E0.out.next hb)
  clear hb
  obtain ⟨f0, f1, f2, f3, f4, -⟩ := bk5 E1.out.b1
  have l1 := E1.out.b1.lt
  have l2 := E1.out.b2.lt
  go_wp2_with fail
  refine (seq_any _ _).mono ?_
  rintro e v ⟨rfl, rfl⟩
  go_wp2_with fail
  refine (RT.out _ E1.out.bel).mono ?_
  rintro e v2 ⟨rfl, hb⟩
  have E2 := hide (E1.out.next hb)
  clear f0 f1 f2 f3 f4 l1 l2
  clear hb
  obtain ⟨f0, f1, f2, f3, f4, -⟩ := bk5 E2.out.b1
  have l1 := E2.out.b1.lt
  have l2 := E2.out.b2.lt
  go_wp2_with fail
  refine (LD.out _ E2.out.bel).mono ?_
  rintro e v3 ⟨rfl, hb⟩
  have E3 := hide (E2.out.next hb)
  clear f0 f1 f2 f3 f4 l1 l2
  clear hb
  obtain ⟨f0, f1, f2, f3, f4, -⟩ := bk5 E3.out.b1
  have l1 := E3.out.b1.lt
  have l2 := E3.out.b2.lt
  have HT := hide (E3.out.b2.there (n := 5) rfl)
  go_wp2_with ((with_reducible show wpList _ _ _ _ _ _); refine wpList_store_res (by rfl) 56 _ _ (by rfl) (w.heap.size + 1) (Acc.cells ⟨1, q0, 0, 0⟩) (by rfl) (by rfl) HT.out Tryz.ac_inf (ac_one _) ?_; intro wz HZ)
  obtain ⟨fs, hfs⟩ := Tryz.ac_und
  exact ret_stored HZ Tryz.results69 rfl HT.out hfs rfl Tryz.ac_inf rfl ⟨rfl, below_stored HZ E3.out.bel (by omega)⟩
set_option maxHeartbeats 1000000 in
set_option maxRecDepth 100000 in
theorem pushNext_2 (w : World) (cs : Array Value) (t v q0 q1 q2 z cp : Int) (z1 : 1 ≤ z) (z2 : z ≤ 16) (p1 : 0 ≤ q2) (p2 : q2 ≤ 1000) (c1 : 0 ≤ cp) (c2 : cp ≤ 16) (h : Fr w cs 0 2 [t, v] [q0, q1, q2, z, cp]) :
    Calls Tryz.prog 69 #[.agg cs] w fun e w' => e = .returned (.agg (Acc.cells ⟨1, q1, 0, 0⟩)) ∧ Below w.heap.size w w' := by
  obtain ⟨A, n, c, B, m, d, rfl, hh⟩ := id h
  have WD := hide (fun W (hW : Below w.heap.size w W) => show Calls Tryz.prog 57 #[.agg #[.int .i64 0, .int .i64 2, .slice A n c, .slice B m d, .slice none 0 0], .int .i64 0] W fun e w' => e = .returned (.int .u64 t) ∧ Below W.heap.size W w' from word_any W _ 0 2 [t, v] [q0, q1, q2, z, cp] (h.below hW) 0 (by omega))
  have RH := hide (fun W (hW : Below w.heap.size w W) => ringHead_any W _ 0 2 [t, v] [q0, q1, q2, z, cp] (h.below hW) q1 rfl)
  have LD := hide (fun W (hW : Below w.heap.size w W) => ringLoad_any W (q1))
  have E0 : Hid (E2 w ((w.alloc (.cells #[.int .i64 0, .int .i64 2, .slice A n c, .slice B m d, .slice none 0 0] 51)).alloc (.cells #[.int .i64 0, .int .i64 0, .int .u64 0, .int .u64 0, .int .i64 0] 56)) 51 56 #[.int .i64 0, .int .i64 2, .slice A n c, .slice B m d, .slice none 0 0] #[.int .i64 0, .int .i64 0, .int .u64 0, .int .u64 0, .int .i64 0]) := hide (E2.of (Below.refl _ _))
  clear h hh
  go_enter Tryz.func69, Tryz.ntmps69
  go_wp2_with fail
  refine (WD.out _ E0.out.bel).mono ?_
  rintro e v1 ⟨rfl, hb⟩
  have E1 := hide (E0.out.next hb)
  clear hb
  obtain ⟨f0, f1, f2, f3, f4, -⟩ := bk5 E1.out.b1
  have l1 := E1.out.b1.lt
  have l2 := E1.out.b2.lt
  go_wp2_with fail
  refine (seq_any _ _).mono ?_
  rintro e v ⟨rfl, rfl⟩
  go_wp2_with fail
  refine (RH.out _ E1.out.bel).mono ?_
  rintro e v2 ⟨rfl, hb⟩
  have E2 := hide (E1.out.next hb)
  clear f0 f1 f2 f3 f4 l1 l2
  clear hb
  obtain ⟨f0, f1, f2, f3, f4, -⟩ := bk5 E2.out.b1
  have l1 := E2.out.b1.lt
  have l2 := E2.out.b2.lt
  go_wp2_with fail
  refine (LD.out _ E2.out.bel).mono ?_
  rintro e v3 ⟨rfl, hb⟩
  have E3 := hide (E2.out.next hb)
  clear f0 f1 f2 f3 f4 l1 l2
  clear hb
  obtain ⟨f0, f1, f2, f3, f4, -⟩ := bk5 E3.out.b1
  have l1 := E3.out.b1.lt
  have l2 := E3.out.b2.lt
  have HT := hide (E3.out.b2.there (n := 5) rfl)
  go_wp2_with ((with_reducible show wpList _ _ _ _ _ _); refine wpList_store_res (by rfl) 56 _ _ (by rfl) (w.heap.size + 1) (Acc.cells ⟨1, q1, 0, 0⟩) (by rfl) (by rfl) HT.out Tryz.ac_inf (ac_one _) ?_; intro wz HZ)
  obtain ⟨fs, hfs⟩ := Tryz.ac_und
  exact ret_stored HZ Tryz.results69 rfl HT.out hfs rfl Tryz.ac_inf rfl ⟨rfl, below_stored HZ E3.out.bel (by omega)⟩
set_option maxHeartbeats 1000000 in
set_option maxRecDepth 100000 in
theorem pushNext_4 (w : World) (cs : Array Value) (t v q0 q1 q2 z cp : Int) (z1 : 1 ≤ z) (z2 : z ≤ 16) (p1 : 0 ≤ q2) (p2 : q2 ≤ 1000) (c1 : 0 ≤ cp) (c2 : cp ≤ 16) (u0 : 0 ≤ t ∧ t ≤ 18446744073709551615) (sq : Int) (hsq : q2 + 2 * sl (t / 2) z = sq) (h : Fr w cs 0 4 [t, v] [q0, q1, q2, z, cp]) :
    Calls Tryz.prog 69 #[.agg cs] w fun e w' => e = .returned (.agg (Acc.cells ⟨1, sq, 0, 0⟩)) ∧ Below w.heap.size w w' := by
  obtain ⟨A, n, c, B, m, d, rfl, hh⟩ := id h
  have WD := hide (fun W (hW : Below w.heap.size w W) => show Calls Tryz.prog 57 #[.agg #[.int .i64 0, .int .i64 4, .slice A n c, .slice B m d, .slice none 0 0], .int .i64 0] W fun e w' => e = .returned (.int .u64 t) ∧ Below W.heap.size W w' from word_any W _ 0 4 [t, v] [q0, q1, q2, z, cp] (h.below hW) 0 (by omega))
  have SL := hide (fun W (hW : Below w.heap.size w W) => ringSlot_any W _ 0 4 [t, v] [q0, q1, q2, z, cp] (h.below hW) q2 z ((t / 2)) sq rfl rfl z1 z2 p1 p2 (by omega) (by omega) hsq)
  have LD := hide (fun W (hW : Below w.heap.size w W) => ringLoad_any W (sq))
  have HSQ := hide hsq
  have E0 : Hid (E2 w ((w.alloc (.cells #[.int .i64 0, .int .i64 4, .slice A n c, .slice B m d, .slice none 0 0] 51)).alloc (.cells #[.int .i64 0, .int .i64 0, .int .u64 0, .int .u64 0, .int .i64 0] 56)) 51 56 #[.int .i64 0, .int .i64 4, .slice A n c, .slice B m d, .slice none 0 0] #[.int .i64 0, .int .i64 0, .int .u64 0, .int .u64 0, .int .i64 0]) := hide (E2.of (Below.refl _ _))
  clear h hh hsq
  go_enter Tryz.func69, Tryz.ntmps69
  go_wp2_with fail
  refine (WD.out _ E0.out.bel).mono ?_
  rintro e v1 ⟨rfl, hb⟩
  have E1 := hide (E0.out.next hb)
  clear hb
  obtain ⟨f0, f1, f2, f3, f4, -⟩ := bk5 E1.out.b1
  have l1 := E1.out.b1.lt
  have l2 := E1.out.b2.lt
  go_wp2_with fail
  refine (seq_any _ _).mono ?_
  rintro e v ⟨rfl, rfl⟩
  go_wp2_with fail
  refine (SL.out _ E1.out.bel).mono ?_
  rintro e v2 ⟨rfl, hb⟩
  have E2 := hide (E1.out.next hb)
  clear f0 f1 f2 f3 f4 l1 l2
  clear hb
  obtain ⟨f0, f1, f2, f3, f4, -⟩ := bk5 E2.out.b1
  have l1 := E2.out.b1.lt
  have l2 := E2.out.b2.lt
  go_wp2_with fail
  refine (LD.out _ E2.out.bel).mono ?_
  rintro e v3 ⟨rfl, hb⟩
  have E3 := hide (E2.out.next hb)
  clear f0 f1 f2 f3 f4 l1 l2
  clear hb
  obtain ⟨f0, f1, f2, f3, f4, -⟩ := bk5 E3.out.b1
  have l1 := E3.out.b1.lt
  have l2 := E3.out.b2.lt
  have HT := hide (E3.out.b2.there (n := 5) rfl)
  go_wp2_with ((with_reducible show wpList _ _ _ _ _ _); refine wpList_store_res (by rfl) 56 _ _ (by rfl) (w.heap.size + 1) (Acc.cells ⟨1, sq, 0, 0⟩) (by rfl) (by rfl) HT.out Tryz.ac_inf (ac_one _) ?_; intro wz HZ)
  obtain ⟨fs, hfs⟩ := Tryz.ac_und
  exact ret_stored HZ Tryz.results69 rfl HT.out hfs rfl Tryz.ac_inf rfl ⟨rfl, below_stored HZ E3.out.bel (by omega)⟩
set_option maxHeartbeats 1000000 in
set_option maxRecDepth 100000 in
theorem pushNext_5 (w : World) (cs : Array Value) (t v q0 q1 q2 z cp : Int) (z1 : 1 ≤ z) (z2 : z ≤ 16) (p1 : 0 ≤ q2) (p2 : q2 ≤ 1000) (c1 : 0 ≤ cp) (c2 : cp ≤ 16) (h : Fr w cs 0 5 [t, v] [q0, q1, q2, z, cp]) :
    Calls Tryz.prog 69 #[.agg cs] w fun e w' => e = .returned (.agg (Acc.cells ⟨3, q0, t, pk (nx (t / 2) 1) false⟩)) ∧ Below w.heap.size w w' := by
  obtain ⟨A, n, c, B, m, d, rfl, hh⟩ := id h
  have WD := hide (fun W (hW : Below w.heap.size w W) => show Calls Tryz.prog 57 #[.agg #[.int .i64 0, .int .i64 5, .slice A n c, .slice B m d, .slice none 0 0], .int .i64 0] W fun e w' => e = .returned (.int .u64 t) ∧ Below W.heap.size W w' from word_any W _ 0 5 [t, v] [q0, q1, q2, z, cp] (h.below hW) 0 (by omega))
  have RT := hide (fun W (hW : Below w.heap.size w W) => ringTail_any W _ 0 5 [t, v] [q0, q1, q2, z, cp] (h.below hW) q0 rfl)
  have E0 : Hid (E2 w ((w.alloc (.cells #[.int .i64 0, .int .i64 5, .slice A n c, .slice B m d, .slice none 0 0] 51)).alloc (.cells #[.int .i64 0, .int .i64 0, .int .u64 0, .int .u64 0, .int .i64 0] 56)) 51 56 #[.int .i64 0, .int .i64 5, .slice A n c, .slice B m d, .slice none 0 0] #[.int .i64 0, .int .i64 0, .int .u64 0, .int .u64 0, .int .i64 0]) := hide (E2.of (Below.refl _ _))
  clear h hh
  go_enter Tryz.func69, Tryz.ntmps69
  go_wp2_with fail
  refine (WD.out _ E0.out.bel).mono ?_
  rintro e v1 ⟨rfl, hb⟩
  have E1 := hide (E0.out.next hb)
  clear hb
  obtain ⟨f0, f1, f2, f3, f4, -⟩ := bk5 E1.out.b1
  have l1 := E1.out.b1.lt
  have l2 := E1.out.b2.lt
  go_wp2_with fail
  refine (seq_any _ _).mono ?_
  rintro e v ⟨rfl, rfl⟩
  go_wp2_with fail
  refine (RT.out _ E1.out.bel).mono ?_
  rintro e v2 ⟨rfl, hb⟩
  have E2 := hide (E1.out.next hb)
  clear f0 f1 f2 f3 f4 l1 l2
  clear hb
  obtain ⟨f0, f1, f2, f3, f4, -⟩ := bk5 E2.out.b1
  have l1 := E2.out.b1.lt
  have l2 := E2.out.b2.lt
  go_wp2_with fail
  refine (next_any _ _ _).mono ?_
  rintro e v ⟨rfl, rfl⟩
  go_wp2_with fail
  refine (pack_any _ _ _).mono ?_
  rintro e v ⟨rfl, rfl⟩
  have HT := hide (E2.out.b2.there (n := 5) rfl)
  go_wp2_with ((with_reducible show wpList _ _ _ _ _ _); refine wpList_store_res (by rfl) 56 _ _ (by rfl) (w.heap.size + 1) (Acc.cells ⟨3, q0, t, pk (nx (t / 2) 1) false⟩) (by rfl) (by rfl) HT.out Tryz.ac_inf (ac_one _) ?_; intro wz HZ)
  obtain ⟨fs, hfs⟩ := Tryz.ac_und
  exact ret_stored HZ Tryz.results69 rfl HT.out hfs rfl Tryz.ac_inf rfl ⟨rfl, below_stored HZ E2.out.bel (by omega)⟩
set_option maxHeartbeats 1000000 in
set_option maxRecDepth 100000 in
theorem pushNext_6 (w : World) (cs : Array Value) (t v q0 q1 q2 z cp : Int) (z1 : 1 ≤ z) (z2 : z ≤ 16) (p1 : 0 ≤ q2) (p2 : q2 ≤ 1000) (c1 : 0 ≤ cp) (c2 : cp ≤ 16) (u0 : 0 ≤ t ∧ t ≤ 18446744073709551615) (sq : Int) (hsq : q2 + 2 * sl (t / 2) z = sq) (sb : 0 ≤ sq ∧ sq ≤ 100000) (s1 : Int) (hs1 : sq + 1 = s1) (h : Fr w cs 0 6 [t, v] [q0, q1, q2, z, cp]) :
    Calls Tryz.prog 69 #[.agg cs] w fun e w' => e = .returned (.agg (Acc.cells ⟨6, s1, 0, v⟩)) ∧ Below w.heap.size w w' := by
  obtain ⟨A, n, c, B, m, d, rfl, hh⟩ := id h
  have WD := hide (fun W (hW : Below w.heap.size w W) => show Calls Tryz.prog 57 #[.agg #[.int .i64 0, .int .i64 6, .slice A n c, .slice B m d, .slice none 0 0], .int .i64 0] W fun e w' => e = .returned (.int .u64 t) ∧ Below W.heap.size W w' from word_any W _ 0 6 [t, v] [q0, q1, q2, z, cp] (h.below hW) 0 (by omega))
  have SL := hide (fun W (hW : Below w.heap.size w W) => ringSlot_any W _ 0 6 [t, v] [q0, q1, q2, z, cp] (h.below hW) q2 z ((t / 2)) sq rfl rfl z1 z2 p1 p2 (by omega) (by omega) hsq)
  have WV := hide (fun W (hW : Below w.heap.size w W) => show Calls Tryz.prog 57 #[.agg #[.int .i64 0, .int .i64 6, .slice A n c, .slice B m d, .slice none 0 0], .int .i64 1] W fun e w' => e = .returned (.int .u64 v) ∧ Below W.heap.size W w' from word_any W _ 0 6 [t, v] [q0, q1, q2, z, cp] (h.below hW) 1 (by omega))
  have eS := IntWalk.i64_in (sq + 1) ⟨by omega, by omega⟩
  have ES := hide (show IntKind.i64.wrap (sq + 1) = s1 by rw [← hs1]; exact eS)
  have HSQ := hide hsq
  have E0 : Hid (E2 w ((w.alloc (.cells #[.int .i64 0, .int .i64 6, .slice A n c, .slice B m d, .slice none 0 0] 51)).alloc (.cells #[.int .i64 0, .int .i64 0, .int .u64 0, .int .u64 0, .int .i64 0] 56)) 51 56 #[.int .i64 0, .int .i64 6, .slice A n c, .slice B m d, .slice none 0 0] #[.int .i64 0, .int .i64 0, .int .u64 0, .int .u64 0, .int .i64 0]) := hide (E2.of (Below.refl _ _))
  clear h hh hsq
  go_enter Tryz.func69, Tryz.ntmps69
  clear eS hs1
  have eS := ES.out
  go_wp2_with fail
  refine (WD.out _ E0.out.bel).mono ?_
  rintro e v1 ⟨rfl, hb⟩
  have E1 := hide (E0.out.next hb)
  clear hb
  obtain ⟨f0, f1, f2, f3, f4, -⟩ := bk5 E1.out.b1
  have l1 := E1.out.b1.lt
  have l2 := E1.out.b2.lt
  go_wp2_with fail
  refine (seq_any _ _).mono ?_
  rintro e v ⟨rfl, rfl⟩
  go_wp2_with fail
  have U9 := fun (u : Up v1) => E1.out.next u.2
  have g0 := fun u => (bk5 (U9 u).b1).1
  have g1 := fun u => (bk5 (U9 u).b1).2.1
  have g2 := fun u => (bk5 (U9 u).b1).2.2.1
  have g3 := fun u => (bk5 (U9 u).b1).2.2.2.1
  have g4 := fun u => (bk5 (U9 u).b1).2.2.2.2.1
  have GSL := hide (fun (u : Up v1) => SL.out u.1 (U9 u).bel)
  have GWV := hide (fun (u : Up v1) => WV.out u.1 (U9 u).bel)
  have UU := hide U9
  clear U9
  clear f0 f1 f2 f3 f4 l1 l2
  refine wp_region_up_tail 7 (by kernel_rfl) (by kernel_rfl) ?_
  simp only [List.take_succ_cons, List.take_zero, List.drop_succ_cons, List.drop_zero]
  repeat (go_big_quiet_step (first
    | (go_at_call 97; exact up_call (GSL.out _))
    | (go_at_call 57; exact up_call (GWV.out _))))
  refine wpQuiet_nil ?_
  intro u
  clear g0 g1 g2 g3 g4
  have E2 := hide (UU.out u)
  clear UU
  generalize u.1 = v2 at *
  have HT := hide (E2.out.b2.there (n := 5) rfl)
  go_wp2_with ((with_reducible show wpList _ _ _ _ _ _); refine wpList_store_res (by rfl) 56 _ _ (by rfl) (w.heap.size + 1) (Acc.cells ⟨6, s1, 0, v⟩) (by rfl) (by rfl) HT.out Tryz.ac_inf (ac_one _) ?_; intro wz HZ)
  obtain ⟨fs, hfs⟩ := Tryz.ac_und
  exact ret_stored HZ Tryz.results69 rfl HT.out hfs rfl Tryz.ac_inf rfl ⟨rfl, below_stored HZ E2.out.bel (by omega)⟩
set_option maxHeartbeats 1000000 in
set_option maxRecDepth 100000 in
theorem pushNext_7 (w : World) (cs : Array Value) (t v q0 q1 q2 z cp : Int) (z1 : 1 ≤ z) (z2 : z ≤ 16) (p1 : 0 ≤ q2) (p2 : q2 ≤ 1000) (c1 : 0 ≤ cp) (c2 : cp ≤ 16) (u0 : 0 ≤ t ∧ t ≤ 18446744073709551615) (sq : Int) (hsq : q2 + 2 * sl (t / 2) z = sq) (h : Fr w cs 0 7 [t, v] [q0, q1, q2, z, cp]) :
    Calls Tryz.prog 69 #[.agg cs] w fun e w' => e = .returned (.agg (Acc.cells ⟨2, sq, 0, nx (t / 2) 1⟩)) ∧ Below w.heap.size w w' := by
  obtain ⟨A, n, c, B, m, d, rfl, hh⟩ := id h
  have WD := hide (fun W (hW : Below w.heap.size w W) => show Calls Tryz.prog 57 #[.agg #[.int .i64 0, .int .i64 7, .slice A n c, .slice B m d, .slice none 0 0], .int .i64 0] W fun e w' => e = .returned (.int .u64 t) ∧ Below W.heap.size W w' from word_any W _ 0 7 [t, v] [q0, q1, q2, z, cp] (h.below hW) 0 (by omega))
  have SL := hide (fun W (hW : Below w.heap.size w W) => ringSlot_any W _ 0 7 [t, v] [q0, q1, q2, z, cp] (h.below hW) q2 z ((t / 2)) sq rfl rfl z1 z2 p1 p2 (by omega) (by omega) hsq)
  have HSQ := hide hsq
  have E0 : Hid (E2 w ((w.alloc (.cells #[.int .i64 0, .int .i64 7, .slice A n c, .slice B m d, .slice none 0 0] 51)).alloc (.cells #[.int .i64 0, .int .i64 0, .int .u64 0, .int .u64 0, .int .i64 0] 56)) 51 56 #[.int .i64 0, .int .i64 7, .slice A n c, .slice B m d, .slice none 0 0] #[.int .i64 0, .int .i64 0, .int .u64 0, .int .u64 0, .int .i64 0]) := hide (E2.of (Below.refl _ _))
  clear h hh hsq
  go_enter Tryz.func69, Tryz.ntmps69
  go_wp2_with fail
  refine (WD.out _ E0.out.bel).mono ?_
  rintro e v1 ⟨rfl, hb⟩
  have E1 := hide (E0.out.next hb)
  clear hb
  obtain ⟨f0, f1, f2, f3, f4, -⟩ := bk5 E1.out.b1
  have l1 := E1.out.b1.lt
  have l2 := E1.out.b2.lt
  go_wp2_with fail
  refine (seq_any _ _).mono ?_
  rintro e v ⟨rfl, rfl⟩
  go_wp2_with fail
  refine (SL.out _ E1.out.bel).mono ?_
  rintro e v2 ⟨rfl, hb⟩
  have E2 := hide (E1.out.next hb)
  clear f0 f1 f2 f3 f4 l1 l2
  clear hb
  obtain ⟨f0, f1, f2, f3, f4, -⟩ := bk5 E2.out.b1
  have l1 := E2.out.b1.lt
  have l2 := E2.out.b2.lt
  go_wp2_with fail
  refine (next_any _ _ _).mono ?_
  rintro e v ⟨rfl, rfl⟩
  have HT := hide (E2.out.b2.there (n := 5) rfl)
  go_wp2_with ((with_reducible show wpList _ _ _ _ _ _); refine wpList_store_res (by rfl) 56 _ _ (by rfl) (w.heap.size + 1) (Acc.cells ⟨2, sq, 0, nx (t / 2) 1⟩) (by rfl) (by rfl) HT.out Tryz.ac_inf (ac_one _) ?_; intro wz HZ)
  obtain ⟨fs, hfs⟩ := Tryz.ac_und
  exact ret_stored HZ Tryz.results69 rfl HT.out hfs rfl Tryz.ac_inf rfl ⟨rfl, below_stored HZ E2.out.bel (by omega)⟩
set_option maxHeartbeats 1000000 in
set_option maxRecDepth 100000 in
theorem pushNext_e (w : World) (cs : Array Value) (code v : Int) (h : Fr w cs code (-1) [v] []) :
    Calls Tryz.prog 69 #[.agg cs] w fun e w' => e = .returned (.agg (Acc.cells ⟨0, 0, 0, 0⟩)) ∧ Below w.heap.size w w' := by
  obtain ⟨A, n, c, B, m, d, rfl, hh⟩ := id h
  have WD := hide (fun o1 o2 => show Calls Tryz.prog 57 #[.agg #[.int .i64 code, .int .i64 (-1), .slice A n c, .slice B m d, .slice none 0 0], .int .i64 0] ((w.alloc o1).alloc o2) fun e w' => e = .returned (.int .u64 v) ∧ Below ((w.alloc o1).alloc o2).heap.size ((w.alloc o1).alloc o2) w' from word_any _ _ code (-1) [v] [] ((h.below (below_new w o1)).below (below_new _ o2)) 0 (by omega))
  clear h hh
  go_enter Tryz.func69, Tryz.ntmps69
  go_wp2_with fail
  refine (WD.out _ _).mono ?_
  rintro e v1 ⟨rfl, hb⟩
  have E1 : Hid (E2 w v1 51 56 #[.int .i64 code, .int .i64 (-1), .slice A n c, .slice B m d, .slice none 0 0] #[.int .i64 0, .int .i64 0, .int .u64 0, .int .u64 0, .int .i64 0]) := hide (E2.of hb)
  clear hb WD
  obtain ⟨f0, f1, f2, f3, f4, -⟩ := bk5 E1.out.b1
  have l1 := E1.out.b1.lt
  have l2 := E1.out.b2.lt
  go_wp2_with fail
  refine (seq_any _ _).mono ?_
  rintro e v2 ⟨rfl, rfl⟩
  have HT := hide (E1.out.b2.there (n := 5) rfl)
  go_wp2_with ((with_reducible show wpList _ _ _ _ _ _); refine wpList_store_res (by rfl) 56 _ _ (by rfl) (w.heap.size + 1) (Acc.cells ⟨0, 0, 0, 0⟩) (by rfl) (by rfl) HT.out Tryz.ac_inf (ac_one _) ?_; intro wz HZ)
  obtain ⟨fs, hfs⟩ := Tryz.ac_und
  exact ret_stored HZ Tryz.results69 rfl HT.out hfs rfl Tryz.ac_inf rfl ⟨rfl, below_stored HZ E1.out.bel (by omega)⟩
set_option maxHeartbeats 1000000 in
set_option maxRecDepth 100000 in
theorem pushResume_1c (w : World) (cs : Array Value) (t v q0 q1 q2 z cp a : Int) (ok : Bool) (lt : Bool) (D : Option Addr) (ln lc : Nat) (z1 : 1 ≤ z) (z2 : z ≤ 16) (p1 : 0 ≤ q2) (p2 : q2 ≤ 1000) (c1 : 0 ≤ cp) (c2 : cp ≤ 16) (u1 : 0 ≤ a ∧ a ≤ 18446744073709551615) (hc : cl a = true) (h : Fr w cs 0 1 [t, v] [q0, q1, q2, z, cp]) :
    Calls Tryz.prog 72 #[.agg cs, .agg #[.int .u64 a, .bool ok, .bool lt, .slice D ln lc]] w fun e w' => ∃ cs', e = .returned (.agg cs') ∧ Fr w' cs' 4 (-1) [0] [] ∧ Below w.heap.size w w' := by
  obtain ⟨A, n, c, B, m, d, rfl, hh⟩ := id h
  have WD := hide (fun W (hW : Below w.heap.size w W) => show Calls Tryz.prog 57 #[.agg #[.int .i64 0, .int .i64 1, .slice A n c, .slice B m d, .slice none 0 0], .int .i64 0] W fun e w' => e = .returned (.int .u64 t) ∧ Below W.heap.size W w' from word_any W _ 0 1 [t, v] [q0, q1, q2, z, cp] (h.below hW) 0 (by omega))
  have CL := hide (fun W => closed_any a W u1.1 u1.2)
  have H0 := hide h
  have E0 : Hid (E3 w (((w.alloc (.cells #[.int .i64 0, .int .i64 1, .slice A n c, .slice B m d, .slice none 0 0] 51)).alloc (.cells #[.int .u64 a, .bool ok, .bool lt, .slice D ln lc] 86)).alloc (.cells #[.int .i64 0, .int .i64 0, .slice none 0 0, .slice none 0 0, .slice none 0 0] 51)) 51 86 51 #[.int .i64 0, .int .i64 1, .slice A n c, .slice B m d, .slice none 0 0] #[.int .u64 a, .bool ok, .bool lt, .slice D ln lc] #[.int .i64 0, .int .i64 0, .slice none 0 0, .slice none 0 0, .slice none 0 0]) := hide (E3.of (Below.refl _ _))
  clear h hh
  go_enter Tryz.func72, Tryz.ntmps72
  have hcl := hide hc
  clear hc
  go_wp2_with fail
  apply wp_scope_n 1
  go_wp2_with fail
  refine (WD.out _ E0.out.bel).mono ?_
  rintro e v1 ⟨rfl, hb⟩
  have E1 := hide (E0.out.next hb)
  clear hb
  obtain ⟨f0, f1, f2, f3, f4, -⟩ := bk5 E1.out.b1
  have l1 := E1.out.b1.lt
  have l2 := E1.out.b2.lt
  obtain ⟨a0, a1, a2, a3, -⟩ := bk4 E1.out.b2
  have l3 := E1.out.b3.lt
  go_wp2_with fail
  (go_step3; refine JQ_goto _ (by rfl) ?_)
  go_wp2_with fail
  refine (CL.out _).mono ?_
  rintro e v ⟨rfl, rfl⟩
  have hc := hcl.out
  go_wp2_with fail
  refine (done_any _ 4 0).mono ?_
  rintro e v2 ⟨cs1, rfl, hf, hb⟩
  obtain ⟨A1, n1, c1, B1, m1, d1, rfl, -⟩ := id hf
  have H1 := hide hf
  clear hf
  have E2 := hide (E1.out.next hb)
  clear f0 f1 f2 f3 f4 l1 l2 a0 a1 a2 a3 l3
  clear hb
  obtain ⟨f0, f1, f2, f3, f4, -⟩ := bk5 E2.out.b1
  have l1 := E2.out.b1.lt
  have l2 := E2.out.b2.lt
  obtain ⟨a0, a1, a2, a3, -⟩ := bk4 E2.out.b2
  have l3 := E2.out.b3.lt
  have HT := hide (E2.out.b3.there (n := 5) rfl)
  go_wp2_with ((with_reducible show wpList _ _ _ _ _ _); refine wpList_store_res (by rfl) 51 _ _ (by rfl) (w.heap.size + 1 + 1) #[.int .i64 4, .int .i64 (-1), .slice A1 n1 c1, .slice B1 m1 d1, .slice none 0 0] (by rfl) (by rfl) HT.out Tryz.fr_inf (fr_one _ _ _ _ _ _ _ _ _ _ _) ?_; intro wz HZ)
  obtain ⟨fs, hfs⟩ := Tryz.fr_und
  exact ret_stored HZ Tryz.results72 rfl HT.out hfs rfl Tryz.fr_inf rfl ⟨_, rfl, Fr.stored HZ H1.out E2.out.b3, below_stored HZ E2.out.bel (by omega)⟩
set_option maxHeartbeats 1000000 in
set_option maxRecDepth 100000 in
theorem pushResume_1o (w : World) (cs : Array Value) (t v q0 q1 q2 z cp a : Int) (ok : Bool) (lt : Bool) (D : Option Addr) (ln lc : Nat) (z1 : 1 ≤ z) (z2 : z ≤ 16) (p1 : 0 ≤ q2) (p2 : q2 ≤ 1000) (c1 : 0 ≤ cp) (c2 : cp ≤ 16) (u1 : 0 ≤ a ∧ a ≤ 18446744073709551615) (hc : cl a = false) (h : Fr w cs 0 1 [t, v] [q0, q1, q2, z, cp]) :
    Calls Tryz.prog 72 #[.agg cs, .agg #[.int .u64 a, .bool ok, .bool lt, .slice D ln lc]] w fun e w' => ∃ cs', e = .returned (.agg cs') ∧ Fr w' cs' 0 2 [a, v] [q0, q1, q2, z, cp] ∧ Below w.heap.size w w' := by
  obtain ⟨A, n, c, B, m, d, rfl, hh⟩ := id h
  have WD := hide (fun W (hW : Below w.heap.size w W) => show Calls Tryz.prog 57 #[.agg #[.int .i64 0, .int .i64 1, .slice A n c, .slice B m d, .slice none 0 0], .int .i64 0] W fun e w' => e = .returned (.int .u64 t) ∧ Below W.heap.size W w' from word_any W _ 0 1 [t, v] [q0, q1, q2, z, cp] (h.below hW) 0 (by omega))
  have CL := hide (fun W => closed_any a W u1.1 u1.2)
  have H0 := hide h
  have E0 : Hid (E3 w (((w.alloc (.cells #[.int .i64 0, .int .i64 1, .slice A n c, .slice B m d, .slice none 0 0] 51)).alloc (.cells #[.int .u64 a, .bool ok, .bool lt, .slice D ln lc] 86)).alloc (.cells #[.int .i64 0, .int .i64 0, .slice none 0 0, .slice none 0 0, .slice none 0 0] 51)) 51 86 51 #[.int .i64 0, .int .i64 1, .slice A n c, .slice B m d, .slice none 0 0] #[.int .u64 a, .bool ok, .bool lt, .slice D ln lc] #[.int .i64 0, .int .i64 0, .slice none 0 0, .slice none 0 0, .slice none 0 0]) := hide (E3.of (Below.refl _ _))
  clear h hh
  go_enter Tryz.func72, Tryz.ntmps72
  have hcl := hide hc
  clear hc
  go_wp2_with fail
  apply wp_scope_n 1
  go_wp2_with fail
  refine (WD.out _ E0.out.bel).mono ?_
  rintro e v1 ⟨rfl, hb⟩
  have E1 := hide (E0.out.next hb)
  clear hb
  obtain ⟨f0, f1, f2, f3, f4, -⟩ := bk5 E1.out.b1
  have l1 := E1.out.b1.lt
  have l2 := E1.out.b2.lt
  obtain ⟨a0, a1, a2, a3, -⟩ := bk4 E1.out.b2
  have l3 := E1.out.b3.lt
  go_wp2_with fail
  (go_step3; refine JQ_goto _ (by rfl) ?_)
  go_wp2_with fail
  refine (CL.out _).mono ?_
  rintro e v ⟨rfl, rfl⟩
  have hc := hcl.out
  go_wp2_with fail
  refine (with_any _ _ 0 1 [t, v] [q0, q1, q2, z, cp] (H0.out.below (E1.out.bel)) 0 a (by simp)).mono ?_
  rintro e v2 ⟨cs1, rfl, hf, hb⟩
  obtain ⟨A1, n1, c1, B1, m1, d1, rfl, -⟩ := id hf
  have H1 := hide hf
  clear hf
  have E2 := hide (E1.out.next hb)
  clear f0 f1 f2 f3 f4 l1 l2 a0 a1 a2 a3 l3
  clear hb
  obtain ⟨f0, f1, f2, f3, f4, -⟩ := bk5 E2.out.b1
  have l1 := E2.out.b1.lt
  have l2 := E2.out.b2.lt
  obtain ⟨a0, a1, a2, a3, -⟩ := bk4 E2.out.b2
  have l3 := E2.out.b3.lt
  go_wp2_with fail
  refine (at_any _ _ 0 1 [a, v] [q0, q1, q2, z, cp] H1.out 2).mono ?_
  rintro e v3 ⟨cs2, rfl, hf, hb⟩
  obtain ⟨A2, n2, c2, B2, m2, d2, rfl, -⟩ := id hf
  have H2 := hide hf
  clear hf
  have E3 := hide (E2.out.next hb)
  clear f0 f1 f2 f3 f4 l1 l2 a0 a1 a2 a3 l3
  clear hb
  obtain ⟨f0, f1, f2, f3, f4, -⟩ := bk5 E3.out.b1
  have l1 := E3.out.b1.lt
  have l2 := E3.out.b2.lt
  obtain ⟨a0, a1, a2, a3, -⟩ := bk4 E3.out.b2
  have l3 := E3.out.b3.lt
  have HT := hide (E3.out.b3.there (n := 5) rfl)
  go_wp2_with ((with_reducible show wpList _ _ _ _ _ _); refine wpList_store_res (by rfl) 51 _ _ (by rfl) (w.heap.size + 1 + 1) #[.int .i64 0, .int .i64 2, .slice A2 n2 c2, .slice B2 m2 d2, .slice none 0 0] (by rfl) (by rfl) HT.out Tryz.fr_inf (fr_one _ _ _ _ _ _ _ _ _ _ _) ?_; intro wz HZ)
  obtain ⟨fs, hfs⟩ := Tryz.fr_und
  exact ret_stored HZ Tryz.results72 rfl HT.out hfs rfl Tryz.fr_inf rfl ⟨_, rfl, Fr.stored HZ H2.out E3.out.b3, below_stored HZ E3.out.bel (by omega)⟩
set_option maxHeartbeats 1000000 in
set_option maxRecDepth 100000 in
theorem pushResume_2e (w : World) (cs : Array Value) (t v q0 q1 q2 z cp a : Int) (ok : Bool) (lt : Bool) (D : Option Addr) (ln lc : Nat) (z1 : 1 ≤ z) (z2 : z ≤ 16) (p1 : 0 ≤ q2) (p2 : q2 ≤ 1000) (c1 : 0 ≤ cp) (c2 : cp ≤ 16) (hc : (rest (t / 2) a == cp) = true) (h : Fr w cs 0 2 [t, v] [q0, q1, q2, z, cp]) :
    Calls Tryz.prog 72 #[.agg cs, .agg #[.int .u64 a, .bool ok, .bool lt, .slice D ln lc]] w fun e w' => ∃ cs', e = .returned (.agg cs') ∧ Fr w' cs' 0 3 [t, v] [q0, q1, q2, z, cp] ∧ Below w.heap.size w w' := by
  obtain ⟨A, n, c, B, m, d, rfl, hh⟩ := id h
  have WD := hide (fun W (hW : Below w.heap.size w W) => show Calls Tryz.prog 57 #[.agg #[.int .i64 0, .int .i64 2, .slice A n c, .slice B m d, .slice none 0 0], .int .i64 0] W fun e w' => e = .returned (.int .u64 t) ∧ Below W.heap.size W w' from word_any W _ 0 2 [t, v] [q0, q1, q2, z, cp] (h.below hW) 0 (by omega))
  have RC := hide (fun W (hW : Below w.heap.size w W) => ringCap_any W _ 0 2 [t, v] [q0, q1, q2, z, cp] (h.below hW) cp rfl c1 (by omega))
  have H0 := hide h
  have E0 : Hid (E3 w (((w.alloc (.cells #[.int .i64 0, .int .i64 2, .slice A n c, .slice B m d, .slice none 0 0] 51)).alloc (.cells #[.int .u64 a, .bool ok, .bool lt, .slice D ln lc] 86)).alloc (.cells #[.int .i64 0, .int .i64 0, .slice none 0 0, .slice none 0 0, .slice none 0 0] 51)) 51 86 51 #[.int .i64 0, .int .i64 2, .slice A n c, .slice B m d, .slice none 0 0] #[.int .u64 a, .bool ok, .bool lt, .slice D ln lc] #[.int .i64 0, .int .i64 0, .slice none 0 0, .slice none 0 0, .slice none 0 0]) := hide (E3.of (Below.refl _ _))
  clear h hh
  go_enter Tryz.func72, Tryz.ntmps72
  have hcl := hide hc
  clear hc
  go_wp2_with fail
  apply wp_scope_n 1
  go_wp2_with fail
  refine (WD.out _ E0.out.bel).mono ?_
  rintro e v1 ⟨rfl, hb⟩
  have E1 := hide (E0.out.next hb)
  clear hb
  obtain ⟨f0, f1, f2, f3, f4, -⟩ := bk5 E1.out.b1
  have l1 := E1.out.b1.lt
  have l2 := E1.out.b2.lt
  obtain ⟨a0, a1, a2, a3, -⟩ := bk4 E1.out.b2
  have l3 := E1.out.b3.lt
  go_wp2_with fail
  refine (ringCount_any _ t a).mono ?_
  rintro e v ⟨rfl, rfl⟩
  go_wp2_with fail
  refine (RC.out _ E1.out.bel).mono ?_
  rintro e v2 ⟨rfl, hb⟩
  have E2 := hide (E1.out.next hb)
  clear f0 f1 f2 f3 f4 l1 l2 a0 a1 a2 a3 l3
  clear hb
  obtain ⟨f0, f1, f2, f3, f4, -⟩ := bk5 E2.out.b1
  have l1 := E2.out.b1.lt
  have l2 := E2.out.b2.lt
  obtain ⟨a0, a1, a2, a3, -⟩ := bk4 E2.out.b2
  have l3 := E2.out.b3.lt
  have hc := hcl.out
  go_wp2_with fail
  refine (at_any _ _ 0 2 [t, v] [q0, q1, q2, z, cp] (H0.out.below (E2.out.bel)) 3).mono ?_
  rintro e v3 ⟨cs1, rfl, hf, hb⟩
  obtain ⟨A1, n1, c1, B1, m1, d1, rfl, -⟩ := id hf
  have H1 := hide hf
  clear hf
  have E3 := hide (E2.out.next hb)
  clear f0 f1 f2 f3 f4 l1 l2 a0 a1 a2 a3 l3
  clear hb
  obtain ⟨f0, f1, f2, f3, f4, -⟩ := bk5 E3.out.b1
  have l1 := E3.out.b1.lt
  have l2 := E3.out.b2.lt
  obtain ⟨a0, a1, a2, a3, -⟩ := bk4 E3.out.b2
  have l3 := E3.out.b3.lt
  have HT := hide (E3.out.b3.there (n := 5) rfl)
  go_wp2_with ((with_reducible show wpList _ _ _ _ _ _); refine wpList_store_res (by rfl) 51 _ _ (by rfl) (w.heap.size + 1 + 1) #[.int .i64 0, .int .i64 3, .slice A1 n1 c1, .slice B1 m1 d1, .slice none 0 0] (by rfl) (by rfl) HT.out Tryz.fr_inf (fr_one _ _ _ _ _ _ _ _ _ _ _) ?_; intro wz HZ)
  obtain ⟨fs, hfs⟩ := Tryz.fr_und
  exact ret_stored HZ Tryz.results72 rfl HT.out hfs rfl Tryz.fr_inf rfl ⟨_, rfl, Fr.stored HZ H1.out E3.out.b3, below_stored HZ E3.out.bel (by omega)⟩
set_option maxHeartbeats 1000000 in
set_option maxRecDepth 100000 in
theorem pushResume_2g (w : World) (cs : Array Value) (t v q0 q1 q2 z cp a : Int) (ok : Bool) (lt : Bool) (D : Option Addr) (ln lc : Nat) (z1 : 1 ≤ z) (z2 : z ≤ 16) (p1 : 0 ≤ q2) (p2 : q2 ≤ 1000) (c1 : 0 ≤ cp) (c2 : cp ≤ 16) (hc : (rest (t / 2) a == cp) = false) (hg : decide (cp < rest (t / 2) a) = true) (h : Fr w cs 0 2 [t, v] [q0, q1, q2, z, cp]) :
    Calls Tryz.prog 72 #[.agg cs, .agg #[.int .u64 a, .bool ok, .bool lt, .slice D ln lc]] w fun e w' => ∃ cs', e = .returned (.agg cs') ∧ Fr w' cs' 0 1 [t, v] [q0, q1, q2, z, cp] ∧ Below w.heap.size w w' := by
  obtain ⟨A, n, c, B, m, d, rfl, hh⟩ := id h
  have WD := hide (fun W (hW : Below w.heap.size w W) => show Calls Tryz.prog 57 #[.agg #[.int .i64 0, .int .i64 2, .slice A n c, .slice B m d, .slice none 0 0], .int .i64 0] W fun e w' => e = .returned (.int .u64 t) ∧ Below W.heap.size W w' from word_any W _ 0 2 [t, v] [q0, q1, q2, z, cp] (h.below hW) 0 (by omega))
  have RC := hide (fun W (hW : Below w.heap.size w W) => ringCap_any W _ 0 2 [t, v] [q0, q1, q2, z, cp] (h.below hW) cp rfl c1 (by omega))
  have H0 := hide h
  have E0 : Hid (E3 w (((w.alloc (.cells #[.int .i64 0, .int .i64 2, .slice A n c, .slice B m d, .slice none 0 0] 51)).alloc (.cells #[.int .u64 a, .bool ok, .bool lt, .slice D ln lc] 86)).alloc (.cells #[.int .i64 0, .int .i64 0, .slice none 0 0, .slice none 0 0, .slice none 0 0] 51)) 51 86 51 #[.int .i64 0, .int .i64 2, .slice A n c, .slice B m d, .slice none 0 0] #[.int .u64 a, .bool ok, .bool lt, .slice D ln lc] #[.int .i64 0, .int .i64 0, .slice none 0 0, .slice none 0 0, .slice none 0 0]) := hide (E3.of (Below.refl _ _))
  clear h hh
  go_enter Tryz.func72, Tryz.ntmps72
  have hgl := hide hg
  clear hg
  have hcl := hide hc
  clear hc
  go_wp2_with fail
  apply wp_scope_n 1
  go_wp2_with fail
  refine (WD.out _ E0.out.bel).mono ?_
  rintro e v1 ⟨rfl, hb⟩
  have E1 := hide (E0.out.next hb)
  clear hb
  obtain ⟨f0, f1, f2, f3, f4, -⟩ := bk5 E1.out.b1
  have l1 := E1.out.b1.lt
  have l2 := E1.out.b2.lt
  obtain ⟨a0, a1, a2, a3, -⟩ := bk4 E1.out.b2
  have l3 := E1.out.b3.lt
  go_wp2_with fail
  refine (ringCount_any _ t a).mono ?_
  rintro e v ⟨rfl, rfl⟩
  go_wp2_with fail
  refine (RC.out _ E1.out.bel).mono ?_
  rintro e v2 ⟨rfl, hb⟩
  have E2 := hide (E1.out.next hb)
  clear f0 f1 f2 f3 f4 l1 l2 a0 a1 a2 a3 l3
  clear hb
  obtain ⟨f0, f1, f2, f3, f4, -⟩ := bk5 E2.out.b1
  have l1 := E2.out.b1.lt
  have l2 := E2.out.b2.lt
  obtain ⟨a0, a1, a2, a3, -⟩ := bk4 E2.out.b2
  have l3 := E2.out.b3.lt
  have hc := hcl.out
  go_wp2_with fail
  refine (RC.out _ E2.out.bel).mono ?_
  rintro e v3 ⟨rfl, hb⟩
  have E3 := hide (E2.out.next hb)
  clear f0 f1 f2 f3 f4 l1 l2 a0 a1 a2 a3 l3
  clear hb
  obtain ⟨f0, f1, f2, f3, f4, -⟩ := bk5 E3.out.b1
  have l1 := E3.out.b1.lt
  have l2 := E3.out.b2.lt
  obtain ⟨a0, a1, a2, a3, -⟩ := bk4 E3.out.b2
  have l3 := E3.out.b3.lt
  have hg := hgl.out
  go_wp2_with fail
  (go_step3; refine JQ_goto _ (by rfl) ?_)
  go_wp2_with fail
  refine (at_any _ _ 0 2 [t, v] [q0, q1, q2, z, cp] (H0.out.below (E3.out.bel)) 1).mono ?_
  rintro e v4 ⟨cs1, rfl, hf, hb⟩
  obtain ⟨A1, n1, c1, B1, m1, d1, rfl, -⟩ := id hf
  have H1 := hide hf
  clear hf
  have E4 := hide (E3.out.next hb)
  clear f0 f1 f2 f3 f4 l1 l2 a0 a1 a2 a3 l3
  clear hb
  obtain ⟨f0, f1, f2, f3, f4, -⟩ := bk5 E4.out.b1
  have l1 := E4.out.b1.lt
  have l2 := E4.out.b2.lt
  obtain ⟨a0, a1, a2, a3, -⟩ := bk4 E4.out.b2
  have l3 := E4.out.b3.lt
  have HT := hide (E4.out.b3.there (n := 5) rfl)
  go_wp2_with ((with_reducible show wpList _ _ _ _ _ _); refine wpList_store_res (by rfl) 51 _ _ (by rfl) (w.heap.size + 1 + 1) #[.int .i64 0, .int .i64 1, .slice A1 n1 c1, .slice B1 m1 d1, .slice none 0 0] (by rfl) (by rfl) HT.out Tryz.fr_inf (fr_one _ _ _ _ _ _ _ _ _ _ _) ?_; intro wz HZ)
  obtain ⟨fs, hfs⟩ := Tryz.fr_und
  exact ret_stored HZ Tryz.results72 rfl HT.out hfs rfl Tryz.fr_inf rfl ⟨_, rfl, Fr.stored HZ H1.out E4.out.b3, below_stored HZ E4.out.bel (by omega)⟩
set_option maxHeartbeats 1000000 in
set_option maxRecDepth 100000 in
theorem pushResume_2l (w : World) (cs : Array Value) (t v q0 q1 q2 z cp a : Int) (ok : Bool) (lt : Bool) (D : Option Addr) (ln lc : Nat) (z1 : 1 ≤ z) (z2 : z ≤ 16) (p1 : 0 ≤ q2) (p2 : q2 ≤ 1000) (c1 : 0 ≤ cp) (c2 : cp ≤ 16) (hc : (rest (t / 2) a == cp) = false) (hg : decide (cp < rest (t / 2) a) = false) (h : Fr w cs 0 2 [t, v] [q0, q1, q2, z, cp]) :
    Calls Tryz.prog 72 #[.agg cs, .agg #[.int .u64 a, .bool ok, .bool lt, .slice D ln lc]] w fun e w' => ∃ cs', e = .returned (.agg cs') ∧ Fr w' cs' 0 4 [t, v] [q0, q1, q2, z, cp] ∧ Below w.heap.size w w' := by
  obtain ⟨A, n, c, B, m, d, rfl, hh⟩ := id h
  have WD := hide (fun W (hW : Below w.heap.size w W) => show Calls Tryz.prog 57 #[.agg #[.int .i64 0, .int .i64 2, .slice A n c, .slice B m d, .slice none 0 0], .int .i64 0] W fun e w' => e = .returned (.int .u64 t) ∧ Below W.heap.size W w' from word_any W _ 0 2 [t, v] [q0, q1, q2, z, cp] (h.below hW) 0 (by omega))
  have RC := hide (fun W (hW : Below w.heap.size w W) => ringCap_any W _ 0 2 [t, v] [q0, q1, q2, z, cp] (h.below hW) cp rfl c1 (by omega))
  have H0 := hide h
  have E0 : Hid (E3 w (((w.alloc (.cells #[.int .i64 0, .int .i64 2, .slice A n c, .slice B m d, .slice none 0 0] 51)).alloc (.cells #[.int .u64 a, .bool ok, .bool lt, .slice D ln lc] 86)).alloc (.cells #[.int .i64 0, .int .i64 0, .slice none 0 0, .slice none 0 0, .slice none 0 0] 51)) 51 86 51 #[.int .i64 0, .int .i64 2, .slice A n c, .slice B m d, .slice none 0 0] #[.int .u64 a, .bool ok, .bool lt, .slice D ln lc] #[.int .i64 0, .int .i64 0, .slice none 0 0, .slice none 0 0, .slice none 0 0]) := hide (E3.of (Below.refl _ _))
  clear h hh
  go_enter Tryz.func72, Tryz.ntmps72
  have hgl := hide hg
  clear hg
  have hcl := hide hc
  clear hc
  go_wp2_with fail
  apply wp_scope_n 1
  go_wp2_with fail
  refine (WD.out _ E0.out.bel).mono ?_
  rintro e v1 ⟨rfl, hb⟩
  have E1 := hide (E0.out.next hb)
  clear hb
  obtain ⟨f0, f1, f2, f3, f4, -⟩ := bk5 E1.out.b1
  have l1 := E1.out.b1.lt
  have l2 := E1.out.b2.lt
  obtain ⟨a0, a1, a2, a3, -⟩ := bk4 E1.out.b2
  have l3 := E1.out.b3.lt
  go_wp2_with fail
  refine (ringCount_any _ t a).mono ?_
  rintro e v ⟨rfl, rfl⟩
  go_wp2_with fail
  refine (RC.out _ E1.out.bel).mono ?_
  rintro e v2 ⟨rfl, hb⟩
  have E2 := hide (E1.out.next hb)
  clear f0 f1 f2 f3 f4 l1 l2 a0 a1 a2 a3 l3
  clear hb
  obtain ⟨f0, f1, f2, f3, f4, -⟩ := bk5 E2.out.b1
  have l1 := E2.out.b1.lt
  have l2 := E2.out.b2.lt
  obtain ⟨a0, a1, a2, a3, -⟩ := bk4 E2.out.b2
  have l3 := E2.out.b3.lt
  have hc := hcl.out
  go_wp2_with fail
  refine (RC.out _ E2.out.bel).mono ?_
  rintro e v3 ⟨rfl, hb⟩
  have E3 := hide (E2.out.next hb)
  clear f0 f1 f2 f3 f4 l1 l2 a0 a1 a2 a3 l3
  clear hb
  obtain ⟨f0, f1, f2, f3, f4, -⟩ := bk5 E3.out.b1
  have l1 := E3.out.b1.lt
  have l2 := E3.out.b2.lt
  obtain ⟨a0, a1, a2, a3, -⟩ := bk4 E3.out.b2
  have l3 := E3.out.b3.lt
  have hg := hgl.out
  go_wp2_with fail
  refine (at_any _ _ 0 2 [t, v] [q0, q1, q2, z, cp] (H0.out.below (E3.out.bel)) 4).mono ?_
  rintro e v4 ⟨cs1, rfl, hf, hb⟩
  obtain ⟨A1, n1, c1, B1, m1, d1, rfl, -⟩ := id hf
  have H1 := hide hf
  clear hf
  have E4 := hide (E3.out.next hb)
  clear f0 f1 f2 f3 f4 l1 l2 a0 a1 a2 a3 l3
  clear hb
  obtain ⟨f0, f1, f2, f3, f4, -⟩ := bk5 E4.out.b1
  have l1 := E4.out.b1.lt
  have l2 := E4.out.b2.lt
  obtain ⟨a0, a1, a2, a3, -⟩ := bk4 E4.out.b2
  have l3 := E4.out.b3.lt
  have HT := hide (E4.out.b3.there (n := 5) rfl)
  go_wp2_with ((with_reducible show wpList _ _ _ _ _ _); refine wpList_store_res (by rfl) 51 _ _ (by rfl) (w.heap.size + 1 + 1) #[.int .i64 0, .int .i64 4, .slice A1 n1 c1, .slice B1 m1 d1, .slice none 0 0] (by rfl) (by rfl) HT.out Tryz.fr_inf (fr_one _ _ _ _ _ _ _ _ _ _ _) ?_; intro wz HZ)
  obtain ⟨fs, hfs⟩ := Tryz.fr_und
  exact ret_stored HZ Tryz.results72 rfl HT.out hfs rfl Tryz.fr_inf rfl ⟨_, rfl, Fr.stored HZ H1.out E4.out.b3, below_stored HZ E4.out.bel (by omega)⟩
set_option maxHeartbeats 1000000 in
set_option maxRecDepth 100000 in
theorem pushResume_3e (w : World) (cs : Array Value) (t v q0 q1 q2 z cp a : Int) (ok : Bool) (lt : Bool) (D : Option Addr) (ln lc : Nat) (z1 : 1 ≤ z) (z2 : z ≤ 16) (p1 : 0 ≤ q2) (p2 : q2 ≤ 1000) (c1 : 0 ≤ cp) (c2 : cp ≤ 16) (hc : (a == t) = true) (h : Fr w cs 0 3 [t, v] [q0, q1, q2, z, cp]) :
    Calls Tryz.prog 72 #[.agg cs, .agg #[.int .u64 a, .bool ok, .bool lt, .slice D ln lc]] w fun e w' => ∃ cs', e = .returned (.agg cs') ∧ Fr w' cs' 2 (-1) [0] [] ∧ Below w.heap.size w w' := by
  obtain ⟨A, n, c, B, m, d, rfl, hh⟩ := id h
  have WD := hide (fun W (hW : Below w.heap.size w W) => show Calls Tryz.prog 57 #[.agg #[.int .i64 0, .int .i64 3, .slice A n c, .slice B m d, .slice none 0 0], .int .i64 0] W fun e w' => e = .returned (.int .u64 t) ∧ Below W.heap.size W w' from word_any W _ 0 3 [t, v] [q0, q1, q2, z, cp] (h.below hW) 0 (by omega))
  have H0 := hide h
  have E0 : Hid (E3 w (((w.alloc (.cells #[.int .i64 0, .int .i64 3, .slice A n c, .slice B m d, .slice none 0 0] 51)).alloc (.cells #[.int .u64 a, .bool ok, .bool lt, .slice D ln lc] 86)).alloc (.cells #[.int .i64 0, .int .i64 0, .slice none 0 0, .slice none 0 0, .slice none 0 0] 51)) 51 86 51 #[.int .i64 0, .int .i64 3, .slice A n c, .slice B m d, .slice none 0 0] #[.int .u64 a, .bool ok, .bool lt, .slice D ln lc] #[.int .i64 0, .int .i64 0, .slice none 0 0, .slice none 0 0, .slice none 0 0]) := hide (E3.of (Below.refl _ _))
  clear h hh
  go_enter Tryz.func72, Tryz.ntmps72
  have hcl := hide hc
  clear hc
  go_wp2_with fail
  apply wp_scope_n 1
  go_wp2_with fail
  refine (WD.out _ E0.out.bel).mono ?_
  rintro e v1 ⟨rfl, hb⟩
  have E1 := hide (E0.out.next hb)
  clear hb
  obtain ⟨f0, f1, f2, f3, f4, -⟩ := bk5 E1.out.b1
  have l1 := E1.out.b1.lt
  have l2 := E1.out.b2.lt
  obtain ⟨a0, a1, a2, a3, -⟩ := bk4 E1.out.b2
  have l3 := E1.out.b3.lt
  have hc := hcl.out
  go_wp2_with fail
  refine (done_any _ 2 0).mono ?_
  rintro e v2 ⟨cs1, rfl, hf, hb⟩
  obtain ⟨A1, n1, c1, B1, m1, d1, rfl, -⟩ := id hf
  have H1 := hide hf
  clear hf
  have E2 := hide (E1.out.next hb)
  clear f0 f1 f2 f3 f4 l1 l2 a0 a1 a2 a3 l3
  clear hb
  obtain ⟨f0, f1, f2, f3, f4, -⟩ := bk5 E2.out.b1
  have l1 := E2.out.b1.lt
  have l2 := E2.out.b2.lt
  obtain ⟨a0, a1, a2, a3, -⟩ := bk4 E2.out.b2
  have l3 := E2.out.b3.lt
  have HT := hide (E2.out.b3.there (n := 5) rfl)
  go_wp2_with ((with_reducible show wpList _ _ _ _ _ _); refine wpList_store_res (by rfl) 51 _ _ (by rfl) (w.heap.size + 1 + 1) #[.int .i64 2, .int .i64 (-1), .slice A1 n1 c1, .slice B1 m1 d1, .slice none 0 0] (by rfl) (by rfl) HT.out Tryz.fr_inf (fr_one _ _ _ _ _ _ _ _ _ _ _) ?_; intro wz HZ)
  obtain ⟨fs, hfs⟩ := Tryz.fr_und
  exact ret_stored HZ Tryz.results72 rfl HT.out hfs rfl Tryz.fr_inf rfl ⟨_, rfl, Fr.stored HZ H1.out E2.out.b3, below_stored HZ E2.out.bel (by omega)⟩
set_option maxHeartbeats 1000000 in
set_option maxRecDepth 100000 in
theorem pushResume_3c (w : World) (cs : Array Value) (t v q0 q1 q2 z cp a : Int) (ok : Bool) (lt : Bool) (D : Option Addr) (ln lc : Nat) (z1 : 1 ≤ z) (z2 : z ≤ 16) (p1 : 0 ≤ q2) (p2 : q2 ≤ 1000) (c1 : 0 ≤ cp) (c2 : cp ≤ 16) (u1 : 0 ≤ a ∧ a ≤ 18446744073709551615) (hc : (a == t) = false) (hg : cl a = true) (h : Fr w cs 0 3 [t, v] [q0, q1, q2, z, cp]) :
    Calls Tryz.prog 72 #[.agg cs, .agg #[.int .u64 a, .bool ok, .bool lt, .slice D ln lc]] w fun e w' => ∃ cs', e = .returned (.agg cs') ∧ Fr w' cs' 4 (-1) [0] [] ∧ Below w.heap.size w w' := by
  obtain ⟨A, n, c, B, m, d, rfl, hh⟩ := id h
  have WD := hide (fun W (hW : Below w.heap.size w W) => show Calls Tryz.prog 57 #[.agg #[.int .i64 0, .int .i64 3, .slice A n c, .slice B m d, .slice none 0 0], .int .i64 0] W fun e w' => e = .returned (.int .u64 t) ∧ Below W.heap.size W w' from word_any W _ 0 3 [t, v] [q0, q1, q2, z, cp] (h.below hW) 0 (by omega))
  have CL := hide (fun W => closed_any a W u1.1 u1.2)
  have H0 := hide h
  have E0 : Hid (E3 w (((w.alloc (.cells #[.int .i64 0, .int .i64 3, .slice A n c, .slice B m d, .slice none 0 0] 51)).alloc (.cells #[.int .u64 a, .bool ok, .bool lt, .slice D ln lc] 86)).alloc (.cells #[.int .i64 0, .int .i64 0, .slice none 0 0, .slice none 0 0, .slice none 0 0] 51)) 51 86 51 #[.int .i64 0, .int .i64 3, .slice A n c, .slice B m d, .slice none 0 0] #[.int .u64 a, .bool ok, .bool lt, .slice D ln lc] #[.int .i64 0, .int .i64 0, .slice none 0 0, .slice none 0 0, .slice none 0 0]) := hide (E3.of (Below.refl _ _))
  clear h hh
  go_enter Tryz.func72, Tryz.ntmps72
  have hgl := hide hg
  clear hg
  have hcl := hide hc
  clear hc
  go_wp2_with fail
  apply wp_scope_n 1
  go_wp2_with fail
  refine (WD.out _ E0.out.bel).mono ?_
  rintro e v1 ⟨rfl, hb⟩
  have E1 := hide (E0.out.next hb)
  clear hb
  obtain ⟨f0, f1, f2, f3, f4, -⟩ := bk5 E1.out.b1
  have l1 := E1.out.b1.lt
  have l2 := E1.out.b2.lt
  obtain ⟨a0, a1, a2, a3, -⟩ := bk4 E1.out.b2
  have l3 := E1.out.b3.lt
  have hc := hcl.out
  go_wp2_with fail
  (go_step3; refine JQ_goto _ (by rfl) ?_)
  go_wp2_with fail
  refine (CL.out _).mono ?_
  rintro e v ⟨rfl, rfl⟩
  have hg := hgl.out
  go_wp2_with fail
  refine (done_any _ 4 0).mono ?_
  rintro e v2 ⟨cs1, rfl, hf, hb⟩
  obtain ⟨A1, n1, c1, B1, m1, d1, rfl, -⟩ := id hf
  have H1 := hide hf
  clear hf
  have E2 := hide (E1.out.next hb)
  clear f0 f1 f2 f3 f4 l1 l2 a0 a1 a2 a3 l3
  clear hb
  obtain ⟨f0, f1, f2, f3, f4, -⟩ := bk5 E2.out.b1
  have l1 := E2.out.b1.lt
  have l2 := E2.out.b2.lt
  obtain ⟨a0, a1, a2, a3, -⟩ := bk4 E2.out.b2
  have l3 := E2.out.b3.lt
  have HT := hide (E2.out.b3.there (n := 5) rfl)
  go_wp2_with ((with_reducible show wpList _ _ _ _ _ _); refine wpList_store_res (by rfl) 51 _ _ (by rfl) (w.heap.size + 1 + 1) #[.int .i64 4, .int .i64 (-1), .slice A1 n1 c1, .slice B1 m1 d1, .slice none 0 0] (by rfl) (by rfl) HT.out Tryz.fr_inf (fr_one _ _ _ _ _ _ _ _ _ _ _) ?_; intro wz HZ)
  obtain ⟨fs, hfs⟩ := Tryz.fr_und
  exact ret_stored HZ Tryz.results72 rfl HT.out hfs rfl Tryz.fr_inf rfl ⟨_, rfl, Fr.stored HZ H1.out E2.out.b3, below_stored HZ E2.out.bel (by omega)⟩
set_option maxHeartbeats 1000000 in
set_option maxRecDepth 100000 in
theorem pushResume_3o (w : World) (cs : Array Value) (t v q0 q1 q2 z cp a : Int) (ok : Bool) (lt : Bool) (D : Option Addr) (ln lc : Nat) (z1 : 1 ≤ z) (z2 : z ≤ 16) (p1 : 0 ≤ q2) (p2 : q2 ≤ 1000) (c1 : 0 ≤ cp) (c2 : cp ≤ 16) (u1 : 0 ≤ a ∧ a ≤ 18446744073709551615) (hc : (a == t) = false) (hg : cl a = false) (h : Fr w cs 0 3 [t, v] [q0, q1, q2, z, cp]) :
    Calls Tryz.prog 72 #[.agg cs, .agg #[.int .u64 a, .bool ok, .bool lt, .slice D ln lc]] w fun e w' => ∃ cs', e = .returned (.agg cs') ∧ Fr w' cs' 0 2 [a, v] [q0, q1, q2, z, cp] ∧ Below w.heap.size w w' := by
  obtain ⟨A, n, c, B, m, d, rfl, hh⟩ := id h
  have WD := hide (fun W (hW : Below w.heap.size w W) => show Calls Tryz.prog 57 #[.agg #[.int .i64 0, .int .i64 3, .slice A n c, .slice B m d, .slice none 0 0], .int .i64 0] W fun e w' => e = .returned (.int .u64 t) ∧ Below W.heap.size W w' from word_any W _ 0 3 [t, v] [q0, q1, q2, z, cp] (h.below hW) 0 (by omega))
  have CL := hide (fun W => closed_any a W u1.1 u1.2)
  have H0 := hide h
  have E0 : Hid (E3 w (((w.alloc (.cells #[.int .i64 0, .int .i64 3, .slice A n c, .slice B m d, .slice none 0 0] 51)).alloc (.cells #[.int .u64 a, .bool ok, .bool lt, .slice D ln lc] 86)).alloc (.cells #[.int .i64 0, .int .i64 0, .slice none 0 0, .slice none 0 0, .slice none 0 0] 51)) 51 86 51 #[.int .i64 0, .int .i64 3, .slice A n c, .slice B m d, .slice none 0 0] #[.int .u64 a, .bool ok, .bool lt, .slice D ln lc] #[.int .i64 0, .int .i64 0, .slice none 0 0, .slice none 0 0, .slice none 0 0]) := hide (E3.of (Below.refl _ _))
  clear h hh
  go_enter Tryz.func72, Tryz.ntmps72
  have hgl := hide hg
  clear hg
  have hcl := hide hc
  clear hc
  go_wp2_with fail
  apply wp_scope_n 1
  go_wp2_with fail
  refine (WD.out _ E0.out.bel).mono ?_
  rintro e v1 ⟨rfl, hb⟩
  have E1 := hide (E0.out.next hb)
  clear hb
  obtain ⟨f0, f1, f2, f3, f4, -⟩ := bk5 E1.out.b1
  have l1 := E1.out.b1.lt
  have l2 := E1.out.b2.lt
  obtain ⟨a0, a1, a2, a3, -⟩ := bk4 E1.out.b2
  have l3 := E1.out.b3.lt
  have hc := hcl.out
  go_wp2_with fail
  (go_step3; refine JQ_goto _ (by rfl) ?_)
  go_wp2_with fail
  refine (CL.out _).mono ?_
  rintro e v ⟨rfl, rfl⟩
  have hg := hgl.out
  go_wp2_with fail
  refine (with_any _ _ 0 3 [t, v] [q0, q1, q2, z, cp] (H0.out.below (E1.out.bel)) 0 a (by simp)).mono ?_
  rintro e v2 ⟨cs1, rfl, hf, hb⟩
  obtain ⟨A1, n1, c1, B1, m1, d1, rfl, -⟩ := id hf
  have H1 := hide hf
  clear hf
  have E2 := hide (E1.out.next hb)
  clear f0 f1 f2 f3 f4 l1 l2 a0 a1 a2 a3 l3
  clear hb
  obtain ⟨f0, f1, f2, f3, f4, -⟩ := bk5 E2.out.b1
  have l1 := E2.out.b1.lt
  have l2 := E2.out.b2.lt
  obtain ⟨a0, a1, a2, a3, -⟩ := bk4 E2.out.b2
  have l3 := E2.out.b3.lt
  go_wp2_with fail
  refine (at_any _ _ 0 3 [a, v] [q0, q1, q2, z, cp] H1.out 2).mono ?_
  rintro e v3 ⟨cs2, rfl, hf, hb⟩
  obtain ⟨A2, n2, c2, B2, m2, d2, rfl, -⟩ := id hf
  have H2 := hide hf
  clear hf
  have E3 := hide (E2.out.next hb)
  clear f0 f1 f2 f3 f4 l1 l2 a0 a1 a2 a3 l3
  clear hb
  obtain ⟨f0, f1, f2, f3, f4, -⟩ := bk5 E3.out.b1
  have l1 := E3.out.b1.lt
  have l2 := E3.out.b2.lt
  obtain ⟨a0, a1, a2, a3, -⟩ := bk4 E3.out.b2
  have l3 := E3.out.b3.lt
  have HT := hide (E3.out.b3.there (n := 5) rfl)
  go_wp2_with ((with_reducible show wpList _ _ _ _ _ _); refine wpList_store_res (by rfl) 51 _ _ (by rfl) (w.heap.size + 1 + 1) #[.int .i64 0, .int .i64 2, .slice A2 n2 c2, .slice B2 m2 d2, .slice none 0 0] (by rfl) (by rfl) HT.out Tryz.fr_inf (fr_one _ _ _ _ _ _ _ _ _ _ _) ?_; intro wz HZ)
  obtain ⟨fs, hfs⟩ := Tryz.fr_und
  exact ret_stored HZ Tryz.results72 rfl HT.out hfs rfl Tryz.fr_inf rfl ⟨_, rfl, Fr.stored HZ H2.out E3.out.b3, below_stored HZ E3.out.bel (by omega)⟩
set_option maxHeartbeats 1000000 in
set_option maxRecDepth 100000 in
theorem pushResume_4y (w : World) (cs : Array Value) (t v q0 q1 q2 z cp a : Int) (ok : Bool) (lt : Bool) (D : Option Addr) (ln lc : Nat) (z1 : 1 ≤ z) (z2 : z ≤ 16) (p1 : 0 ≤ q2) (p2 : q2 ≤ 1000) (c1 : 0 ≤ cp) (c2 : cp ≤ 16) (hc : (a == t / 2) = true) (h : Fr w cs 0 4 [t, v] [q0, q1, q2, z, cp]) :
    Calls Tryz.prog 72 #[.agg cs, .agg #[.int .u64 a, .bool ok, .bool lt, .slice D ln lc]] w fun e w' => ∃ cs', e = .returned (.agg cs') ∧ Fr w' cs' 0 5 [t, v] [q0, q1, q2, z, cp] ∧ Below w.heap.size w w' := by
  obtain ⟨A, n, c, B, m, d, rfl, hh⟩ := id h
  have WD := hide (fun W (hW : Below w.heap.size w W) => show Calls Tryz.prog 57 #[.agg #[.int .i64 0, .int .i64 4, .slice A n c, .slice B m d, .slice none 0 0], .int .i64 0] W fun e w' => e = .returned (.int .u64 t) ∧ Below W.heap.size W w' from word_any W _ 0 4 [t, v] [q0, q1, q2, z, cp] (h.below hW) 0 (by omega))
  have H0 := hide h
  have E0 : Hid (E3 w (((w.alloc (.cells #[.int .i64 0, .int .i64 4, .slice A n c, .slice B m d, .slice none 0 0] 51)).alloc (.cells #[.int .u64 a, .bool ok, .bool lt, .slice D ln lc] 86)).alloc (.cells #[.int .i64 0, .int .i64 0, .slice none 0 0, .slice none 0 0, .slice none 0 0] 51)) 51 86 51 #[.int .i64 0, .int .i64 4, .slice A n c, .slice B m d, .slice none 0 0] #[.int .u64 a, .bool ok, .bool lt, .slice D ln lc] #[.int .i64 0, .int .i64 0, .slice none 0 0, .slice none 0 0, .slice none 0 0]) := hide (E3.of (Below.refl _ _))
  clear h hh
  go_enter Tryz.func72, Tryz.ntmps72
  have hcl := hide hc
  clear hc
  go_wp2_with fail
  apply wp_scope_n 1
  go_wp2_with fail
  refine (WD.out _ E0.out.bel).mono ?_
  rintro e v1 ⟨rfl, hb⟩
  have E1 := hide (E0.out.next hb)
  clear hb
  obtain ⟨f0, f1, f2, f3, f4, -⟩ := bk5 E1.out.b1
  have l1 := E1.out.b1.lt
  have l2 := E1.out.b2.lt
  obtain ⟨a0, a1, a2, a3, -⟩ := bk4 E1.out.b2
  have l3 := E1.out.b3.lt
  go_wp2_with fail
  have U9 := fun (u : Up v1) => E1.out.next u.2
  have g0 := fun u => (bk5 (U9 u).b1).1
  have g1 := fun u => (bk5 (U9 u).b1).2.1
  have g2 := fun u => (bk5 (U9 u).b1).2.2.1
  have g3 := fun u => (bk5 (U9 u).b1).2.2.2.1
  have g4 := fun u => (bk5 (U9 u).b1).2.2.2.2.1
  have d0 := fun u => (bk4 (U9 u).b2).1
  have d1 := fun u => (bk4 (U9 u).b2).2.1
  have d2 := fun u => (bk4 (U9 u).b2).2.2.1
  have d3 := fun u => (bk4 (U9 u).b2).2.2.2.1
  have UU := hide U9
  clear U9
  clear f0 f1 f2 f3 f4 l1 l2 a0 a1 a2 a3 l3
  refine wp_region_up (by kernel_rfl) (by kernel_rfl) ?_
  repeat (go_big_quiet_step (first
    | (go_at_call 92; exact up_same (seq_any _ _))))
  refine wpQuiet_nil ?_
  rintro _ ⟨u, rfl⟩
  clear g0 g1 g2 g3 g4 d0 d1 d2 d3
  have E2 := hide (UU.out u)
  clear UU
  generalize u.1 = v2 at *
  obtain ⟨f0, f1, f2, f3, f4, -⟩ := bk5 E2.out.b1
  have l1 := E2.out.b1.lt
  have l2 := E2.out.b2.lt
  obtain ⟨a0, a1, a2, a3, -⟩ := bk4 E2.out.b2
  have l3 := E2.out.b3.lt
  have hc := hcl.out
  go_wp2_with fail
  refine (at_any _ _ 0 4 [t, v] [q0, q1, q2, z, cp] (H0.out.below (E2.out.bel)) 5).mono ?_
  rintro e v3 ⟨cs1, rfl, hf, hb⟩
  obtain ⟨A1, n1, c1, B1, m1, d1, rfl, -⟩ := id hf
  have H1 := hide hf
  clear hf
  have E3 := hide (E2.out.next hb)
  clear f0 f1 f2 f3 f4 l1 l2 a0 a1 a2 a3 l3
  clear hb
  obtain ⟨f0, f1, f2, f3, f4, -⟩ := bk5 E3.out.b1
  have l1 := E3.out.b1.lt
  have l2 := E3.out.b2.lt
  obtain ⟨a0, a1, a2, a3, -⟩ := bk4 E3.out.b2
  have l3 := E3.out.b3.lt
  have HT := hide (E3.out.b3.there (n := 5) rfl)
  go_wp2_with ((with_reducible show wpList _ _ _ _ _ _); refine wpList_store_res (by rfl) 51 _ _ (by rfl) (w.heap.size + 1 + 1) #[.int .i64 0, .int .i64 5, .slice A1 n1 c1, .slice B1 m1 d1, .slice none 0 0] (by rfl) (by rfl) HT.out Tryz.fr_inf (fr_one _ _ _ _ _ _ _ _ _ _ _) ?_; intro wz HZ)
  obtain ⟨fs, hfs⟩ := Tryz.fr_und
  exact ret_stored HZ Tryz.results72 rfl HT.out hfs rfl Tryz.fr_inf rfl ⟨_, rfl, Fr.stored HZ H1.out E3.out.b3, below_stored HZ E3.out.bel (by omega)⟩
set_option maxHeartbeats 1000000 in
set_option maxRecDepth 100000 in
theorem pushResume_4n (w : World) (cs : Array Value) (t v q0 q1 q2 z cp a : Int) (ok : Bool) (lt : Bool) (D : Option Addr) (ln lc : Nat) (z1 : 1 ≤ z) (z2 : z ≤ 16) (p1 : 0 ≤ q2) (p2 : q2 ≤ 1000) (c1 : 0 ≤ cp) (c2 : cp ≤ 16) (hc : (a == t / 2) = false) (h : Fr w cs 0 4 [t, v] [q0, q1, q2, z, cp]) :
    Calls Tryz.prog 72 #[.agg cs, .agg #[.int .u64 a, .bool ok, .bool lt, .slice D ln lc]] w fun e w' => ∃ cs', e = .returned (.agg cs') ∧ Fr w' cs' 0 1 [t, v] [q0, q1, q2, z, cp] ∧ Below w.heap.size w w' := by
  obtain ⟨A, n, c, B, m, d, rfl, hh⟩ := id h
  have WD := hide (fun W (hW : Below w.heap.size w W) => show Calls Tryz.prog 57 #[.agg #[.int .i64 0, .int .i64 4, .slice A n c, .slice B m d, .slice none 0 0], .int .i64 0] W fun e w' => e = .returned (.int .u64 t) ∧ Below W.heap.size W w' from word_any W _ 0 4 [t, v] [q0, q1, q2, z, cp] (h.below hW) 0 (by omega))
  have H0 := hide h
  have E0 : Hid (E3 w (((w.alloc (.cells #[.int .i64 0, .int .i64 4, .slice A n c, .slice B m d, .slice none 0 0] 51)).alloc (.cells #[.int .u64 a, .bool ok, .bool lt, .slice D ln lc] 86)).alloc (.cells #[.int .i64 0, .int .i64 0, .slice none 0 0, .slice none 0 0, .slice none 0 0] 51)) 51 86 51 #[.int .i64 0, .int .i64 4, .slice A n c, .slice B m d, .slice none 0 0] #[.int .u64 a, .bool ok, .bool lt, .slice D ln lc] #[.int .i64 0, .int .i64 0, .slice none 0 0, .slice none 0 0, .slice none 0 0]) := hide (E3.of (Below.refl _ _))
  clear h hh
  go_enter Tryz.func72, Tryz.ntmps72
  have hcl := hide hc
  clear hc
  go_wp2_with fail
  apply wp_scope_n 1
  go_wp2_with fail
  refine (WD.out _ E0.out.bel).mono ?_
  rintro e v1 ⟨rfl, hb⟩
  have E1 := hide (E0.out.next hb)
  clear hb
  obtain ⟨f0, f1, f2, f3, f4, -⟩ := bk5 E1.out.b1
  have l1 := E1.out.b1.lt
  have l2 := E1.out.b2.lt
  obtain ⟨a0, a1, a2, a3, -⟩ := bk4 E1.out.b2
  have l3 := E1.out.b3.lt
  go_wp2_with fail
  have U9 := fun (u : Up v1) => E1.out.next u.2
  have g0 := fun u => (bk5 (U9 u).b1).1
  have g1 := fun u => (bk5 (U9 u).b1).2.1
  have g2 := fun u => (bk5 (U9 u).b1).2.2.1
  have g3 := fun u => (bk5 (U9 u).b1).2.2.2.1
  have g4 := fun u => (bk5 (U9 u).b1).2.2.2.2.1
  have d0 := fun u => (bk4 (U9 u).b2).1
  have d1 := fun u => (bk4 (U9 u).b2).2.1
  have d2 := fun u => (bk4 (U9 u).b2).2.2.1
  have d3 := fun u => (bk4 (U9 u).b2).2.2.2.1
  have UU := hide U9
  clear U9
  clear f0 f1 f2 f3 f4 l1 l2 a0 a1 a2 a3 l3
  refine wp_region_up (by kernel_rfl) (by kernel_rfl) ?_
  repeat (go_big_quiet_step (first
    | (go_at_call 92; exact up_same (seq_any _ _))))
  refine wpQuiet_nil ?_
  rintro _ ⟨u, rfl⟩
  clear g0 g1 g2 g3 g4 d0 d1 d2 d3
  have E2 := hide (UU.out u)
  clear UU
  generalize u.1 = v2 at *
  obtain ⟨f0, f1, f2, f3, f4, -⟩ := bk5 E2.out.b1
  have l1 := E2.out.b1.lt
  have l2 := E2.out.b2.lt
  obtain ⟨a0, a1, a2, a3, -⟩ := bk4 E2.out.b2
  have l3 := E2.out.b3.lt
  have hc := hcl.out
  go_wp2_with fail
  (go_step3; refine JQ_goto _ (by rfl) ?_)
  go_wp2_with fail
  refine (at_any _ _ 0 4 [t, v] [q0, q1, q2, z, cp] (H0.out.below (E2.out.bel)) 1).mono ?_
  rintro e v3 ⟨cs1, rfl, hf, hb⟩
  obtain ⟨A1, n1, c1, B1, m1, d1, rfl, -⟩ := id hf
  have H1 := hide hf
  clear hf
  have E3 := hide (E2.out.next hb)
  clear f0 f1 f2 f3 f4 l1 l2 a0 a1 a2 a3 l3
  clear hb
  obtain ⟨f0, f1, f2, f3, f4, -⟩ := bk5 E3.out.b1
  have l1 := E3.out.b1.lt
  have l2 := E3.out.b2.lt
  obtain ⟨a0, a1, a2, a3, -⟩ := bk4 E3.out.b2
  have l3 := E3.out.b3.lt
  have HT := hide (E3.out.b3.there (n := 5) rfl)
  go_wp2_with ((with_reducible show wpList _ _ _ _ _ _); refine wpList_store_res (by rfl) 51 _ _ (by rfl) (w.heap.size + 1 + 1) #[.int .i64 0, .int .i64 1, .slice A1 n1 c1, .slice B1 m1 d1, .slice none 0 0] (by rfl) (by rfl) HT.out Tryz.fr_inf (fr_one _ _ _ _ _ _ _ _ _ _ _) ?_; intro wz HZ)
  obtain ⟨fs, hfs⟩ := Tryz.fr_und
  exact ret_stored HZ Tryz.results72 rfl HT.out hfs rfl Tryz.fr_inf rfl ⟨_, rfl, Fr.stored HZ H1.out E3.out.b3, below_stored HZ E3.out.bel (by omega)⟩
set_option maxHeartbeats 1000000 in
set_option maxRecDepth 100000 in
theorem pushResume_5y (w : World) (cs : Array Value) (t v q0 q1 q2 z cp a : Int) (lt : Bool) (D : Option Addr) (ln lc : Nat) (z1 : 1 ≤ z) (z2 : z ≤ 16) (p1 : 0 ≤ q2) (p2 : q2 ≤ 1000) (c1 : 0 ≤ cp) (c2 : cp ≤ 16) (h : Fr w cs 0 5 [t, v] [q0, q1, q2, z, cp]) :
    Calls Tryz.prog 72 #[.agg cs, .agg #[.int .u64 a, .bool true, .bool lt, .slice D ln lc]] w fun e w' => ∃ cs', e = .returned (.agg cs') ∧ Fr w' cs' 0 6 [t, v] [q0, q1, q2, z, cp] ∧ Below w.heap.size w w' := by
  obtain ⟨A, n, c, B, m, d, rfl, hh⟩ := id h
  have WD := hide (fun W (hW : Below w.heap.size w W) => show Calls Tryz.prog 57 #[.agg #[.int .i64 0, .int .i64 5, .slice A n c, .slice B m d, .slice none 0 0], .int .i64 0] W fun e w' => e = .returned (.int .u64 t) ∧ Below W.heap.size W w' from word_any W _ 0 5 [t, v] [q0, q1, q2, z, cp] (h.below hW) 0 (by omega))
  have H0 := hide h
  have E0 : Hid (E3 w (((w.alloc (.cells #[.int .i64 0, .int .i64 5, .slice A n c, .slice B m d, .slice none 0 0] 51)).alloc (.cells #[.int .u64 a, .bool true, .bool lt, .slice D ln lc] 86)).alloc (.cells #[.int .i64 0, .int .i64 0, .slice none 0 0, .slice none 0 0, .slice none 0 0] 51)) 51 86 51 #[.int .i64 0, .int .i64 5, .slice A n c, .slice B m d, .slice none 0 0] #[.int .u64 a, .bool true, .bool lt, .slice D ln lc] #[.int .i64 0, .int .i64 0, .slice none 0 0, .slice none 0 0, .slice none 0 0]) := hide (E3.of (Below.refl _ _))
  clear h hh
  go_enter Tryz.func72, Tryz.ntmps72
  go_wp2_with fail
  apply wp_scope_n 1
  go_wp2_with fail
  refine (WD.out _ E0.out.bel).mono ?_
  rintro e v1 ⟨rfl, hb⟩
  have E1 := hide (E0.out.next hb)
  clear hb
  obtain ⟨f0, f1, f2, f3, f4, -⟩ := bk5 E1.out.b1
  have l1 := E1.out.b1.lt
  have l2 := E1.out.b2.lt
  obtain ⟨a0, a1, a2, a3, -⟩ := bk4 E1.out.b2
  have l3 := E1.out.b3.lt
  go_wp2_with fail
  refine (at_any _ _ 0 5 [t, v] [q0, q1, q2, z, cp] (H0.out.below (E1.out.bel)) 6).mono ?_
  rintro e v2 ⟨cs1, rfl, hf, hb⟩
  obtain ⟨A1, n1, c1, B1, m1, d1, rfl, -⟩ := id hf
  have H1 := hide hf
  clear hf
  have E2 := hide (E1.out.next hb)
  clear f0 f1 f2 f3 f4 l1 l2 a0 a1 a2 a3 l3
  clear hb
  obtain ⟨f0, f1, f2, f3, f4, -⟩ := bk5 E2.out.b1
  have l1 := E2.out.b1.lt
  have l2 := E2.out.b2.lt
  obtain ⟨a0, a1, a2, a3, -⟩ := bk4 E2.out.b2
  have l3 := E2.out.b3.lt
  have HT := hide (E2.out.b3.there (n := 5) rfl)
  go_wp2_with ((with_reducible show wpList _ _ _ _ _ _); refine wpList_store_res (by rfl) 51 _ _ (by rfl) (w.heap.size + 1 + 1) #[.int .i64 0, .int .i64 6, .slice A1 n1 c1, .slice B1 m1 d1, .slice none 0 0] (by rfl) (by rfl) HT.out Tryz.fr_inf (fr_one _ _ _ _ _ _ _ _ _ _ _) ?_; intro wz HZ)
  obtain ⟨fs, hfs⟩ := Tryz.fr_und
  exact ret_stored HZ Tryz.results72 rfl HT.out hfs rfl Tryz.fr_inf rfl ⟨_, rfl, Fr.stored HZ H1.out E2.out.b3, below_stored HZ E2.out.bel (by omega)⟩
set_option maxHeartbeats 1000000 in
set_option maxRecDepth 100000 in
theorem pushResume_5n (w : World) (cs : Array Value) (t v q0 q1 q2 z cp a : Int) (lt : Bool) (D : Option Addr) (ln lc : Nat) (z1 : 1 ≤ z) (z2 : z ≤ 16) (p1 : 0 ≤ q2) (p2 : q2 ≤ 1000) (c1 : 0 ≤ cp) (c2 : cp ≤ 16) (h : Fr w cs 0 5 [t, v] [q0, q1, q2, z, cp]) :
    Calls Tryz.prog 72 #[.agg cs, .agg #[.int .u64 a, .bool false, .bool lt, .slice D ln lc]] w fun e w' => ∃ cs', e = .returned (.agg cs') ∧ Fr w' cs' 0 1 [t, v] [q0, q1, q2, z, cp] ∧ Below w.heap.size w w' := by
  obtain ⟨A, n, c, B, m, d, rfl, hh⟩ := id h
  have WD := hide (fun W (hW : Below w.heap.size w W) => show Calls Tryz.prog 57 #[.agg #[.int .i64 0, .int .i64 5, .slice A n c, .slice B m d, .slice none 0 0], .int .i64 0] W fun e w' => e = .returned (.int .u64 t) ∧ Below W.heap.size W w' from word_any W _ 0 5 [t, v] [q0, q1, q2, z, cp] (h.below hW) 0 (by omega))
  have H0 := hide h
  have E0 : Hid (E3 w (((w.alloc (.cells #[.int .i64 0, .int .i64 5, .slice A n c, .slice B m d, .slice none 0 0] 51)).alloc (.cells #[.int .u64 a, .bool false, .bool lt, .slice D ln lc] 86)).alloc (.cells #[.int .i64 0, .int .i64 0, .slice none 0 0, .slice none 0 0, .slice none 0 0] 51)) 51 86 51 #[.int .i64 0, .int .i64 5, .slice A n c, .slice B m d, .slice none 0 0] #[.int .u64 a, .bool false, .bool lt, .slice D ln lc] #[.int .i64 0, .int .i64 0, .slice none 0 0, .slice none 0 0, .slice none 0 0]) := hide (E3.of (Below.refl _ _))
  clear h hh
  go_enter Tryz.func72, Tryz.ntmps72
  go_wp2_with fail
  apply wp_scope_n 1
  go_wp2_with fail
  refine (WD.out _ E0.out.bel).mono ?_
  rintro e v1 ⟨rfl, hb⟩
  have E1 := hide (E0.out.next hb)
  clear hb
  obtain ⟨f0, f1, f2, f3, f4, -⟩ := bk5 E1.out.b1
  have l1 := E1.out.b1.lt
  have l2 := E1.out.b2.lt
  obtain ⟨a0, a1, a2, a3, -⟩ := bk4 E1.out.b2
  have l3 := E1.out.b3.lt
  go_wp2_with fail
  (go_step3; refine JQ_goto _ (by rfl) ?_)
  go_wp2_with fail
  refine (at_any _ _ 0 5 [t, v] [q0, q1, q2, z, cp] (H0.out.below (E1.out.bel)) 1).mono ?_
  rintro e v2 ⟨cs1, rfl, hf, hb⟩
  obtain ⟨A1, n1, c1, B1, m1, d1, rfl, -⟩ := id hf
  have H1 := hide hf
  clear hf
  have E2 := hide (E1.out.next hb)
  clear f0 f1 f2 f3 f4 l1 l2 a0 a1 a2 a3 l3
  clear hb
  obtain ⟨f0, f1, f2, f3, f4, -⟩ := bk5 E2.out.b1
  have l1 := E2.out.b1.lt
  have l2 := E2.out.b2.lt
  obtain ⟨a0, a1, a2, a3, -⟩ := bk4 E2.out.b2
  have l3 := E2.out.b3.lt
  have HT := hide (E2.out.b3.there (n := 5) rfl)
  go_wp2_with ((with_reducible show wpList _ _ _ _ _ _); refine wpList_store_res (by rfl) 51 _ _ (by rfl) (w.heap.size + 1 + 1) #[.int .i64 0, .int .i64 1, .slice A1 n1 c1, .slice B1 m1 d1, .slice none 0 0] (by rfl) (by rfl) HT.out Tryz.fr_inf (fr_one _ _ _ _ _ _ _ _ _ _ _) ?_; intro wz HZ)
  obtain ⟨fs, hfs⟩ := Tryz.fr_und
  exact ret_stored HZ Tryz.results72 rfl HT.out hfs rfl Tryz.fr_inf rfl ⟨_, rfl, Fr.stored HZ H1.out E2.out.b3, below_stored HZ E2.out.bel (by omega)⟩
set_option maxHeartbeats 1000000 in
set_option maxRecDepth 100000 in
theorem pushResume_6 (w : World) (cs : Array Value) (t v q0 q1 q2 z cp a : Int) (ok : Bool) (lt : Bool) (D : Option Addr) (ln lc : Nat) (z1 : 1 ≤ z) (z2 : z ≤ 16) (p1 : 0 ≤ q2) (p2 : q2 ≤ 1000) (c1 : 0 ≤ cp) (c2 : cp ≤ 16) (h : Fr w cs 0 6 [t, v] [q0, q1, q2, z, cp]) :
    Calls Tryz.prog 72 #[.agg cs, .agg #[.int .u64 a, .bool ok, .bool lt, .slice D ln lc]] w fun e w' => ∃ cs', e = .returned (.agg cs') ∧ Fr w' cs' 0 7 [t, v] [q0, q1, q2, z, cp] ∧ Below w.heap.size w w' := by
  obtain ⟨A, n, c, B, m, d, rfl, hh⟩ := id h
  have WD := hide (fun W (hW : Below w.heap.size w W) => show Calls Tryz.prog 57 #[.agg #[.int .i64 0, .int .i64 6, .slice A n c, .slice B m d, .slice none 0 0], .int .i64 0] W fun e w' => e = .returned (.int .u64 t) ∧ Below W.heap.size W w' from word_any W _ 0 6 [t, v] [q0, q1, q2, z, cp] (h.below hW) 0 (by omega))
  have H0 := hide h
  have E0 : Hid (E3 w (((w.alloc (.cells #[.int .i64 0, .int .i64 6, .slice A n c, .slice B m d, .slice none 0 0] 51)).alloc (.cells #[.int .u64 a, .bool ok, .bool lt, .slice D ln lc] 86)).alloc (.cells #[.int .i64 0, .int .i64 0, .slice none 0 0, .slice none 0 0, .slice none 0 0] 51)) 51 86 51 #[.int .i64 0, .int .i64 6, .slice A n c, .slice B m d, .slice none 0 0] #[.int .u64 a, .bool ok, .bool lt, .slice D ln lc] #[.int .i64 0, .int .i64 0, .slice none 0 0, .slice none 0 0, .slice none 0 0]) := hide (E3.of (Below.refl _ _))
  clear h hh
  go_enter Tryz.func72, Tryz.ntmps72
  go_wp2_with fail
  apply wp_scope_n 1
  go_wp2_with fail
  refine (WD.out _ E0.out.bel).mono ?_
  rintro e v1 ⟨rfl, hb⟩
  have E1 := hide (E0.out.next hb)
  clear hb
  obtain ⟨f0, f1, f2, f3, f4, -⟩ := bk5 E1.out.b1
  have l1 := E1.out.b1.lt
  have l2 := E1.out.b2.lt
  obtain ⟨a0, a1, a2, a3, -⟩ := bk4 E1.out.b2
  have l3 := E1.out.b3.lt
  go_wp2_with fail
  refine (at_any _ _ 0 6 [t, v] [q0, q1, q2, z, cp] (H0.out.below (E1.out.bel)) 7).mono ?_
  rintro e v2 ⟨cs1, rfl, hf, hb⟩
  obtain ⟨A1, n1, c1, B1, m1, d1, rfl, -⟩ := id hf
  have H1 := hide hf
  clear hf
  have E2 := hide (E1.out.next hb)
  clear f0 f1 f2 f3 f4 l1 l2 a0 a1 a2 a3 l3
  clear hb
  obtain ⟨f0, f1, f2, f3, f4, -⟩ := bk5 E2.out.b1
  have l1 := E2.out.b1.lt
  have l2 := E2.out.b2.lt
  obtain ⟨a0, a1, a2, a3, -⟩ := bk4 E2.out.b2
  have l3 := E2.out.b3.lt
  have HT := hide (E2.out.b3.there (n := 5) rfl)
  go_wp2_with ((with_reducible show wpList _ _ _ _ _ _); refine wpList_store_res (by rfl) 51 _ _ (by rfl) (w.heap.size + 1 + 1) #[.int .i64 0, .int .i64 7, .slice A1 n1 c1, .slice B1 m1 d1, .slice none 0 0] (by rfl) (by rfl) HT.out Tryz.fr_inf (fr_one _ _ _ _ _ _ _ _ _ _ _) ?_; intro wz HZ)
  obtain ⟨fs, hfs⟩ := Tryz.fr_und
  exact ret_stored HZ Tryz.results72 rfl HT.out hfs rfl Tryz.fr_inf rfl ⟨_, rfl, Fr.stored HZ H1.out E2.out.b3, below_stored HZ E2.out.bel (by omega)⟩
set_option maxHeartbeats 1000000 in
set_option maxRecDepth 100000 in
theorem pushResume_7 (w : World) (cs : Array Value) (t v q0 q1 q2 z cp a : Int) (ok : Bool) (lt : Bool) (D : Option Addr) (ln lc : Nat) (z1 : 1 ≤ z) (z2 : z ≤ 16) (p1 : 0 ≤ q2) (p2 : q2 ≤ 1000) (c1 : 0 ≤ cp) (c2 : cp ≤ 16) (h : Fr w cs 0 7 [t, v] [q0, q1, q2, z, cp]) :
    Calls Tryz.prog 72 #[.agg cs, .agg #[.int .u64 a, .bool ok, .bool lt, .slice D ln lc]] w fun e w' => ∃ cs', e = .returned (.agg cs') ∧ Fr w' cs' 1 (-1) [0] [] ∧ Below w.heap.size w w' := by
  obtain ⟨A, n, c, B, m, d, rfl, hh⟩ := id h
  have WD := hide (fun W (hW : Below w.heap.size w W) => show Calls Tryz.prog 57 #[.agg #[.int .i64 0, .int .i64 7, .slice A n c, .slice B m d, .slice none 0 0], .int .i64 0] W fun e w' => e = .returned (.int .u64 t) ∧ Below W.heap.size W w' from word_any W _ 0 7 [t, v] [q0, q1, q2, z, cp] (h.below hW) 0 (by omega))
  have H0 := hide h
  have E0 : Hid (E3 w (((w.alloc (.cells #[.int .i64 0, .int .i64 7, .slice A n c, .slice B m d, .slice none 0 0] 51)).alloc (.cells #[.int .u64 a, .bool ok, .bool lt, .slice D ln lc] 86)).alloc (.cells #[.int .i64 0, .int .i64 0, .slice none 0 0, .slice none 0 0, .slice none 0 0] 51)) 51 86 51 #[.int .i64 0, .int .i64 7, .slice A n c, .slice B m d, .slice none 0 0] #[.int .u64 a, .bool ok, .bool lt, .slice D ln lc] #[.int .i64 0, .int .i64 0, .slice none 0 0, .slice none 0 0, .slice none 0 0]) := hide (E3.of (Below.refl _ _))
  clear h hh
  go_enter Tryz.func72, Tryz.ntmps72
  go_wp2_with fail
  apply wp_scope_n 1
  go_wp2_with fail
  refine (WD.out _ E0.out.bel).mono ?_
  rintro e v1 ⟨rfl, hb⟩
  have E1 := hide (E0.out.next hb)
  clear hb
  obtain ⟨f0, f1, f2, f3, f4, -⟩ := bk5 E1.out.b1
  have l1 := E1.out.b1.lt
  have l2 := E1.out.b2.lt
  obtain ⟨a0, a1, a2, a3, -⟩ := bk4 E1.out.b2
  have l3 := E1.out.b3.lt
  go_wp2_with fail
  refine (done_any _ 1 0).mono ?_
  rintro e v2 ⟨cs1, rfl, hf, hb⟩
  obtain ⟨A1, n1, c1, B1, m1, d1, rfl, -⟩ := id hf
  have H1 := hide hf
  clear hf
  have E2 := hide (E1.out.next hb)
  clear f0 f1 f2 f3 f4 l1 l2 a0 a1 a2 a3 l3
  clear hb
  obtain ⟨f0, f1, f2, f3, f4, -⟩ := bk5 E2.out.b1
  have l1 := E2.out.b1.lt
  have l2 := E2.out.b2.lt
  obtain ⟨a0, a1, a2, a3, -⟩ := bk4 E2.out.b2
  have l3 := E2.out.b3.lt
  have HT := hide (E2.out.b3.there (n := 5) rfl)
  go_wp2_with ((with_reducible show wpList _ _ _ _ _ _); refine wpList_store_res (by rfl) 51 _ _ (by rfl) (w.heap.size + 1 + 1) #[.int .i64 1, .int .i64 (-1), .slice A1 n1 c1, .slice B1 m1 d1, .slice none 0 0] (by rfl) (by rfl) HT.out Tryz.fr_inf (fr_one _ _ _ _ _ _ _ _ _ _ _) ?_; intro wz HZ)
  obtain ⟨fs, hfs⟩ := Tryz.fr_und
  exact ret_stored HZ Tryz.results72 rfl HT.out hfs rfl Tryz.fr_inf rfl ⟨_, rfl, Fr.stored HZ H1.out E2.out.b3, below_stored HZ E2.out.bel (by omega)⟩
set_option maxHeartbeats 1000000 in
set_option maxRecDepth 100000 in
theorem pushResume_e (w : World) (cs : Array Value) (co v q0 q1 q2 z cp a : Int) (ok : Bool) (lt : Bool) (D : Option Addr) (ln lc : Nat) (z1 : 1 ≤ z) (z2 : z ≤ 16) (p1 : 0 ≤ q2) (p2 : q2 ≤ 1000) (c1 : 0 ≤ cp) (c2 : cp ≤ 16) (h : Fr w cs co (-1) [v] []) :
    Calls Tryz.prog 72 #[.agg cs, .agg #[.int .u64 a, .bool ok, .bool lt, .slice D ln lc]] w fun e w' => ∃ cs', e = .returned (.agg cs') ∧ Fr w' cs' co (-1) [v] [] ∧ Below w.heap.size w w' := by
  obtain ⟨A, n, c, B, m, d, rfl, hh⟩ := id h
  have WD := hide (fun W (hW : Below w.heap.size w W) => show Calls Tryz.prog 57 #[.agg #[.int .i64 co, .int .i64 (-1), .slice A n c, .slice B m d, .slice none 0 0], .int .i64 0] W fun e w' => e = .returned (.int .u64 v) ∧ Below W.heap.size W w' from word_any W _ co (-1) [v] [] (h.below hW) 0 (by omega))
  have H0 := hide h
  have E0 : Hid (E3 w (((w.alloc (.cells #[.int .i64 co, .int .i64 (-1), .slice A n c, .slice B m d, .slice none 0 0] 51)).alloc (.cells #[.int .u64 a, .bool ok, .bool lt, .slice D ln lc] 86)).alloc (.cells #[.int .i64 0, .int .i64 0, .slice none 0 0, .slice none 0 0, .slice none 0 0] 51)) 51 86 51 #[.int .i64 co, .int .i64 (-1), .slice A n c, .slice B m d, .slice none 0 0] #[.int .u64 a, .bool ok, .bool lt, .slice D ln lc] #[.int .i64 0, .int .i64 0, .slice none 0 0, .slice none 0 0, .slice none 0 0]) := hide (E3.of (Below.refl _ _))
  clear h hh
  go_enter Tryz.func72, Tryz.ntmps72
  go_wp2_with fail
  apply wp_scope_n 1
  go_wp2_with fail
  refine (WD.out _ E0.out.bel).mono ?_
  rintro e v1 ⟨rfl, hb⟩
  have E1 := hide (E0.out.next hb)
  clear hb
  obtain ⟨f0, f1, f2, f3, f4, -⟩ := bk5 E1.out.b1
  have l1 := E1.out.b1.lt
  have l2 := E1.out.b2.lt
  obtain ⟨a0, a1, a2, a3, -⟩ := bk4 E1.out.b2
  have l3 := E1.out.b3.lt
  have HT := hide (E1.out.b3.there (n := 5) rfl)
  go_wp2_with ((with_reducible show wpList _ _ _ _ _ _); refine wpList_store_res (by rfl) 51 _ _ (by rfl) (w.heap.size + 1 + 1) #[.int .i64 co, .int .i64 (-1), .slice A n c, .slice B m d, .slice none 0 0] (by rfl) (by rfl) HT.out Tryz.fr_inf (fr_one _ _ _ _ _ _ _ _ _ _ _) ?_; intro wz HZ)
  obtain ⟨fs, hfs⟩ := Tryz.fr_und
  exact ret_stored HZ Tryz.results72 rfl HT.out hfs rfl Tryz.fr_inf rfl ⟨_, rfl, Fr.stored HZ (H0.out.below E1.out.bel) E1.out.b3, below_stored HZ E1.out.bel (by omega)⟩
end Go.Proofs.YtepngbdjobckbaaGreat
