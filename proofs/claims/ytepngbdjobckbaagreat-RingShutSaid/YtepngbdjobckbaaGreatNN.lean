/- Several texts in one. -/
import Derived.Test.YtepngbdjobckbaaGreatN
section
namespace Go.Proofs.YtepngbdjobckbaaGreat
open Go.RowKit
set_option linter.unusedVariables false
attribute [local irreducible] Go.bits

set_option maxHeartbeats 1000000 in
set_option maxRecDepth 100000 in
theorem mshut_1n (w : World) (A : Option Addr) (n c : Nat) (B : Option Addr) (m d : Nat) (t : Int) (what ch th : Nat) (ix kd v tt h ok ov a : Int) (y z : Bool) (LA : Option Addr) (ln lc : Nat) (ha : u64 a) (hcl : cl a = false) :
    Calls Tryz.prog 89 #[.agg (Mc.cells A n c B m d t ⟨what, 1, ch, th, ix, kd, v, tt, h, ok, ov⟩), .agg #[.int .u64 a, .bool y, .bool z, .slice LA ln lc]] w fun e w' => e = .returned (.agg (Mc.cells A n c B m d t (mto ⟨what, 1, ch, th, ix, kd, v, a, h, ok, ov⟩ 2))) ∧ Below w.heap.size w w' := by
  have hc := fun W => rclosed_any a W ha.1 ha.2
  rw [hcl] at hc
  have HC := hide hc
  clear hc hcl ha
  rw [Mc.cells]
  go_enter Tryz.func89, Tryz.ntmps89
  go_wp2_with (first
    | (go_at_call 12; refine (HC.out _).mono ?_; rintro e w' ⟨rfl, rfl⟩))
  refine (mto_any _ A n c B m d t ⟨what, 1, ch, th, ix, kd, v, a, h, ok, ov⟩ 2).mono ?_
  rintro e w9 ⟨rfl, hb⟩
  have V9 := hide (E3.of hb)
  clear hb
  have HT := hide (V9.out.b3.there (n := 14) rfl)
  go_wp2_with ((with_reducible show wpList _ _ _ _ _ _); refine wpList_store_res (by rfl) 81 _ _ (by rfl) (w.heap.size + 1 + 1) (Mc.cells A n c B m d t (mto ⟨what, 1, ch, th, ix, kd, v, a, h, ok, ov⟩ 2)) (by rfl) (by rfl) HT.out Tryz.mc_inf (mc_one _ _ _ _ _ _ _ _) ?_; intro wz HZ)
  obtain ⟨fs, hfs⟩ := Tryz.mc_und
  exact ret_stored HZ Tryz.results89 rfl HT.out hfs rfl Tryz.mc_inf rfl ⟨rfl, below_stored HZ V9.out.bel (by omega)⟩

set_option maxHeartbeats 1000000 in
set_option maxRecDepth 100000 in
theorem mshut_1c (w : World) (A : Option Addr) (n c : Nat) (B : Option Addr) (m d : Nat) (t : Int) (what ch th : Nat) (ix kd v tt h ok ov a : Int) (y z : Bool) (LA : Option Addr) (ln lc : Nat) (ha : u64 a) (hcl : cl a = true) :
    Calls Tryz.prog 89 #[.agg (Mc.cells A n c B m d t ⟨what, 1, ch, th, ix, kd, v, tt, h, ok, ov⟩), .agg #[.int .u64 a, .bool y, .bool z, .slice LA ln lc]] w fun e w' => e = .returned (.agg (Mc.cells A n c B m d t (mend ⟨what, 1, ch, th, ix, kd, v, a, h, ok, ov⟩ 4 0))) ∧ Below w.heap.size w w' := by
  have hc := fun W => rclosed_any a W ha.1 ha.2
  rw [hcl] at hc
  have HC := hide hc
  clear hc hcl ha
  rw [Mc.cells]
  go_enter Tryz.func89, Tryz.ntmps89
  go_wp2_with (first
    | (go_at_call 12; refine (HC.out _).mono ?_; rintro e w' ⟨rfl, rfl⟩))
  refine (mend_any _ A n c B m d t ⟨what, 1, ch, th, ix, kd, v, a, h, ok, ov⟩ 4 0).mono ?_
  rintro e w9 ⟨rfl, hb⟩
  have V9 := hide (E3.of hb)
  clear hb
  have HT := hide (V9.out.b3.there (n := 14) rfl)
  go_wp2_with ((with_reducible show wpList _ _ _ _ _ _); refine wpList_store_res (by rfl) 81 _ _ (by rfl) (w.heap.size + 1 + 1) (Mc.cells A n c B m d t (mend ⟨what, 1, ch, th, ix, kd, v, a, h, ok, ov⟩ 4 0)) (by rfl) (by rfl) HT.out Tryz.mc_inf (mc_one _ _ _ _ _ _ _ _) ?_; intro wz HZ)
  obtain ⟨fs, hfs⟩ := Tryz.mc_und
  exact ret_stored HZ Tryz.results89 rfl HT.out hfs rfl Tryz.mc_inf rfl ⟨rfl, below_stored HZ V9.out.bel (by omega)⟩

set_option maxHeartbeats 1000000 in
set_option maxRecDepth 100000 in
theorem mshut_2y (w : World) (A : Option Addr) (n c : Nat) (B : Option Addr) (m d : Nat) (t : Int) (what ch th : Nat) (ix kd v tt h ok ov a : Int) (z : Bool) (LA : Option Addr) (ln lc : Nat) :
    Calls Tryz.prog 89 #[.agg (Mc.cells A n c B m d t ⟨what, 2, ch, th, ix, kd, v, tt, h, ok, ov⟩), .agg #[.int .u64 a, .bool true, .bool z, .slice LA ln lc]] w fun e w' => e = .returned (.agg (Mc.cells A n c B m d t (mend ⟨what, 2, ch, th, ix, kd, v, tt, h, ok, ov⟩ 1 0))) ∧ Below w.heap.size w w' := by
  rw [Mc.cells]
  go_enter Tryz.func89, Tryz.ntmps89
  go_wp2_with fail
  refine (mend_any _ A n c B m d t ⟨what, 2, ch, th, ix, kd, v, tt, h, ok, ov⟩ 1 0).mono ?_
  rintro e w9 ⟨rfl, hb⟩
  have V9 := hide (E3.of hb)
  clear hb
  have HT := hide (V9.out.b3.there (n := 14) rfl)
  go_wp2_with ((with_reducible show wpList _ _ _ _ _ _); refine wpList_store_res (by rfl) 81 _ _ (by rfl) (w.heap.size + 1 + 1) (Mc.cells A n c B m d t (mend ⟨what, 2, ch, th, ix, kd, v, tt, h, ok, ov⟩ 1 0)) (by rfl) (by rfl) HT.out Tryz.mc_inf (mc_one _ _ _ _ _ _ _ _) ?_; intro wz HZ)
  obtain ⟨fs, hfs⟩ := Tryz.mc_und
  exact ret_stored HZ Tryz.results89 rfl HT.out hfs rfl Tryz.mc_inf rfl ⟨rfl, below_stored HZ V9.out.bel (by omega)⟩

set_option maxHeartbeats 1000000 in
set_option maxRecDepth 100000 in
theorem mshut_2n (w : World) (A : Option Addr) (n c : Nat) (B : Option Addr) (m d : Nat) (t : Int) (what ch th : Nat) (ix kd v tt h ok ov a : Int) (z : Bool) (LA : Option Addr) (ln lc : Nat) :
    Calls Tryz.prog 89 #[.agg (Mc.cells A n c B m d t ⟨what, 2, ch, th, ix, kd, v, tt, h, ok, ov⟩), .agg #[.int .u64 a, .bool false, .bool z, .slice LA ln lc]] w fun e w' => e = .returned (.agg (Mc.cells A n c B m d t (mto ⟨what, 2, ch, th, ix, kd, v, tt, h, ok, ov⟩ 1))) ∧ Below w.heap.size w w' := by
  rw [Mc.cells]
  go_enter Tryz.func89, Tryz.ntmps89
  go_wp2_with fail
  refine (mto_any _ A n c B m d t ⟨what, 2, ch, th, ix, kd, v, tt, h, ok, ov⟩ 1).mono ?_
  rintro e w9 ⟨rfl, hb⟩
  have V9 := hide (E3.of hb)
  clear hb
  have HT := hide (V9.out.b3.there (n := 14) rfl)
  go_wp2_with ((with_reducible show wpList _ _ _ _ _ _); refine wpList_store_res (by rfl) 81 _ _ (by rfl) (w.heap.size + 1 + 1) (Mc.cells A n c B m d t (mto ⟨what, 2, ch, th, ix, kd, v, tt, h, ok, ov⟩ 1)) (by rfl) (by rfl) HT.out Tryz.mc_inf (mc_one _ _ _ _ _ _ _ _) ?_; intro wz HZ)
  obtain ⟨fs, hfs⟩ := Tryz.mc_und
  exact ret_stored HZ Tryz.results89 rfl HT.out hfs rfl Tryz.mc_inf rfl ⟨rfl, below_stored HZ V9.out.bel (by omega)⟩

set_option maxHeartbeats 1000000 in
set_option maxRecDepth 100000 in
theorem mcount_1 (w : World) (A : Option Addr) (n c : Nat) (B : Option Addr) (m d : Nat) (t : Int) (what ch th : Nat) (ix kd v tt h ok ov a : Int) (y z : Bool) (LA : Option Addr) (ln lc : Nat) :
    Calls Tryz.prog 90 #[.agg (Mc.cells A n c B m d t ⟨what, 1, ch, th, ix, kd, v, tt, h, ok, ov⟩), .agg #[.int .u64 a, .bool y, .bool z, .slice LA ln lc]] w fun e w' => e = .returned (.agg (Mc.cells A n c B m d t (mto ⟨what, 1, ch, th, ix, kd, v, a, h, ok, ov⟩ 2))) ∧ Below w.heap.size w w' := by
  rw [Mc.cells]
  go_enter Tryz.func90, Tryz.ntmps90
  go_wp2_with fail
  refine (mto_any _ A n c B m d t ⟨what, 1, ch, th, ix, kd, v, a, h, ok, ov⟩ 2).mono ?_
  rintro e w9 ⟨rfl, hb⟩
  have V9 := hide (E3.of hb)
  clear hb
  have HT := hide (V9.out.b3.there (n := 14) rfl)
  go_wp2_with ((with_reducible show wpList _ _ _ _ _ _); refine wpList_store_res (by rfl) 81 _ _ (by rfl) (w.heap.size + 1 + 1) (Mc.cells A n c B m d t (mto ⟨what, 1, ch, th, ix, kd, v, a, h, ok, ov⟩ 2)) (by rfl) (by rfl) HT.out Tryz.mc_inf (mc_one _ _ _ _ _ _ _ _) ?_; intro wz HZ)
  obtain ⟨fs, hfs⟩ := Tryz.mc_und
  exact ret_stored HZ Tryz.results90 rfl HT.out hfs rfl Tryz.mc_inf rfl ⟨rfl, below_stored HZ V9.out.bel (by omega)⟩

set_option maxHeartbeats 1000000 in
set_option maxRecDepth 100000 in
theorem mcount_2 (w : World) (A : Option Addr) (n c : Nat) (B : Option Addr) (m d : Nat) (t : Int) (what ch th : Nat) (ix kd v tt h ok ov a : Int) (y z : Bool) (LA : Option Addr) (ln lc : Nat) :
    Calls Tryz.prog 90 #[.agg (Mc.cells A n c B m d t ⟨what, 2, ch, th, ix, kd, v, tt, h, ok, ov⟩), .agg #[.int .u64 a, .bool y, .bool z, .slice LA ln lc]] w fun e w' => e = .returned (.agg (Mc.cells A n c B m d t (mto ⟨what, 2, ch, th, ix, kd, v, tt, a, ok, ov⟩ 3))) ∧ Below w.heap.size w w' := by
  rw [Mc.cells]
  go_enter Tryz.func90, Tryz.ntmps90
  go_wp2_with fail
  refine (mto_any _ A n c B m d t ⟨what, 2, ch, th, ix, kd, v, tt, a, ok, ov⟩ 3).mono ?_
  rintro e w9 ⟨rfl, hb⟩
  have V9 := hide (E3.of hb)
  clear hb
  have HT := hide (V9.out.b3.there (n := 14) rfl)
  go_wp2_with ((with_reducible show wpList _ _ _ _ _ _); refine wpList_store_res (by rfl) 81 _ _ (by rfl) (w.heap.size + 1 + 1) (Mc.cells A n c B m d t (mto ⟨what, 2, ch, th, ix, kd, v, tt, a, ok, ov⟩ 3)) (by rfl) (by rfl) HT.out Tryz.mc_inf (mc_one _ _ _ _ _ _ _ _) ?_; intro wz HZ)
  obtain ⟨fs, hfs⟩ := Tryz.mc_und
  exact ret_stored HZ Tryz.results90 rfl HT.out hfs rfl Tryz.mc_inf rfl ⟨rfl, below_stored HZ V9.out.bel (by omega)⟩

set_option maxHeartbeats 1000000 in
set_option maxRecDepth 100000 in
theorem mcount_3n (w : World) (A : Option Addr) (n c : Nat) (B : Option Addr) (m d : Nat) (t : Int) (what ch th : Nat) (ix kd v tt h ok ov a : Int) (y z : Bool) (LA : Option Addr) (ln lc : Nat) (hne : (a == tt) = false) :
    Calls Tryz.prog 90 #[.agg (Mc.cells A n c B m d t ⟨what, 3, ch, th, ix, kd, v, tt, h, ok, ov⟩), .agg #[.int .u64 a, .bool y, .bool z, .slice LA ln lc]] w fun e w' => e = .returned (.agg (Mc.cells A n c B m d t (mto ⟨what, 3, ch, th, ix, kd, v, a, h, ok, ov⟩ 2))) ∧ Below w.heap.size w w' := by
  rw [Mc.cells]
  go_enter Tryz.func90, Tryz.ntmps90
  go_wp2_with fail
  refine (mto_any _ A n c B m d t ⟨what, 3, ch, th, ix, kd, v, a, h, ok, ov⟩ 2).mono ?_
  rintro e w9 ⟨rfl, hb⟩
  have V9 := hide (E3.of hb)
  clear hb
  have HT := hide (V9.out.b3.there (n := 14) rfl)
  go_wp2_with ((with_reducible show wpList _ _ _ _ _ _); refine wpList_store_res (by rfl) 81 _ _ (by rfl) (w.heap.size + 1 + 1) (Mc.cells A n c B m d t (mto ⟨what, 3, ch, th, ix, kd, v, a, h, ok, ov⟩ 2)) (by rfl) (by rfl) HT.out Tryz.mc_inf (mc_one _ _ _ _ _ _ _ _) ?_; intro wz HZ)
  obtain ⟨fs, hfs⟩ := Tryz.mc_und
  exact ret_stored HZ Tryz.results90 rfl HT.out hfs rfl Tryz.mc_inf rfl ⟨rfl, below_stored HZ V9.out.bel (by omega)⟩

set_option maxHeartbeats 1000000 in
set_option maxRecDepth 100000 in
theorem mcount_3e (w : World) (A : Option Addr) (n c : Nat) (B : Option Addr) (m d : Nat) (t : Int) (what ch th : Nat) (ix kd v tt h ok ov a : Int) (y z : Bool) (LA : Option Addr) (ln lc : Nat) (r : Int) (heq : (a == tt) = true) (hr : rest (tt / 2) h = r) :
    Calls Tryz.prog 90 #[.agg (Mc.cells A n c B m d t ⟨what, 3, ch, th, ix, kd, v, tt, h, ok, ov⟩), .agg #[.int .u64 a, .bool y, .bool z, .slice LA ln lc]] w fun e w' => e = .returned (.agg (Mc.cells A n c B m d t (mend ⟨what, 3, ch, th, ix, kd, v, tt, h, ok, ov⟩ 9 r))) ∧ Below w.heap.size w w' := by
  have HS := hide (fun W => mseq_any W A n c B m d t ⟨what, 3, ch, th, ix, kd, v, tt, h, ok, ov⟩)
  have hrr : ∀ W, Calls Tryz.prog 27 #[.int .u64 (tt / 2), .int .u64 h] W fun e w' => e = .returned (.int .u64 r) ∧ W = w' := fun W => by rw [← hr]; exact rrest_any _ _ W
  have HR := hide hrr
  have HE := hide (fun W => mend_any W A n c B m d t ⟨what, 3, ch, th, ix, kd, v, tt, h, ok, ov⟩ 9 r)
  clear hrr hr
  rw [Mc.cells]
  go_enter Tryz.func90, Tryz.ntmps90
  go_wp2_with fail
  have U0 := fun (u : Up (((w.alloc (.cells #[.int .i64 (what : Nat), .int .i64 3, .slice A n c, .slice B m d, .int .i64 t, .int .i64 (ch : Nat), .int .i64 (th : Nat), .int .i64 ix, .int .i64 kd, .int .u64 v, .int .u64 tt, .int .u64 h, .int .i64 ok, .int .u64 ov] 81)).alloc (.cells #[.int .u64 a, .bool y, .bool z, .slice LA ln lc] 86)).alloc (.cells #[.int .i64 0, .int .i64 0, .slice none 0 0, .slice none 0 0, .int .i64 0, .int .i64 0, .int .i64 0, .int .i64 0, .int .i64 0, .int .u64 0, .int .u64 0, .int .u64 0, .int .i64 0, .int .u64 0] 81))) => E3.of u.2
  have c0 := fun u => (bk14 (U0 u).b1).1
  have c1 := fun u => (bk14 (U0 u).b1).2.1
  have c2 := fun u => (bk14 (U0 u).b1).2.2.1
  have c3 := fun u => (bk14 (U0 u).b1).2.2.2.1
  have c4 := fun u => (bk14 (U0 u).b1).2.2.2.2.1
  have c5 := fun u => (bk14 (U0 u).b1).2.2.2.2.2.1
  have c6 := fun u => (bk14 (U0 u).b1).2.2.2.2.2.2.1
  have c7 := fun u => (bk14 (U0 u).b1).2.2.2.2.2.2.2.1
  have c8 := fun u => (bk14 (U0 u).b1).2.2.2.2.2.2.2.2.1
  have c9 := fun u => (bk14 (U0 u).b1).2.2.2.2.2.2.2.2.2.1
  have c10 := fun u => (bk14 (U0 u).b1).2.2.2.2.2.2.2.2.2.2.1
  have c11 := fun u => (bk14 (U0 u).b1).2.2.2.2.2.2.2.2.2.2.2.1
  have c12 := fun u => (bk14 (U0 u).b1).2.2.2.2.2.2.2.2.2.2.2.2.1
  have c13 := fun u => (bk14 (U0 u).b1).2.2.2.2.2.2.2.2.2.2.2.2.2.1
  have a0 := fun u => (bk4 (U0 u).b2).1
  have a1 := fun u => (bk4 (U0 u).b2).2.1
  have a2 := fun u => (bk4 (U0 u).b2).2.2.1
  have a3 := fun u => (bk4 (U0 u).b2).2.2.2.1
  have UU := hide U0
  clear U0
  refine wp_region_up_tail 7 (by kernel_rfl) (by kernel_rfl) ?_
  simp only [List.take_succ_cons, List.take_zero, List.drop_succ_cons, List.drop_zero]
  repeat (go_big_quiet_step (first
    | (go_at_call 80; exact up_call (HS.out _))
    | (go_at_call 27; exact up_same (HR.out _))
    | (go_at_call 86; exact up_call (HE.out _))))
  refine wpQuiet_nil ?_
  intro u
  clear c0 c1 c2 c3 c4 c5 c6 c7 c8 c9 c10 c11 c12 c13 a0 a1 a2 a3
  have V1 := hide (UU.out u)
  clear UU
  generalize u.1 = w2 at *
  obtain ⟨c0, c1, c2, c3, c4, c5, c6, c7, c8, c9, c10, c11, c12, c13, f1⟩ := bk14 V1.out.b1
  obtain ⟨a0, a1, a2, a3, g1⟩ := bk4 V1.out.b2
  clear c0 c1 c2 c3 c4 c5 c6 c7 c8 c9 c10 c11 c12 c13 f1 a0 a1 a2 a3 g1
  have HT := hide (V1.out.b3.there (n := 14) rfl)
  go_wp2_with ((with_reducible show wpList _ _ _ _ _ _); refine wpList_store_res (by rfl) 81 _ _ (by rfl) (w.heap.size + 1 + 1) (Mc.cells A n c B m d t (mend ⟨what, 3, ch, th, ix, kd, v, tt, h, ok, ov⟩ 9 r)) (by rfl) (by rfl) HT.out Tryz.mc_inf (mc_one _ _ _ _ _ _ _ _) ?_; intro wz HZ)
  obtain ⟨fs, hfs⟩ := Tryz.mc_und
  exact ret_stored HZ Tryz.results90 rfl HT.out hfs rfl Tryz.mc_inf rfl ⟨rfl, below_stored HZ V1.out.bel (by omega)⟩
end Go.Proofs.YtepngbdjobckbaaGreat
end
section
namespace Go.Proofs.YtepngbdjobckbaaGreat
open Go.RowKit
set_option linter.unusedVariables false
attribute [local irreducible] Go.bits

set_option maxHeartbeats 1000000 in
set_option maxRecDepth 100000 in
theorem mpush_1n (w : World) (A : Option Addr) (n c : Nat) (B : Option Addr) (m d : Nat) (t : Int) (what ch th : Nat) (ix kd v tt h ok ov a : Int) (y z : Bool) (LA : Option Addr) (ln lc : Nat) (ha : u64 a) (hcl : cl a = false) :
    Calls Tryz.prog 87 #[.agg (Mc.cells A n c B m d t ⟨what, 1, ch, th, ix, kd, v, tt, h, ok, ov⟩), .agg #[.int .u64 a, .bool y, .bool z, .slice LA ln lc]] w fun e w' => e = .returned (.agg (Mc.cells A n c B m d t (mto ⟨what, 1, ch, th, ix, kd, v, a, h, ok, ov⟩ 2))) ∧ Below w.heap.size w w' := by
  have hc := fun W => rclosed_any a W ha.1 ha.2
  rw [hcl] at hc
  have HC := hide hc
  clear hc hcl ha
  rw [Mc.cells]
  go_enter Tryz.func87, Tryz.ntmps87
  go_wp2_with (first
    | (go_at_call 12; refine (HC.out _).mono ?_; rintro e w' ⟨rfl, rfl⟩))
  refine (mto_any _ A n c B m d t ⟨what, 1, ch, th, ix, kd, v, a, h, ok, ov⟩ 2).mono ?_
  rintro e w9 ⟨rfl, hb⟩
  have V9 := hide (E3.of hb)
  clear hb
  have HT := hide (V9.out.b3.there (n := 14) rfl)
  go_wp2_with ((with_reducible show wpList _ _ _ _ _ _); refine wpList_store_res (by rfl) 81 _ _ (by rfl) (w.heap.size + 1 + 1) (Mc.cells A n c B m d t (mto ⟨what, 1, ch, th, ix, kd, v, a, h, ok, ov⟩ 2)) (by rfl) (by rfl) HT.out Tryz.mc_inf (mc_one _ _ _ _ _ _ _ _) ?_; intro wz HZ)
  obtain ⟨fs, hfs⟩ := Tryz.mc_und
  exact ret_stored HZ Tryz.results87 rfl HT.out hfs rfl Tryz.mc_inf rfl ⟨rfl, below_stored HZ V9.out.bel (by omega)⟩

set_option maxHeartbeats 1000000 in
set_option maxRecDepth 100000 in
theorem mpush_1c (w : World) (A : Option Addr) (n c : Nat) (B : Option Addr) (m d : Nat) (t : Int) (what ch th : Nat) (ix kd v tt h ok ov a : Int) (y z : Bool) (LA : Option Addr) (ln lc : Nat) (ha : u64 a) (hcl : cl a = true) :
    Calls Tryz.prog 87 #[.agg (Mc.cells A n c B m d t ⟨what, 1, ch, th, ix, kd, v, tt, h, ok, ov⟩), .agg #[.int .u64 a, .bool y, .bool z, .slice LA ln lc]] w fun e w' => e = .returned (.agg (Mc.cells A n c B m d t (mend ⟨what, 1, ch, th, ix, kd, v, a, h, ok, ov⟩ 4 0))) ∧ Below w.heap.size w w' := by
  have hc := fun W => rclosed_any a W ha.1 ha.2
  rw [hcl] at hc
  have HC := hide hc
  clear hc hcl ha
  rw [Mc.cells]
  go_enter Tryz.func87, Tryz.ntmps87
  go_wp2_with (first
    | (go_at_call 12; refine (HC.out _).mono ?_; rintro e w' ⟨rfl, rfl⟩))
  refine (mend_any _ A n c B m d t ⟨what, 1, ch, th, ix, kd, v, a, h, ok, ov⟩ 4 0).mono ?_
  rintro e w9 ⟨rfl, hb⟩
  have V9 := hide (E3.of hb)
  clear hb
  have HT := hide (V9.out.b3.there (n := 14) rfl)
  go_wp2_with ((with_reducible show wpList _ _ _ _ _ _); refine wpList_store_res (by rfl) 81 _ _ (by rfl) (w.heap.size + 1 + 1) (Mc.cells A n c B m d t (mend ⟨what, 1, ch, th, ix, kd, v, a, h, ok, ov⟩ 4 0)) (by rfl) (by rfl) HT.out Tryz.mc_inf (mc_one _ _ _ _ _ _ _ _) ?_; intro wz HZ)
  obtain ⟨fs, hfs⟩ := Tryz.mc_und
  exact ret_stored HZ Tryz.results87 rfl HT.out hfs rfl Tryz.mc_inf rfl ⟨rfl, below_stored HZ V9.out.bel (by omega)⟩

set_option maxHeartbeats 1000000 in
set_option maxRecDepth 100000 in
theorem mpush_2e (w : World) (A : Option Addr) (n c : Nat) (B : Option Addr) (m d : Nat) (t : Int) (what ch th : Nat) (ix kd v tt h ok ov a : Int) (y z : Bool) (LA : Option Addr) (ln lc : Nat) (l : List Int) (hcf : Cf w A n l) (hch : ch < n) (r q : Int) (hr : rest (tt / 2) a = r) (hq : l.getD ch 0 = q) (he : (r == q) = true) :
    Calls Tryz.prog 87 #[.agg (Mc.cells A n c B m d t ⟨what, 2, ch, th, ix, kd, v, tt, h, ok, ov⟩), .agg #[.int .u64 a, .bool y, .bool z, .slice LA ln lc]] w fun e w' => e = .returned (.agg (Mc.cells A n c B m d t (mto ⟨what, 2, ch, th, ix, kd, v, tt, h, ok, ov⟩ 3))) ∧ Below w.heap.size w w' := by
  have HS := hide (fun W => mseq_any W A n c B m d t ⟨what, 2, ch, th, ix, kd, v, tt, h, ok, ov⟩)
  have hrr : ∀ W, Calls Tryz.prog 27 #[.int .u64 (tt / 2), .int .u64 a] W fun e w' => e = .returned (.int .u64 r) ∧ W = w' := fun W => by rw [← hr]; exact rrest_any _ _ W
  have HR := hide hrr
  clear hrr hr
  have hcp : ∀ W, Below w.heap.size w W → Calls Tryz.prog 104 #[.agg (Mc.cells A n c B m d t ⟨what, 2, ch, th, ix, kd, v, tt, h, ok, ov⟩)] W fun e w' => e = .returned (.int .u64 q) ∧ Below W.heap.size W w' := fun W hW => by rw [← hq]; exact mcap_any W A n c B m d t ⟨what, 2, ch, th, ix, kd, v, tt, h, ok, ov⟩ l (hcf.below hW) hch
  have HP := hide hcp
  clear hcp hq hcf
  rw [Mc.cells]
  go_enter Tryz.func87, Tryz.ntmps87
  go_wp2_with fail
  have U0 := fun (u : Up (((w.alloc (.cells #[.int .i64 (what : Nat), .int .i64 2, .slice A n c, .slice B m d, .int .i64 t, .int .i64 (ch : Nat), .int .i64 (th : Nat), .int .i64 ix, .int .i64 kd, .int .u64 v, .int .u64 tt, .int .u64 h, .int .i64 ok, .int .u64 ov] 81)).alloc (.cells #[.int .u64 a, .bool y, .bool z, .slice LA ln lc] 86)).alloc (.cells #[.int .i64 0, .int .i64 0, .slice none 0 0, .slice none 0 0, .int .i64 0, .int .i64 0, .int .i64 0, .int .i64 0, .int .i64 0, .int .u64 0, .int .u64 0, .int .u64 0, .int .i64 0, .int .u64 0] 81))) => E3.of u.2
  have c0 := fun u => (bk14 (U0 u).b1).1
  have c1 := fun u => (bk14 (U0 u).b1).2.1
  have c2 := fun u => (bk14 (U0 u).b1).2.2.1
  have c3 := fun u => (bk14 (U0 u).b1).2.2.2.1
  have c4 := fun u => (bk14 (U0 u).b1).2.2.2.2.1
  have c5 := fun u => (bk14 (U0 u).b1).2.2.2.2.2.1
  have c6 := fun u => (bk14 (U0 u).b1).2.2.2.2.2.2.1
  have c7 := fun u => (bk14 (U0 u).b1).2.2.2.2.2.2.2.1
  have c8 := fun u => (bk14 (U0 u).b1).2.2.2.2.2.2.2.2.1
  have c9 := fun u => (bk14 (U0 u).b1).2.2.2.2.2.2.2.2.2.1
  have c10 := fun u => (bk14 (U0 u).b1).2.2.2.2.2.2.2.2.2.2.1
  have c11 := fun u => (bk14 (U0 u).b1).2.2.2.2.2.2.2.2.2.2.2.1
  have c12 := fun u => (bk14 (U0 u).b1).2.2.2.2.2.2.2.2.2.2.2.2.1
  have c13 := fun u => (bk14 (U0 u).b1).2.2.2.2.2.2.2.2.2.2.2.2.2.1
  have a0 := fun u => (bk4 (U0 u).b2).1
  have a1 := fun u => (bk4 (U0 u).b2).2.1
  have a2 := fun u => (bk4 (U0 u).b2).2.2.1
  have a3 := fun u => (bk4 (U0 u).b2).2.2.2.1
  have UU := hide U0
  clear U0
  refine wp_region_up (by kernel_rfl) (by kernel_rfl) ?_
  repeat (go_big_quiet_step (first
    | (go_at_call 80; exact up_call (HS.out _))
    | (go_at_call 27; exact up_same (HR.out _))))
  refine wpQuiet_nil ?_
  rintro _ ⟨u, rfl⟩
  clear c0 c1 c2 c3 c4 c5 c6 c7 c8 c9 c10 c11 c12 c13 a0 a1 a2 a3
  have V1 := hide (UU.out u)
  clear UU
  generalize u.1 = w2 at *
  obtain ⟨c0, c1, c2, c3, c4, c5, c6, c7, c8, c9, c10, c11, c12, c13, f1⟩ := bk14 V1.out.b1
  obtain ⟨a0, a1, a2, a3, g1⟩ := bk4 V1.out.b2
  go_wp2_with fail
  refine (HP.out _ V1.out.bel).mono ?_
  rintro e w3 ⟨rfl, hb⟩
  have V2 := hide (V1.out.next hb)
  clear c0 c1 c2 c3 c4 c5 c6 c7 c8 c9 c10 c11 c12 c13 f1 a0 a1 a2 a3 g1
  clear hb
  obtain ⟨c0, c1, c2, c3, c4, c5, c6, c7, c8, c9, c10, c11, c12, c13, f1⟩ := bk14 V2.out.b1
  obtain ⟨a0, a1, a2, a3, g1⟩ := bk4 V2.out.b2
  go_wp2_with fail
  refine (mto_any _ A n c B m d t ⟨what, 2, ch, th, ix, kd, v, tt, h, ok, ov⟩ 3).mono ?_
  rintro e w9 ⟨rfl, hb⟩
  have V9 := hide (V2.out.next hb)
  clear c0 c1 c2 c3 c4 c5 c6 c7 c8 c9 c10 c11 c12 c13 f1 a0 a1 a2 a3 g1
  clear hb
  have HT := hide (V9.out.b3.there (n := 14) rfl)
  go_wp2_with ((with_reducible show wpList _ _ _ _ _ _); refine wpList_store_res (by rfl) 81 _ _ (by rfl) (w.heap.size + 1 + 1) (Mc.cells A n c B m d t (mto ⟨what, 2, ch, th, ix, kd, v, tt, h, ok, ov⟩ 3)) (by rfl) (by rfl) HT.out Tryz.mc_inf (mc_one _ _ _ _ _ _ _ _) ?_; intro wz HZ)
  obtain ⟨fs, hfs⟩ := Tryz.mc_und
  exact ret_stored HZ Tryz.results87 rfl HT.out hfs rfl Tryz.mc_inf rfl ⟨rfl, below_stored HZ V9.out.bel (by omega)⟩

set_option maxHeartbeats 1000000 in
set_option maxRecDepth 100000 in
theorem mpush_2g (w : World) (A : Option Addr) (n c : Nat) (B : Option Addr) (m d : Nat) (t : Int) (what ch th : Nat) (ix kd v tt h ok ov a : Int) (y z : Bool) (LA : Option Addr) (ln lc : Nat) (l : List Int) (hcf : Cf w A n l) (hch : ch < n) (r q : Int) (hr : rest (tt / 2) a = r) (hq : l.getD ch 0 = q) (he : (r == q) = false) (hg : decide (q < r) = true) :
    Calls Tryz.prog 87 #[.agg (Mc.cells A n c B m d t ⟨what, 2, ch, th, ix, kd, v, tt, h, ok, ov⟩), .agg #[.int .u64 a, .bool y, .bool z, .slice LA ln lc]] w fun e w' => e = .returned (.agg (Mc.cells A n c B m d t (mto ⟨what, 2, ch, th, ix, kd, v, tt, h, ok, ov⟩ 1))) ∧ Below w.heap.size w w' := by
  have HS := hide (fun W => mseq_any W A n c B m d t ⟨what, 2, ch, th, ix, kd, v, tt, h, ok, ov⟩)
  have hrr : ∀ W, Calls Tryz.prog 27 #[.int .u64 (tt / 2), .int .u64 a] W fun e w' => e = .returned (.int .u64 r) ∧ W = w' := fun W => by rw [← hr]; exact rrest_any _ _ W
  have HR := hide hrr
  clear hrr hr
  have hcp : ∀ W, Below w.heap.size w W → Calls Tryz.prog 104 #[.agg (Mc.cells A n c B m d t ⟨what, 2, ch, th, ix, kd, v, tt, h, ok, ov⟩)] W fun e w' => e = .returned (.int .u64 q) ∧ Below W.heap.size W w' := fun W hW => by rw [← hq]; exact mcap_any W A n c B m d t ⟨what, 2, ch, th, ix, kd, v, tt, h, ok, ov⟩ l (hcf.below hW) hch
  have HP := hide hcp
  clear hcp hq hcf
  rw [Mc.cells]
  go_enter Tryz.func87, Tryz.ntmps87
  go_wp2_with fail
  have U0 := fun (u : Up (((w.alloc (.cells #[.int .i64 (what : Nat), .int .i64 2, .slice A n c, .slice B m d, .int .i64 t, .int .i64 (ch : Nat), .int .i64 (th : Nat), .int .i64 ix, .int .i64 kd, .int .u64 v, .int .u64 tt, .int .u64 h, .int .i64 ok, .int .u64 ov] 81)).alloc (.cells #[.int .u64 a, .bool y, .bool z, .slice LA ln lc] 86)).alloc (.cells #[.int .i64 0, .int .i64 0, .slice none 0 0, .slice none 0 0, .int .i64 0, .int .i64 0, .int .i64 0, .int .i64 0, .int .i64 0, .int .u64 0, .int .u64 0, .int .u64 0, .int .i64 0, .int .u64 0] 81))) => E3.of u.2
  have c0 := fun u => (bk14 (U0 u).b1).1
  have c1 := fun u => (bk14 (U0 u).b1).2.1
  have c2 := fun u => (bk14 (U0 u).b1).2.2.1
  have c3 := fun u => (bk14 (U0 u).b1).2.2.2.1
  have c4 := fun u => (bk14 (U0 u).b1).2.2.2.2.1
  have c5 := fun u => (bk14 (U0 u).b1).2.2.2.2.2.1
  have c6 := fun u => (bk14 (U0 u).b1).2.2.2.2.2.2.1
  have c7 := fun u => (bk14 (U0 u).b1).2.2.2.2.2.2.2.1
  have c8 := fun u => (bk14 (U0 u).b1).2.2.2.2.2.2.2.2.1
  have c9 := fun u => (bk14 (U0 u).b1).2.2.2.2.2.2.2.2.2.1
  have c10 := fun u => (bk14 (U0 u).b1).2.2.2.2.2.2.2.2.2.2.1
  have c11 := fun u => (bk14 (U0 u).b1).2.2.2.2.2.2.2.2.2.2.2.1
  have c12 := fun u => (bk14 (U0 u).b1).2.2.2.2.2.2.2.2.2.2.2.2.1
  have c13 := fun u => (bk14 (U0 u).b1).2.2.2.2.2.2.2.2.2.2.2.2.2.1
  have a0 := fun u => (bk4 (U0 u).b2).1
  have a1 := fun u => (bk4 (U0 u).b2).2.1
  have a2 := fun u => (bk4 (U0 u).b2).2.2.1
  have a3 := fun u => (bk4 (U0 u).b2).2.2.2.1
  have UU := hide U0
  clear U0
  refine wp_region_up (by kernel_rfl) (by kernel_rfl) ?_
  repeat (go_big_quiet_step (first
    | (go_at_call 80; exact up_call (HS.out _))
    | (go_at_call 27; exact up_same (HR.out _))))
  refine wpQuiet_nil ?_
  rintro _ ⟨u, rfl⟩
  clear c0 c1 c2 c3 c4 c5 c6 c7 c8 c9 c10 c11 c12 c13 a0 a1 a2 a3
  have V1 := hide (UU.out u)
  clear UU
  generalize u.1 = w2 at *
  obtain ⟨c0, c1, c2, c3, c4, c5, c6, c7, c8, c9, c10, c11, c12, c13, f1⟩ := bk14 V1.out.b1
  obtain ⟨a0, a1, a2, a3, g1⟩ := bk4 V1.out.b2
  go_wp2_with fail
  refine (HP.out _ V1.out.bel).mono ?_
  rintro e w3 ⟨rfl, hb⟩
  have V2 := hide (V1.out.next hb)
  clear c0 c1 c2 c3 c4 c5 c6 c7 c8 c9 c10 c11 c12 c13 f1 a0 a1 a2 a3 g1
  clear hb
  obtain ⟨c0, c1, c2, c3, c4, c5, c6, c7, c8, c9, c10, c11, c12, c13, f1⟩ := bk14 V2.out.b1
  obtain ⟨a0, a1, a2, a3, g1⟩ := bk4 V2.out.b2
  go_wp2_with fail
  refine (HP.out _ V2.out.bel).mono ?_
  rintro e w4 ⟨rfl, hb⟩
  have V3 := hide (V2.out.next hb)
  clear c0 c1 c2 c3 c4 c5 c6 c7 c8 c9 c10 c11 c12 c13 f1 a0 a1 a2 a3 g1
  clear hb
  obtain ⟨c0, c1, c2, c3, c4, c5, c6, c7, c8, c9, c10, c11, c12, c13, f1⟩ := bk14 V3.out.b1
  obtain ⟨a0, a1, a2, a3, g1⟩ := bk4 V3.out.b2
  go_wp2_with fail
  refine (mto_any _ A n c B m d t ⟨what, 2, ch, th, ix, kd, v, tt, h, ok, ov⟩ 1).mono ?_
  rintro e w9 ⟨rfl, hb⟩
  have V9 := hide (V3.out.next hb)
  clear c0 c1 c2 c3 c4 c5 c6 c7 c8 c9 c10 c11 c12 c13 f1 a0 a1 a2 a3 g1
  clear hb
  have HT := hide (V9.out.b3.there (n := 14) rfl)
  go_wp2_with ((with_reducible show wpList _ _ _ _ _ _); refine wpList_store_res (by rfl) 81 _ _ (by rfl) (w.heap.size + 1 + 1) (Mc.cells A n c B m d t (mto ⟨what, 2, ch, th, ix, kd, v, tt, h, ok, ov⟩ 1)) (by rfl) (by rfl) HT.out Tryz.mc_inf (mc_one _ _ _ _ _ _ _ _) ?_; intro wz HZ)
  obtain ⟨fs, hfs⟩ := Tryz.mc_und
  exact ret_stored HZ Tryz.results87 rfl HT.out hfs rfl Tryz.mc_inf rfl ⟨rfl, below_stored HZ V9.out.bel (by omega)⟩

set_option maxHeartbeats 1000000 in
set_option maxRecDepth 100000 in
theorem mpush_2l (w : World) (A : Option Addr) (n c : Nat) (B : Option Addr) (m d : Nat) (t : Int) (what ch th : Nat) (ix kd v tt h ok ov a : Int) (y z : Bool) (LA : Option Addr) (ln lc : Nat) (l : List Int) (hcf : Cf w A n l) (hch : ch < n) (r q : Int) (hr : rest (tt / 2) a = r) (hq : l.getD ch 0 = q) (he : (r == q) = false) (hg : decide (q < r) = false) :
    Calls Tryz.prog 87 #[.agg (Mc.cells A n c B m d t ⟨what, 2, ch, th, ix, kd, v, tt, h, ok, ov⟩), .agg #[.int .u64 a, .bool y, .bool z, .slice LA ln lc]] w fun e w' => e = .returned (.agg (Mc.cells A n c B m d t (mto ⟨what, 2, ch, th, ix, kd, v, tt, h, ok, ov⟩ 4))) ∧ Below w.heap.size w w' := by
  have HS := hide (fun W => mseq_any W A n c B m d t ⟨what, 2, ch, th, ix, kd, v, tt, h, ok, ov⟩)
  have hrr : ∀ W, Calls Tryz.prog 27 #[.int .u64 (tt / 2), .int .u64 a] W fun e w' => e = .returned (.int .u64 r) ∧ W = w' := fun W => by rw [← hr]; exact rrest_any _ _ W
  have HR := hide hrr
  clear hrr hr
  have hcp : ∀ W, Below w.heap.size w W → Calls Tryz.prog 104 #[.agg (Mc.cells A n c B m d t ⟨what, 2, ch, th, ix, kd, v, tt, h, ok, ov⟩)] W fun e w' => e = .returned (.int .u64 q) ∧ Below W.heap.size W w' := fun W hW => by rw [← hq]; exact mcap_any W A n c B m d t ⟨what, 2, ch, th, ix, kd, v, tt, h, ok, ov⟩ l (hcf.below hW) hch
  have HP := hide hcp
  clear hcp hq hcf
  rw [Mc.cells]
  go_enter Tryz.func87, Tryz.ntmps87
  go_wp2_with fail
  have U0 := fun (u : Up (((w.alloc (.cells #[.int .i64 (what : Nat), .int .i64 2, .slice A n c, .slice B m d, .int .i64 t, .int .i64 (ch : Nat), .int .i64 (th : Nat), .int .i64 ix, .int .i64 kd, .int .u64 v, .int .u64 tt, .int .u64 h, .int .i64 ok, .int .u64 ov] 81)).alloc (.cells #[.int .u64 a, .bool y, .bool z, .slice LA ln lc] 86)).alloc (.cells #[.int .i64 0, .int .i64 0, .slice none 0 0, .slice none 0 0, .int .i64 0, .int .i64 0, .int .i64 0, .int .i64 0, .int .i64 0, .int .u64 0, .int .u64 0, .int .u64 0, .int .i64 0, .int .u64 0] 81))) => E3.of u.2
  have c0 := fun u => (bk14 (U0 u).b1).1
  have c1 := fun u => (bk14 (U0 u).b1).2.1
  have c2 := fun u => (bk14 (U0 u).b1).2.2.1
  have c3 := fun u => (bk14 (U0 u).b1).2.2.2.1
  have c4 := fun u => (bk14 (U0 u).b1).2.2.2.2.1
  have c5 := fun u => (bk14 (U0 u).b1).2.2.2.2.2.1
  have c6 := fun u => (bk14 (U0 u).b1).2.2.2.2.2.2.1
  have c7 := fun u => (bk14 (U0 u).b1).2.2.2.2.2.2.2.1
  have c8 := fun u => (bk14 (U0 u).b1).2.2.2.2.2.2.2.2.1
  have c9 := fun u => (bk14 (U0 u).b1).2.2.2.2.2.2.2.2.2.1
  have c10 := fun u => (bk14 (U0 u).b1).2.2.2.2.2.2.2.2.2.2.1
  have c11 := fun u => (bk14 (U0 u).b1).2.2.2.2.2.2.2.2.2.2.2.1
  have c12 := fun u => (bk14 (U0 u).b1).2.2.2.2.2.2.2.2.2.2.2.2.1
  have c13 := fun u => (bk14 (U0 u).b1).2.2.2.2.2.2.2.2.2.2.2.2.2.1
  have a0 := fun u => (bk4 (U0 u).b2).1
  have a1 := fun u => (bk4 (U0 u).b2).2.1
  have a2 := fun u => (bk4 (U0 u).b2).2.2.1
  have a3 := fun u => (bk4 (U0 u).b2).2.2.2.1
  have UU := hide U0
  clear U0
  refine wp_region_up (by kernel_rfl) (by kernel_rfl) ?_
  repeat (go_big_quiet_step (first
    | (go_at_call 80; exact up_call (HS.out _))
    | (go_at_call 27; exact up_same (HR.out _))))
  refine wpQuiet_nil ?_
  rintro _ ⟨u, rfl⟩
  clear c0 c1 c2 c3 c4 c5 c6 c7 c8 c9 c10 c11 c12 c13 a0 a1 a2 a3
  have V1 := hide (UU.out u)
  clear UU
  generalize u.1 = w2 at *
  obtain ⟨c0, c1, c2, c3, c4, c5, c6, c7, c8, c9, c10, c11, c12, c13, f1⟩ := bk14 V1.out.b1
  obtain ⟨a0, a1, a2, a3, g1⟩ := bk4 V1.out.b2
  go_wp2_with fail
  refine (HP.out _ V1.out.bel).mono ?_
  rintro e w3 ⟨rfl, hb⟩
  have V2 := hide (V1.out.next hb)
  clear c0 c1 c2 c3 c4 c5 c6 c7 c8 c9 c10 c11 c12 c13 f1 a0 a1 a2 a3 g1
  clear hb
  obtain ⟨c0, c1, c2, c3, c4, c5, c6, c7, c8, c9, c10, c11, c12, c13, f1⟩ := bk14 V2.out.b1
  obtain ⟨a0, a1, a2, a3, g1⟩ := bk4 V2.out.b2
  go_wp2_with fail
  refine (HP.out _ V2.out.bel).mono ?_
  rintro e w4 ⟨rfl, hb⟩
  have V3 := hide (V2.out.next hb)
  clear c0 c1 c2 c3 c4 c5 c6 c7 c8 c9 c10 c11 c12 c13 f1 a0 a1 a2 a3 g1
  clear hb
  obtain ⟨c0, c1, c2, c3, c4, c5, c6, c7, c8, c9, c10, c11, c12, c13, f1⟩ := bk14 V3.out.b1
  obtain ⟨a0, a1, a2, a3, g1⟩ := bk4 V3.out.b2
  go_wp2_with fail
  refine (mto_any _ A n c B m d t ⟨what, 2, ch, th, ix, kd, v, tt, h, ok, ov⟩ 4).mono ?_
  rintro e w9 ⟨rfl, hb⟩
  have V9 := hide (V3.out.next hb)
  clear c0 c1 c2 c3 c4 c5 c6 c7 c8 c9 c10 c11 c12 c13 f1 a0 a1 a2 a3 g1
  clear hb
  have HT := hide (V9.out.b3.there (n := 14) rfl)
  go_wp2_with ((with_reducible show wpList _ _ _ _ _ _); refine wpList_store_res (by rfl) 81 _ _ (by rfl) (w.heap.size + 1 + 1) (Mc.cells A n c B m d t (mto ⟨what, 2, ch, th, ix, kd, v, tt, h, ok, ov⟩ 4)) (by rfl) (by rfl) HT.out Tryz.mc_inf (mc_one _ _ _ _ _ _ _ _) ?_; intro wz HZ)
  obtain ⟨fs, hfs⟩ := Tryz.mc_und
  exact ret_stored HZ Tryz.results87 rfl HT.out hfs rfl Tryz.mc_inf rfl ⟨rfl, below_stored HZ V9.out.bel (by omega)⟩

set_option maxHeartbeats 1000000 in
set_option maxRecDepth 100000 in
theorem mpush_3e (w : World) (A : Option Addr) (n c : Nat) (B : Option Addr) (m d : Nat) (t : Int) (what ch th : Nat) (ix kd v tt h ok ov a : Int) (y z : Bool) (LA : Option Addr) (ln lc : Nat) (he : (a == tt) = true) :
    Calls Tryz.prog 87 #[.agg (Mc.cells A n c B m d t ⟨what, 3, ch, th, ix, kd, v, tt, h, ok, ov⟩), .agg #[.int .u64 a, .bool y, .bool z, .slice LA ln lc]] w fun e w' => e = .returned (.agg (Mc.cells A n c B m d t (mend ⟨what, 3, ch, th, ix, kd, v, tt, h, ok, ov⟩ 2 0))) ∧ Below w.heap.size w w' := by
  rw [Mc.cells]
  go_enter Tryz.func87, Tryz.ntmps87
  go_wp2_with fail
  refine (mend_any _ A n c B m d t ⟨what, 3, ch, th, ix, kd, v, tt, h, ok, ov⟩ 2 0).mono ?_
  rintro e w9 ⟨rfl, hb⟩
  have V9 := hide (E3.of hb)
  clear hb
  have HT := hide (V9.out.b3.there (n := 14) rfl)
  go_wp2_with ((with_reducible show wpList _ _ _ _ _ _); refine wpList_store_res (by rfl) 81 _ _ (by rfl) (w.heap.size + 1 + 1) (Mc.cells A n c B m d t (mend ⟨what, 3, ch, th, ix, kd, v, tt, h, ok, ov⟩ 2 0)) (by rfl) (by rfl) HT.out Tryz.mc_inf (mc_one _ _ _ _ _ _ _ _) ?_; intro wz HZ)
  obtain ⟨fs, hfs⟩ := Tryz.mc_und
  exact ret_stored HZ Tryz.results87 rfl HT.out hfs rfl Tryz.mc_inf rfl ⟨rfl, below_stored HZ V9.out.bel (by omega)⟩

set_option maxHeartbeats 1000000 in
set_option maxRecDepth 100000 in
theorem mpush_3n (w : World) (A : Option Addr) (n c : Nat) (B : Option Addr) (m d : Nat) (t : Int) (what ch th : Nat) (ix kd v tt h ok ov a : Int) (y z : Bool) (LA : Option Addr) (ln lc : Nat) (he : (a == tt) = false) (ha : u64 a) (hcl : cl a = false) :
    Calls Tryz.prog 87 #[.agg (Mc.cells A n c B m d t ⟨what, 3, ch, th, ix, kd, v, tt, h, ok, ov⟩), .agg #[.int .u64 a, .bool y, .bool z, .slice LA ln lc]] w fun e w' => e = .returned (.agg (Mc.cells A n c B m d t (mto ⟨what, 3, ch, th, ix, kd, v, a, h, ok, ov⟩ 2))) ∧ Below w.heap.size w w' := by
  have hc := fun W => rclosed_any a W ha.1 ha.2
  rw [hcl] at hc
  have HC := hide hc
  clear hc hcl ha
  rw [Mc.cells]
  go_enter Tryz.func87, Tryz.ntmps87
  go_wp2_with (first
    | (go_at_call 12; refine (HC.out _).mono ?_; rintro e w' ⟨rfl, rfl⟩))
  refine (mto_any _ A n c B m d t ⟨what, 3, ch, th, ix, kd, v, a, h, ok, ov⟩ 2).mono ?_
  rintro e w9 ⟨rfl, hb⟩
  have V9 := hide (E3.of hb)
  clear hb
  have HT := hide (V9.out.b3.there (n := 14) rfl)
  go_wp2_with ((with_reducible show wpList _ _ _ _ _ _); refine wpList_store_res (by rfl) 81 _ _ (by rfl) (w.heap.size + 1 + 1) (Mc.cells A n c B m d t (mto ⟨what, 3, ch, th, ix, kd, v, a, h, ok, ov⟩ 2)) (by rfl) (by rfl) HT.out Tryz.mc_inf (mc_one _ _ _ _ _ _ _ _) ?_; intro wz HZ)
  obtain ⟨fs, hfs⟩ := Tryz.mc_und
  exact ret_stored HZ Tryz.results87 rfl HT.out hfs rfl Tryz.mc_inf rfl ⟨rfl, below_stored HZ V9.out.bel (by omega)⟩

set_option maxHeartbeats 1000000 in
set_option maxRecDepth 100000 in
theorem mpush_3c (w : World) (A : Option Addr) (n c : Nat) (B : Option Addr) (m d : Nat) (t : Int) (what ch th : Nat) (ix kd v tt h ok ov a : Int) (y z : Bool) (LA : Option Addr) (ln lc : Nat) (he : (a == tt) = false) (ha : u64 a) (hcl : cl a = true) :
    Calls Tryz.prog 87 #[.agg (Mc.cells A n c B m d t ⟨what, 3, ch, th, ix, kd, v, tt, h, ok, ov⟩), .agg #[.int .u64 a, .bool y, .bool z, .slice LA ln lc]] w fun e w' => e = .returned (.agg (Mc.cells A n c B m d t (mend ⟨what, 3, ch, th, ix, kd, v, a, h, ok, ov⟩ 4 0))) ∧ Below w.heap.size w w' := by
  have hc := fun W => rclosed_any a W ha.1 ha.2
  rw [hcl] at hc
  have HC := hide hc
  clear hc hcl ha
  rw [Mc.cells]
  go_enter Tryz.func87, Tryz.ntmps87
  go_wp2_with (first
    | (go_at_call 12; refine (HC.out _).mono ?_; rintro e w' ⟨rfl, rfl⟩))
  refine (mend_any _ A n c B m d t ⟨what, 3, ch, th, ix, kd, v, a, h, ok, ov⟩ 4 0).mono ?_
  rintro e w9 ⟨rfl, hb⟩
  have V9 := hide (E3.of hb)
  clear hb
  have HT := hide (V9.out.b3.there (n := 14) rfl)
  go_wp2_with ((with_reducible show wpList _ _ _ _ _ _); refine wpList_store_res (by rfl) 81 _ _ (by rfl) (w.heap.size + 1 + 1) (Mc.cells A n c B m d t (mend ⟨what, 3, ch, th, ix, kd, v, a, h, ok, ov⟩ 4 0)) (by rfl) (by rfl) HT.out Tryz.mc_inf (mc_one _ _ _ _ _ _ _ _) ?_; intro wz HZ)
  obtain ⟨fs, hfs⟩ := Tryz.mc_und
  exact ret_stored HZ Tryz.results87 rfl HT.out hfs rfl Tryz.mc_inf rfl ⟨rfl, below_stored HZ V9.out.bel (by omega)⟩

set_option maxHeartbeats 1000000 in
set_option maxRecDepth 100000 in
theorem mpush_4e (w : World) (A : Option Addr) (n c : Nat) (B : Option Addr) (m d : Nat) (t : Int) (what ch th : Nat) (ix kd v tt h ok ov a : Int) (y z : Bool) (LA : Option Addr) (ln lc : Nat) (he : (a == tt / 2) = true) :
    Calls Tryz.prog 87 #[.agg (Mc.cells A n c B m d t ⟨what, 4, ch, th, ix, kd, v, tt, h, ok, ov⟩), .agg #[.int .u64 a, .bool y, .bool z, .slice LA ln lc]] w fun e w' => e = .returned (.agg (Mc.cells A n c B m d t (mto ⟨what, 4, ch, th, ix, kd, v, tt, h, ok, ov⟩ 5))) ∧ Below w.heap.size w w' := by
  have HS := hide (fun W => mseq_any W A n c B m d t ⟨what, 4, ch, th, ix, kd, v, tt, h, ok, ov⟩)
  rw [Mc.cells]
  go_enter Tryz.func87, Tryz.ntmps87
  go_wp2_with fail
  have U0 := fun (u : Up (((w.alloc (.cells #[.int .i64 (what : Nat), .int .i64 4, .slice A n c, .slice B m d, .int .i64 t, .int .i64 (ch : Nat), .int .i64 (th : Nat), .int .i64 ix, .int .i64 kd, .int .u64 v, .int .u64 tt, .int .u64 h, .int .i64 ok, .int .u64 ov] 81)).alloc (.cells #[.int .u64 a, .bool y, .bool z, .slice LA ln lc] 86)).alloc (.cells #[.int .i64 0, .int .i64 0, .slice none 0 0, .slice none 0 0, .int .i64 0, .int .i64 0, .int .i64 0, .int .i64 0, .int .i64 0, .int .u64 0, .int .u64 0, .int .u64 0, .int .i64 0, .int .u64 0] 81))) => E3.of u.2
  have c0 := fun u => (bk14 (U0 u).b1).1
  have c1 := fun u => (bk14 (U0 u).b1).2.1
  have c2 := fun u => (bk14 (U0 u).b1).2.2.1
  have c3 := fun u => (bk14 (U0 u).b1).2.2.2.1
  have c4 := fun u => (bk14 (U0 u).b1).2.2.2.2.1
  have c5 := fun u => (bk14 (U0 u).b1).2.2.2.2.2.1
  have c6 := fun u => (bk14 (U0 u).b1).2.2.2.2.2.2.1
  have c7 := fun u => (bk14 (U0 u).b1).2.2.2.2.2.2.2.1
  have c8 := fun u => (bk14 (U0 u).b1).2.2.2.2.2.2.2.2.1
  have c9 := fun u => (bk14 (U0 u).b1).2.2.2.2.2.2.2.2.2.1
  have c10 := fun u => (bk14 (U0 u).b1).2.2.2.2.2.2.2.2.2.2.1
  have c11 := fun u => (bk14 (U0 u).b1).2.2.2.2.2.2.2.2.2.2.2.1
  have c12 := fun u => (bk14 (U0 u).b1).2.2.2.2.2.2.2.2.2.2.2.2.1
  have c13 := fun u => (bk14 (U0 u).b1).2.2.2.2.2.2.2.2.2.2.2.2.2.1
  have a0 := fun u => (bk4 (U0 u).b2).1
  have a1 := fun u => (bk4 (U0 u).b2).2.1
  have a2 := fun u => (bk4 (U0 u).b2).2.2.1
  have a3 := fun u => (bk4 (U0 u).b2).2.2.2.1
  have UU := hide U0
  clear U0
  refine wp_region_up (by kernel_rfl) (by kernel_rfl) ?_
  repeat (go_big_quiet_step (first
    | (go_at_call 80; exact up_call (HS.out _))))
  refine wpQuiet_nil ?_
  rintro _ ⟨u, rfl⟩
  clear c0 c1 c2 c3 c4 c5 c6 c7 c8 c9 c10 c11 c12 c13 a0 a1 a2 a3
  have V1 := hide (UU.out u)
  clear UU
  generalize u.1 = w2 at *
  obtain ⟨c0, c1, c2, c3, c4, c5, c6, c7, c8, c9, c10, c11, c12, c13, f1⟩ := bk14 V1.out.b1
  obtain ⟨a0, a1, a2, a3, g1⟩ := bk4 V1.out.b2
  go_wp2_with fail
  refine (mto_any _ A n c B m d t ⟨what, 4, ch, th, ix, kd, v, tt, h, ok, ov⟩ 5).mono ?_
  rintro e w9 ⟨rfl, hb⟩
  have V9 := hide (V1.out.next hb)
  clear c0 c1 c2 c3 c4 c5 c6 c7 c8 c9 c10 c11 c12 c13 f1 a0 a1 a2 a3 g1
  clear hb
  have HT := hide (V9.out.b3.there (n := 14) rfl)
  go_wp2_with ((with_reducible show wpList _ _ _ _ _ _); refine wpList_store_res (by rfl) 81 _ _ (by rfl) (w.heap.size + 1 + 1) (Mc.cells A n c B m d t (mto ⟨what, 4, ch, th, ix, kd, v, tt, h, ok, ov⟩ 5)) (by rfl) (by rfl) HT.out Tryz.mc_inf (mc_one _ _ _ _ _ _ _ _) ?_; intro wz HZ)
  obtain ⟨fs, hfs⟩ := Tryz.mc_und
  exact ret_stored HZ Tryz.results87 rfl HT.out hfs rfl Tryz.mc_inf rfl ⟨rfl, below_stored HZ V9.out.bel (by omega)⟩

set_option maxHeartbeats 1000000 in
set_option maxRecDepth 100000 in
theorem mpush_4n (w : World) (A : Option Addr) (n c : Nat) (B : Option Addr) (m d : Nat) (t : Int) (what ch th : Nat) (ix kd v tt h ok ov a : Int) (y z : Bool) (LA : Option Addr) (ln lc : Nat) (he : (a == tt / 2) = false) :
    Calls Tryz.prog 87 #[.agg (Mc.cells A n c B m d t ⟨what, 4, ch, th, ix, kd, v, tt, h, ok, ov⟩), .agg #[.int .u64 a, .bool y, .bool z, .slice LA ln lc]] w fun e w' => e = .returned (.agg (Mc.cells A n c B m d t (mto ⟨what, 4, ch, th, ix, kd, v, tt, h, ok, ov⟩ 1))) ∧ Below w.heap.size w w' := by
  have HS := hide (fun W => mseq_any W A n c B m d t ⟨what, 4, ch, th, ix, kd, v, tt, h, ok, ov⟩)
  rw [Mc.cells]
  go_enter Tryz.func87, Tryz.ntmps87
  go_wp2_with fail
  have U0 := fun (u : Up (((w.alloc (.cells #[.int .i64 (what : Nat), .int .i64 4, .slice A n c, .slice B m d, .int .i64 t, .int .i64 (ch : Nat), .int .i64 (th : Nat), .int .i64 ix, .int .i64 kd, .int .u64 v, .int .u64 tt, .int .u64 h, .int .i64 ok, .int .u64 ov] 81)).alloc (.cells #[.int .u64 a, .bool y, .bool z, .slice LA ln lc] 86)).alloc (.cells #[.int .i64 0, .int .i64 0, .slice none 0 0, .slice none 0 0, .int .i64 0, .int .i64 0, .int .i64 0, .int .i64 0, .int .i64 0, .int .u64 0, .int .u64 0, .int .u64 0, .int .i64 0, .int .u64 0] 81))) => E3.of u.2
  have c0 := fun u => (bk14 (U0 u).b1).1
  have c1 := fun u => (bk14 (U0 u).b1).2.1
  have c2 := fun u => (bk14 (U0 u).b1).2.2.1
  have c3 := fun u => (bk14 (U0 u).b1).2.2.2.1
  have c4 := fun u => (bk14 (U0 u).b1).2.2.2.2.1
  have c5 := fun u => (bk14 (U0 u).b1).2.2.2.2.2.1
  have c6 := fun u => (bk14 (U0 u).b1).2.2.2.2.2.2.1
  have c7 := fun u => (bk14 (U0 u).b1).2.2.2.2.2.2.2.1
  have c8 := fun u => (bk14 (U0 u).b1).2.2.2.2.2.2.2.2.1
  have c9 := fun u => (bk14 (U0 u).b1).2.2.2.2.2.2.2.2.2.1
  have c10 := fun u => (bk14 (U0 u).b1).2.2.2.2.2.2.2.2.2.2.1
  have c11 := fun u => (bk14 (U0 u).b1).2.2.2.2.2.2.2.2.2.2.2.1
  have c12 := fun u => (bk14 (U0 u).b1).2.2.2.2.2.2.2.2.2.2.2.2.1
  have c13 := fun u => (bk14 (U0 u).b1).2.2.2.2.2.2.2.2.2.2.2.2.2.1
  have a0 := fun u => (bk4 (U0 u).b2).1
  have a1 := fun u => (bk4 (U0 u).b2).2.1
  have a2 := fun u => (bk4 (U0 u).b2).2.2.1
  have a3 := fun u => (bk4 (U0 u).b2).2.2.2.1
  have UU := hide U0
  clear U0
  refine wp_region_up (by kernel_rfl) (by kernel_rfl) ?_
  repeat (go_big_quiet_step (first
    | (go_at_call 80; exact up_call (HS.out _))))
  refine wpQuiet_nil ?_
  rintro _ ⟨u, rfl⟩
  clear c0 c1 c2 c3 c4 c5 c6 c7 c8 c9 c10 c11 c12 c13 a0 a1 a2 a3
  have V1 := hide (UU.out u)
  clear UU
  generalize u.1 = w2 at *
  obtain ⟨c0, c1, c2, c3, c4, c5, c6, c7, c8, c9, c10, c11, c12, c13, f1⟩ := bk14 V1.out.b1
  obtain ⟨a0, a1, a2, a3, g1⟩ := bk4 V1.out.b2
  go_wp2_with fail
  refine (mto_any _ A n c B m d t ⟨what, 4, ch, th, ix, kd, v, tt, h, ok, ov⟩ 1).mono ?_
  rintro e w9 ⟨rfl, hb⟩
  have V9 := hide (V1.out.next hb)
  clear c0 c1 c2 c3 c4 c5 c6 c7 c8 c9 c10 c11 c12 c13 f1 a0 a1 a2 a3 g1
  clear hb
  have HT := hide (V9.out.b3.there (n := 14) rfl)
  go_wp2_with ((with_reducible show wpList _ _ _ _ _ _); refine wpList_store_res (by rfl) 81 _ _ (by rfl) (w.heap.size + 1 + 1) (Mc.cells A n c B m d t (mto ⟨what, 4, ch, th, ix, kd, v, tt, h, ok, ov⟩ 1)) (by rfl) (by rfl) HT.out Tryz.mc_inf (mc_one _ _ _ _ _ _ _ _) ?_; intro wz HZ)
  obtain ⟨fs, hfs⟩ := Tryz.mc_und
  exact ret_stored HZ Tryz.results87 rfl HT.out hfs rfl Tryz.mc_inf rfl ⟨rfl, below_stored HZ V9.out.bel (by omega)⟩

set_option maxHeartbeats 1000000 in
set_option maxRecDepth 100000 in
theorem mpush_5y (w : World) (A : Option Addr) (n c : Nat) (B : Option Addr) (m d : Nat) (t : Int) (what ch th : Nat) (ix kd v tt h ok ov a : Int) (z : Bool) (LA : Option Addr) (ln lc : Nat) :
    Calls Tryz.prog 87 #[.agg (Mc.cells A n c B m d t ⟨what, 5, ch, th, ix, kd, v, tt, h, ok, ov⟩), .agg #[.int .u64 a, .bool true, .bool z, .slice LA ln lc]] w fun e w' => e = .returned (.agg (Mc.cells A n c B m d t (mto ⟨what, 5, ch, th, ix, kd, v, tt, h, ok, ov⟩ 6))) ∧ Below w.heap.size w w' := by
  rw [Mc.cells]
  go_enter Tryz.func87, Tryz.ntmps87
  go_wp2_with fail
  refine (mto_any _ A n c B m d t ⟨what, 5, ch, th, ix, kd, v, tt, h, ok, ov⟩ 6).mono ?_
  rintro e w9 ⟨rfl, hb⟩
  have V9 := hide (E3.of hb)
  clear hb
  have HT := hide (V9.out.b3.there (n := 14) rfl)
  go_wp2_with ((with_reducible show wpList _ _ _ _ _ _); refine wpList_store_res (by rfl) 81 _ _ (by rfl) (w.heap.size + 1 + 1) (Mc.cells A n c B m d t (mto ⟨what, 5, ch, th, ix, kd, v, tt, h, ok, ov⟩ 6)) (by rfl) (by rfl) HT.out Tryz.mc_inf (mc_one _ _ _ _ _ _ _ _) ?_; intro wz HZ)
  obtain ⟨fs, hfs⟩ := Tryz.mc_und
  exact ret_stored HZ Tryz.results87 rfl HT.out hfs rfl Tryz.mc_inf rfl ⟨rfl, below_stored HZ V9.out.bel (by omega)⟩

set_option maxHeartbeats 1000000 in
set_option maxRecDepth 100000 in
theorem mpush_5n (w : World) (A : Option Addr) (n c : Nat) (B : Option Addr) (m d : Nat) (t : Int) (what ch th : Nat) (ix kd v tt h ok ov a : Int) (z : Bool) (LA : Option Addr) (ln lc : Nat) :
    Calls Tryz.prog 87 #[.agg (Mc.cells A n c B m d t ⟨what, 5, ch, th, ix, kd, v, tt, h, ok, ov⟩), .agg #[.int .u64 a, .bool false, .bool z, .slice LA ln lc]] w fun e w' => e = .returned (.agg (Mc.cells A n c B m d t (mto ⟨what, 5, ch, th, ix, kd, v, tt, h, ok, ov⟩ 1))) ∧ Below w.heap.size w w' := by
  rw [Mc.cells]
  go_enter Tryz.func87, Tryz.ntmps87
  go_wp2_with fail
  refine (mto_any _ A n c B m d t ⟨what, 5, ch, th, ix, kd, v, tt, h, ok, ov⟩ 1).mono ?_
  rintro e w9 ⟨rfl, hb⟩
  have V9 := hide (E3.of hb)
  clear hb
  have HT := hide (V9.out.b3.there (n := 14) rfl)
  go_wp2_with ((with_reducible show wpList _ _ _ _ _ _); refine wpList_store_res (by rfl) 81 _ _ (by rfl) (w.heap.size + 1 + 1) (Mc.cells A n c B m d t (mto ⟨what, 5, ch, th, ix, kd, v, tt, h, ok, ov⟩ 1)) (by rfl) (by rfl) HT.out Tryz.mc_inf (mc_one _ _ _ _ _ _ _ _) ?_; intro wz HZ)
  obtain ⟨fs, hfs⟩ := Tryz.mc_und
  exact ret_stored HZ Tryz.results87 rfl HT.out hfs rfl Tryz.mc_inf rfl ⟨rfl, below_stored HZ V9.out.bel (by omega)⟩

set_option maxHeartbeats 1000000 in
set_option maxRecDepth 100000 in
theorem mpush_6 (w : World) (A : Option Addr) (n c : Nat) (B : Option Addr) (m d : Nat) (t : Int) (what ch th : Nat) (ix kd v tt h ok ov a : Int) (y z : Bool) (LA : Option Addr) (ln lc : Nat) :
    Calls Tryz.prog 87 #[.agg (Mc.cells A n c B m d t ⟨what, 6, ch, th, ix, kd, v, tt, h, ok, ov⟩), .agg #[.int .u64 a, .bool y, .bool z, .slice LA ln lc]] w fun e w' => e = .returned (.agg (Mc.cells A n c B m d t (mto ⟨what, 6, ch, th, ix, kd, v, tt, h, ok, ov⟩ 7))) ∧ Below w.heap.size w w' := by
  rw [Mc.cells]
  go_enter Tryz.func87, Tryz.ntmps87
  go_wp2_with fail
  refine (mto_any _ A n c B m d t ⟨what, 6, ch, th, ix, kd, v, tt, h, ok, ov⟩ 7).mono ?_
  rintro e w9 ⟨rfl, hb⟩
  have V9 := hide (E3.of hb)
  clear hb
  have HT := hide (V9.out.b3.there (n := 14) rfl)
  go_wp2_with ((with_reducible show wpList _ _ _ _ _ _); refine wpList_store_res (by rfl) 81 _ _ (by rfl) (w.heap.size + 1 + 1) (Mc.cells A n c B m d t (mto ⟨what, 6, ch, th, ix, kd, v, tt, h, ok, ov⟩ 7)) (by rfl) (by rfl) HT.out Tryz.mc_inf (mc_one _ _ _ _ _ _ _ _) ?_; intro wz HZ)
  obtain ⟨fs, hfs⟩ := Tryz.mc_und
  exact ret_stored HZ Tryz.results87 rfl HT.out hfs rfl Tryz.mc_inf rfl ⟨rfl, below_stored HZ V9.out.bel (by omega)⟩

set_option maxHeartbeats 1000000 in
set_option maxRecDepth 100000 in
theorem mpush_7 (w : World) (A : Option Addr) (n c : Nat) (B : Option Addr) (m d : Nat) (t : Int) (what ch th : Nat) (ix kd v tt h ok ov a : Int) (y z : Bool) (LA : Option Addr) (ln lc : Nat) :
    Calls Tryz.prog 87 #[.agg (Mc.cells A n c B m d t ⟨what, 7, ch, th, ix, kd, v, tt, h, ok, ov⟩), .agg #[.int .u64 a, .bool y, .bool z, .slice LA ln lc]] w fun e w' => e = .returned (.agg (Mc.cells A n c B m d t (mend ⟨what, 7, ch, th, ix, kd, v, tt, h, ok, ov⟩ 1 0))) ∧ Below w.heap.size w w' := by
  rw [Mc.cells]
  go_enter Tryz.func87, Tryz.ntmps87
  go_wp2_with fail
  refine (mend_any _ A n c B m d t ⟨what, 7, ch, th, ix, kd, v, tt, h, ok, ov⟩ 1 0).mono ?_
  rintro e w9 ⟨rfl, hb⟩
  have V9 := hide (E3.of hb)
  clear hb
  have HT := hide (V9.out.b3.there (n := 14) rfl)
  go_wp2_with ((with_reducible show wpList _ _ _ _ _ _); refine wpList_store_res (by rfl) 81 _ _ (by rfl) (w.heap.size + 1 + 1) (Mc.cells A n c B m d t (mend ⟨what, 7, ch, th, ix, kd, v, tt, h, ok, ov⟩ 1 0)) (by rfl) (by rfl) HT.out Tryz.mc_inf (mc_one _ _ _ _ _ _ _ _) ?_; intro wz HZ)
  obtain ⟨fs, hfs⟩ := Tryz.mc_und
  exact ret_stored HZ Tryz.results87 rfl HT.out hfs rfl Tryz.mc_inf rfl ⟨rfl, below_stored HZ V9.out.bel (by omega)⟩
end Go.Proofs.YtepngbdjobckbaaGreat
end
section
namespace Go.Proofs.YtepngbdjobckbaaGreat
open Go.RowKit
set_option linter.unusedVariables false
attribute [local irreducible] Go.bits

set_option maxHeartbeats 1000000 in
set_option maxRecDepth 100000 in
theorem mpop_1 (w : World) (A : Option Addr) (n c : Nat) (B : Option Addr) (m d : Nat) (t : Int) (what ch th : Nat) (ix kd v tt h ok ov a : Int) (y z : Bool) (LA : Option Addr) (ln lc : Nat) :
    Calls Tryz.prog 88 #[.agg (Mc.cells A n c B m d t ⟨what, 1, ch, th, ix, kd, v, tt, h, ok, ov⟩), .agg #[.int .u64 a, .bool y, .bool z, .slice LA ln lc]] w fun e w' => e = .returned (.agg (Mc.cells A n c B m d t (mto ⟨what, 1, ch, th, ix, kd, v, tt, a, ok, ov⟩ 2))) ∧ Below w.heap.size w w' := by
  rw [Mc.cells]
  go_enter Tryz.func88, Tryz.ntmps88
  go_wp2_with fail
  refine (mto_any _ A n c B m d t ⟨what, 1, ch, th, ix, kd, v, tt, a, ok, ov⟩ 2).mono ?_
  rintro e w9 ⟨rfl, hb⟩
  have V9 := hide (E3.of hb)
  clear hb
  have HT := hide (V9.out.b3.there (n := 14) rfl)
  go_wp2_with ((with_reducible show wpList _ _ _ _ _ _); refine wpList_store_res (by rfl) 81 _ _ (by rfl) (w.heap.size + 1 + 1) (Mc.cells A n c B m d t (mto ⟨what, 1, ch, th, ix, kd, v, tt, a, ok, ov⟩ 2)) (by rfl) (by rfl) HT.out Tryz.mc_inf (mc_one _ _ _ _ _ _ _ _) ?_; intro wz HZ)
  obtain ⟨fs, hfs⟩ := Tryz.mc_und
  exact ret_stored HZ Tryz.results88 rfl HT.out hfs rfl Tryz.mc_inf rfl ⟨rfl, below_stored HZ V9.out.bel (by omega)⟩

set_option maxHeartbeats 1000000 in
set_option maxRecDepth 100000 in
theorem mpop_2z (w : World) (A : Option Addr) (n c : Nat) (B : Option Addr) (m d : Nat) (t : Int) (what ch th : Nat) (ix kd v tt h ok ov a : Int) (y z : Bool) (LA : Option Addr) (ln lc : Nat) (r : Int) (hr : rest (a / 2) h = r) (he : (r == 0) = true) :
    Calls Tryz.prog 88 #[.agg (Mc.cells A n c B m d t ⟨what, 2, ch, th, ix, kd, v, tt, h, ok, ov⟩), .agg #[.int .u64 a, .bool y, .bool z, .slice LA ln lc]] w fun e w' => e = .returned (.agg (Mc.cells A n c B m d t (mto ⟨what, 2, ch, th, ix, kd, v, a, h, ok, ov⟩ 3))) ∧ Below w.heap.size w w' := by
  have HS := hide (fun W => mseq_any W A n c B m d t ⟨what, 2, ch, th, ix, kd, v, a, h, ok, ov⟩)
  have hrr : ∀ W, Calls Tryz.prog 27 #[.int .u64 (a / 2), .int .u64 h] W fun e w' => e = .returned (.int .u64 r) ∧ W = w' := fun W => by rw [← hr]; exact rrest_any _ _ W
  have HR := hide hrr
  clear hrr hr
  rw [Mc.cells]
  go_enter Tryz.func88, Tryz.ntmps88
  go_wp2_with fail
  have U0 := fun (u : Up (((w.alloc (.cells #[.int .i64 (what : Nat), .int .i64 2, .slice A n c, .slice B m d, .int .i64 t, .int .i64 (ch : Nat), .int .i64 (th : Nat), .int .i64 ix, .int .i64 kd, .int .u64 v, .int .u64 a, .int .u64 h, .int .i64 ok, .int .u64 ov] 81)).alloc (.cells #[.int .u64 a, .bool y, .bool z, .slice LA ln lc] 86)).alloc (.cells #[.int .i64 0, .int .i64 0, .slice none 0 0, .slice none 0 0, .int .i64 0, .int .i64 0, .int .i64 0, .int .i64 0, .int .i64 0, .int .u64 0, .int .u64 0, .int .u64 0, .int .i64 0, .int .u64 0] 81))) => E3.of u.2
  have c0 := fun u => (bk14 (U0 u).b1).1
  have c1 := fun u => (bk14 (U0 u).b1).2.1
  have c2 := fun u => (bk14 (U0 u).b1).2.2.1
  have c3 := fun u => (bk14 (U0 u).b1).2.2.2.1
  have c4 := fun u => (bk14 (U0 u).b1).2.2.2.2.1
  have c5 := fun u => (bk14 (U0 u).b1).2.2.2.2.2.1
  have c6 := fun u => (bk14 (U0 u).b1).2.2.2.2.2.2.1
  have c7 := fun u => (bk14 (U0 u).b1).2.2.2.2.2.2.2.1
  have c8 := fun u => (bk14 (U0 u).b1).2.2.2.2.2.2.2.2.1
  have c9 := fun u => (bk14 (U0 u).b1).2.2.2.2.2.2.2.2.2.1
  have c10 := fun u => (bk14 (U0 u).b1).2.2.2.2.2.2.2.2.2.2.1
  have c11 := fun u => (bk14 (U0 u).b1).2.2.2.2.2.2.2.2.2.2.2.1
  have c12 := fun u => (bk14 (U0 u).b1).2.2.2.2.2.2.2.2.2.2.2.2.1
  have c13 := fun u => (bk14 (U0 u).b1).2.2.2.2.2.2.2.2.2.2.2.2.2.1
  have a0 := fun u => (bk4 (U0 u).b2).1
  have a1 := fun u => (bk4 (U0 u).b2).2.1
  have a2 := fun u => (bk4 (U0 u).b2).2.2.1
  have a3 := fun u => (bk4 (U0 u).b2).2.2.2.1
  have UU := hide U0
  clear U0
  refine wp_region_up (by kernel_rfl) (by kernel_rfl) ?_
  repeat (go_big_quiet_step (first
    | (go_at_call 80; exact up_call (HS.out _))
    | (go_at_call 27; exact up_same (HR.out _))))
  refine wpQuiet_nil ?_
  rintro _ ⟨u, rfl⟩
  clear c0 c1 c2 c3 c4 c5 c6 c7 c8 c9 c10 c11 c12 c13 a0 a1 a2 a3
  have V1 := hide (UU.out u)
  clear UU
  generalize u.1 = w2 at *
  obtain ⟨c0, c1, c2, c3, c4, c5, c6, c7, c8, c9, c10, c11, c12, c13, f1⟩ := bk14 V1.out.b1
  obtain ⟨a0, a1, a2, a3, g1⟩ := bk4 V1.out.b2
  go_wp2_with fail
  refine (mto_any _ A n c B m d t ⟨what, 2, ch, th, ix, kd, v, a, h, ok, ov⟩ 3).mono ?_
  rintro e w9 ⟨rfl, hb⟩
  have V9 := hide (V1.out.next hb)
  clear c0 c1 c2 c3 c4 c5 c6 c7 c8 c9 c10 c11 c12 c13 f1 a0 a1 a2 a3 g1
  clear hb
  have HT := hide (V9.out.b3.there (n := 14) rfl)
  go_wp2_with ((with_reducible show wpList _ _ _ _ _ _); refine wpList_store_res (by rfl) 81 _ _ (by rfl) (w.heap.size + 1 + 1) (Mc.cells A n c B m d t (mto ⟨what, 2, ch, th, ix, kd, v, a, h, ok, ov⟩ 3)) (by rfl) (by rfl) HT.out Tryz.mc_inf (mc_one _ _ _ _ _ _ _ _) ?_; intro wz HZ)
  obtain ⟨fs, hfs⟩ := Tryz.mc_und
  exact ret_stored HZ Tryz.results88 rfl HT.out hfs rfl Tryz.mc_inf rfl ⟨rfl, below_stored HZ V9.out.bel (by omega)⟩

set_option maxHeartbeats 1000000 in
set_option maxRecDepth 100000 in
theorem mpop_2g (w : World) (A : Option Addr) (n c : Nat) (B : Option Addr) (m d : Nat) (t : Int) (what ch th : Nat) (ix kd v tt h ok ov a : Int) (y z : Bool) (LA : Option Addr) (ln lc : Nat) (l : List Int) (hcf : Cf w A n l) (hch : ch < n) (r q : Int) (hr : rest (a / 2) h = r) (hq : l.getD ch 0 = q) (he : (r == 0) = false) (hg : decide (q < r) = true) :
    Calls Tryz.prog 88 #[.agg (Mc.cells A n c B m d t ⟨what, 2, ch, th, ix, kd, v, tt, h, ok, ov⟩), .agg #[.int .u64 a, .bool y, .bool z, .slice LA ln lc]] w fun e w' => e = .returned (.agg (Mc.cells A n c B m d t (mto ⟨what, 2, ch, th, ix, kd, v, a, h, ok, ov⟩ 1))) ∧ Below w.heap.size w w' := by
  have HS := hide (fun W => mseq_any W A n c B m d t ⟨what, 2, ch, th, ix, kd, v, a, h, ok, ov⟩)
  have hrr : ∀ W, Calls Tryz.prog 27 #[.int .u64 (a / 2), .int .u64 h] W fun e w' => e = .returned (.int .u64 r) ∧ W = w' := fun W => by rw [← hr]; exact rrest_any _ _ W
  have HR := hide hrr
  clear hrr hr
  have hcp : ∀ W, Below w.heap.size w W → Calls Tryz.prog 104 #[.agg (Mc.cells A n c B m d t ⟨what, 2, ch, th, ix, kd, v, a, h, ok, ov⟩)] W fun e w' => e = .returned (.int .u64 q) ∧ Below W.heap.size W w' := fun W hW => by rw [← hq]; exact mcap_any W A n c B m d t ⟨what, 2, ch, th, ix, kd, v, a, h, ok, ov⟩ l (hcf.below hW) hch
  have HP := hide hcp
  clear hcp hq hcf
  rw [Mc.cells]
  go_enter Tryz.func88, Tryz.ntmps88
  go_wp2_with fail
  have U0 := fun (u : Up (((w.alloc (.cells #[.int .i64 (what : Nat), .int .i64 2, .slice A n c, .slice B m d, .int .i64 t, .int .i64 (ch : Nat), .int .i64 (th : Nat), .int .i64 ix, .int .i64 kd, .int .u64 v, .int .u64 a, .int .u64 h, .int .i64 ok, .int .u64 ov] 81)).alloc (.cells #[.int .u64 a, .bool y, .bool z, .slice LA ln lc] 86)).alloc (.cells #[.int .i64 0, .int .i64 0, .slice none 0 0, .slice none 0 0, .int .i64 0, .int .i64 0, .int .i64 0, .int .i64 0, .int .i64 0, .int .u64 0, .int .u64 0, .int .u64 0, .int .i64 0, .int .u64 0] 81))) => E3.of u.2
  have c0 := fun u => (bk14 (U0 u).b1).1
  have c1 := fun u => (bk14 (U0 u).b1).2.1
  have c2 := fun u => (bk14 (U0 u).b1).2.2.1
  have c3 := fun u => (bk14 (U0 u).b1).2.2.2.1
  have c4 := fun u => (bk14 (U0 u).b1).2.2.2.2.1
  have c5 := fun u => (bk14 (U0 u).b1).2.2.2.2.2.1
  have c6 := fun u => (bk14 (U0 u).b1).2.2.2.2.2.2.1
  have c7 := fun u => (bk14 (U0 u).b1).2.2.2.2.2.2.2.1
  have c8 := fun u => (bk14 (U0 u).b1).2.2.2.2.2.2.2.2.1
  have c9 := fun u => (bk14 (U0 u).b1).2.2.2.2.2.2.2.2.2.1
  have c10 := fun u => (bk14 (U0 u).b1).2.2.2.2.2.2.2.2.2.2.1
  have c11 := fun u => (bk14 (U0 u).b1).2.2.2.2.2.2.2.2.2.2.2.1
  have c12 := fun u => (bk14 (U0 u).b1).2.2.2.2.2.2.2.2.2.2.2.2.1
  have c13 := fun u => (bk14 (U0 u).b1).2.2.2.2.2.2.2.2.2.2.2.2.2.1
  have a0 := fun u => (bk4 (U0 u).b2).1
  have a1 := fun u => (bk4 (U0 u).b2).2.1
  have a2 := fun u => (bk4 (U0 u).b2).2.2.1
  have a3 := fun u => (bk4 (U0 u).b2).2.2.2.1
  have UU := hide U0
  clear U0
  refine wp_region_up (by kernel_rfl) (by kernel_rfl) ?_
  repeat (go_big_quiet_step (first
    | (go_at_call 80; exact up_call (HS.out _))
    | (go_at_call 27; exact up_same (HR.out _))))
  refine wpQuiet_nil ?_
  rintro _ ⟨u, rfl⟩
  clear c0 c1 c2 c3 c4 c5 c6 c7 c8 c9 c10 c11 c12 c13 a0 a1 a2 a3
  have V1 := hide (UU.out u)
  clear UU
  generalize u.1 = w2 at *
  obtain ⟨c0, c1, c2, c3, c4, c5, c6, c7, c8, c9, c10, c11, c12, c13, f1⟩ := bk14 V1.out.b1
  obtain ⟨a0, a1, a2, a3, g1⟩ := bk4 V1.out.b2
  go_wp2_with fail
  refine (HP.out _ V1.out.bel).mono ?_
  rintro e w3 ⟨rfl, hb⟩
  have V2 := hide (V1.out.next hb)
  clear c0 c1 c2 c3 c4 c5 c6 c7 c8 c9 c10 c11 c12 c13 f1 a0 a1 a2 a3 g1
  clear hb
  obtain ⟨c0, c1, c2, c3, c4, c5, c6, c7, c8, c9, c10, c11, c12, c13, f1⟩ := bk14 V2.out.b1
  obtain ⟨a0, a1, a2, a3, g1⟩ := bk4 V2.out.b2
  go_wp2_with fail
  refine (mto_any _ A n c B m d t ⟨what, 2, ch, th, ix, kd, v, a, h, ok, ov⟩ 1).mono ?_
  rintro e w9 ⟨rfl, hb⟩
  have V9 := hide (V2.out.next hb)
  clear c0 c1 c2 c3 c4 c5 c6 c7 c8 c9 c10 c11 c12 c13 f1 a0 a1 a2 a3 g1
  clear hb
  have HT := hide (V9.out.b3.there (n := 14) rfl)
  go_wp2_with ((with_reducible show wpList _ _ _ _ _ _); refine wpList_store_res (by rfl) 81 _ _ (by rfl) (w.heap.size + 1 + 1) (Mc.cells A n c B m d t (mto ⟨what, 2, ch, th, ix, kd, v, a, h, ok, ov⟩ 1)) (by rfl) (by rfl) HT.out Tryz.mc_inf (mc_one _ _ _ _ _ _ _ _) ?_; intro wz HZ)
  obtain ⟨fs, hfs⟩ := Tryz.mc_und
  exact ret_stored HZ Tryz.results88 rfl HT.out hfs rfl Tryz.mc_inf rfl ⟨rfl, below_stored HZ V9.out.bel (by omega)⟩

set_option maxHeartbeats 1000000 in
set_option maxRecDepth 100000 in
theorem mpop_2l (w : World) (A : Option Addr) (n c : Nat) (B : Option Addr) (m d : Nat) (t : Int) (what ch th : Nat) (ix kd v tt h ok ov a : Int) (y z : Bool) (LA : Option Addr) (ln lc : Nat) (l : List Int) (hcf : Cf w A n l) (hch : ch < n) (r q : Int) (hr : rest (a / 2) h = r) (hq : l.getD ch 0 = q) (he : (r == 0) = false) (hg : decide (q < r) = false) :
    Calls Tryz.prog 88 #[.agg (Mc.cells A n c B m d t ⟨what, 2, ch, th, ix, kd, v, tt, h, ok, ov⟩), .agg #[.int .u64 a, .bool y, .bool z, .slice LA ln lc]] w fun e w' => e = .returned (.agg (Mc.cells A n c B m d t (mto ⟨what, 2, ch, th, ix, kd, v, a, h, ok, ov⟩ 4))) ∧ Below w.heap.size w w' := by
  have HS := hide (fun W => mseq_any W A n c B m d t ⟨what, 2, ch, th, ix, kd, v, a, h, ok, ov⟩)
  have hrr : ∀ W, Calls Tryz.prog 27 #[.int .u64 (a / 2), .int .u64 h] W fun e w' => e = .returned (.int .u64 r) ∧ W = w' := fun W => by rw [← hr]; exact rrest_any _ _ W
  have HR := hide hrr
  clear hrr hr
  have hcp : ∀ W, Below w.heap.size w W → Calls Tryz.prog 104 #[.agg (Mc.cells A n c B m d t ⟨what, 2, ch, th, ix, kd, v, a, h, ok, ov⟩)] W fun e w' => e = .returned (.int .u64 q) ∧ Below W.heap.size W w' := fun W hW => by rw [← hq]; exact mcap_any W A n c B m d t ⟨what, 2, ch, th, ix, kd, v, a, h, ok, ov⟩ l (hcf.below hW) hch
  have HP := hide hcp
  clear hcp hq hcf
  rw [Mc.cells]
  go_enter Tryz.func88, Tryz.ntmps88
  go_wp2_with fail
  have U0 := fun (u : Up (((w.alloc (.cells #[.int .i64 (what : Nat), .int .i64 2, .slice A n c, .slice B m d, .int .i64 t, .int .i64 (ch : Nat), .int .i64 (th : Nat), .int .i64 ix, .int .i64 kd, .int .u64 v, .int .u64 a, .int .u64 h, .int .i64 ok, .int .u64 ov] 81)).alloc (.cells #[.int .u64 a, .bool y, .bool z, .slice LA ln lc] 86)).alloc (.cells #[.int .i64 0, .int .i64 0, .slice none 0 0, .slice none 0 0, .int .i64 0, .int .i64 0, .int .i64 0, .int .i64 0, .int .i64 0, .int .u64 0, .int .u64 0, .int .u64 0, .int .i64 0, .int .u64 0] 81))) => E3.of u.2
  have c0 := fun u => (bk14 (U0 u).b1).1
  have c1 := fun u => (bk14 (U0 u).b1).2.1
  have c2 := fun u => (bk14 (U0 u).b1).2.2.1
  have c3 := fun u => (bk14 (U0 u).b1).2.2.2.1
  have c4 := fun u => (bk14 (U0 u).b1).2.2.2.2.1
  have c5 := fun u => (bk14 (U0 u).b1).2.2.2.2.2.1
  have c6 := fun u => (bk14 (U0 u).b1).2.2.2.2.2.2.1
  have c7 := fun u => (bk14 (U0 u).b1).2.2.2.2.2.2.2.1
  have c8 := fun u => (bk14 (U0 u).b1).2.2.2.2.2.2.2.2.1
  have c9 := fun u => (bk14 (U0 u).b1).2.2.2.2.2.2.2.2.2.1
  have c10 := fun u => (bk14 (U0 u).b1).2.2.2.2.2.2.2.2.2.2.1
  have c11 := fun u => (bk14 (U0 u).b1).2.2.2.2.2.2.2.2.2.2.2.1
  have c12 := fun u => (bk14 (U0 u).b1).2.2.2.2.2.2.2.2.2.2.2.2.1
  have c13 := fun u => (bk14 (U0 u).b1).2.2.2.2.2.2.2.2.2.2.2.2.2.1
  have a0 := fun u => (bk4 (U0 u).b2).1
  have a1 := fun u => (bk4 (U0 u).b2).2.1
  have a2 := fun u => (bk4 (U0 u).b2).2.2.1
  have a3 := fun u => (bk4 (U0 u).b2).2.2.2.1
  have UU := hide U0
  clear U0
  refine wp_region_up (by kernel_rfl) (by kernel_rfl) ?_
  repeat (go_big_quiet_step (first
    | (go_at_call 80; exact up_call (HS.out _))
    | (go_at_call 27; exact up_same (HR.out _))))
  refine wpQuiet_nil ?_
  rintro _ ⟨u, rfl⟩
  clear c0 c1 c2 c3 c4 c5 c6 c7 c8 c9 c10 c11 c12 c13 a0 a1 a2 a3
  have V1 := hide (UU.out u)
  clear UU
  generalize u.1 = w2 at *
  obtain ⟨c0, c1, c2, c3, c4, c5, c6, c7, c8, c9, c10, c11, c12, c13, f1⟩ := bk14 V1.out.b1
  obtain ⟨a0, a1, a2, a3, g1⟩ := bk4 V1.out.b2
  go_wp2_with fail
  refine (HP.out _ V1.out.bel).mono ?_
  rintro e w3 ⟨rfl, hb⟩
  have V2 := hide (V1.out.next hb)
  clear c0 c1 c2 c3 c4 c5 c6 c7 c8 c9 c10 c11 c12 c13 f1 a0 a1 a2 a3 g1
  clear hb
  obtain ⟨c0, c1, c2, c3, c4, c5, c6, c7, c8, c9, c10, c11, c12, c13, f1⟩ := bk14 V2.out.b1
  obtain ⟨a0, a1, a2, a3, g1⟩ := bk4 V2.out.b2
  go_wp2_with fail
  refine (mto_any _ A n c B m d t ⟨what, 2, ch, th, ix, kd, v, a, h, ok, ov⟩ 4).mono ?_
  rintro e w9 ⟨rfl, hb⟩
  have V9 := hide (V2.out.next hb)
  clear c0 c1 c2 c3 c4 c5 c6 c7 c8 c9 c10 c11 c12 c13 f1 a0 a1 a2 a3 g1
  clear hb
  have HT := hide (V9.out.b3.there (n := 14) rfl)
  go_wp2_with ((with_reducible show wpList _ _ _ _ _ _); refine wpList_store_res (by rfl) 81 _ _ (by rfl) (w.heap.size + 1 + 1) (Mc.cells A n c B m d t (mto ⟨what, 2, ch, th, ix, kd, v, a, h, ok, ov⟩ 4)) (by rfl) (by rfl) HT.out Tryz.mc_inf (mc_one _ _ _ _ _ _ _ _) ?_; intro wz HZ)
  obtain ⟨fs, hfs⟩ := Tryz.mc_und
  exact ret_stored HZ Tryz.results88 rfl HT.out hfs rfl Tryz.mc_inf rfl ⟨rfl, below_stored HZ V9.out.bel (by omega)⟩

set_option maxHeartbeats 1000000 in
set_option maxRecDepth 100000 in
theorem mpop_3n (w : World) (A : Option Addr) (n c : Nat) (B : Option Addr) (m d : Nat) (t : Int) (what ch th : Nat) (ix kd v tt h ok ov a : Int) (y z : Bool) (LA : Option Addr) (ln lc : Nat) (he : (a != h) = true) :
    Calls Tryz.prog 88 #[.agg (Mc.cells A n c B m d t ⟨what, 3, ch, th, ix, kd, v, tt, h, ok, ov⟩), .agg #[.int .u64 a, .bool y, .bool z, .slice LA ln lc]] w fun e w' => e = .returned (.agg (Mc.cells A n c B m d t (mto ⟨what, 3, ch, th, ix, kd, v, tt, a, ok, ov⟩ 2))) ∧ Below w.heap.size w w' := by
  rw [Mc.cells]
  go_enter Tryz.func88, Tryz.ntmps88
  go_wp2_with fail
  refine (mto_any _ A n c B m d t ⟨what, 3, ch, th, ix, kd, v, tt, a, ok, ov⟩ 2).mono ?_
  rintro e w9 ⟨rfl, hb⟩
  have V9 := hide (E3.of hb)
  clear hb
  have HT := hide (V9.out.b3.there (n := 14) rfl)
  go_wp2_with ((with_reducible show wpList _ _ _ _ _ _); refine wpList_store_res (by rfl) 81 _ _ (by rfl) (w.heap.size + 1 + 1) (Mc.cells A n c B m d t (mto ⟨what, 3, ch, th, ix, kd, v, tt, a, ok, ov⟩ 2)) (by rfl) (by rfl) HT.out Tryz.mc_inf (mc_one _ _ _ _ _ _ _ _) ?_; intro wz HZ)
  obtain ⟨fs, hfs⟩ := Tryz.mc_und
  exact ret_stored HZ Tryz.results88 rfl HT.out hfs rfl Tryz.mc_inf rfl ⟨rfl, below_stored HZ V9.out.bel (by omega)⟩

set_option maxHeartbeats 1000000 in
set_option maxRecDepth 100000 in
theorem mpop_3c (w : World) (A : Option Addr) (n c : Nat) (B : Option Addr) (m d : Nat) (t : Int) (what ch th : Nat) (ix kd v tt h ok ov a : Int) (y z : Bool) (LA : Option Addr) (ln lc : Nat) (he : (a != h) = false) (ha : u64 tt) (hcl : cl tt = true) :
    Calls Tryz.prog 88 #[.agg (Mc.cells A n c B m d t ⟨what, 3, ch, th, ix, kd, v, tt, h, ok, ov⟩), .agg #[.int .u64 a, .bool y, .bool z, .slice LA ln lc]] w fun e w' => e = .returned (.agg (Mc.cells A n c B m d t (mend ⟨what, 3, ch, th, ix, kd, v, tt, h, ok, ov⟩ 5 0))) ∧ Below w.heap.size w w' := by
  have hc := fun W => rclosed_any tt W ha.1 ha.2
  rw [hcl] at hc
  have HC := hide hc
  clear hc hcl ha
  rw [Mc.cells]
  go_enter Tryz.func88, Tryz.ntmps88
  go_wp2_with (first
    | (go_at_call 12; refine (HC.out _).mono ?_; rintro e w' ⟨rfl, rfl⟩))
  refine (mend_any _ A n c B m d t ⟨what, 3, ch, th, ix, kd, v, tt, h, ok, ov⟩ 5 0).mono ?_
  rintro e w9 ⟨rfl, hb⟩
  have V9 := hide (E3.of hb)
  clear hb
  have HT := hide (V9.out.b3.there (n := 14) rfl)
  go_wp2_with ((with_reducible show wpList _ _ _ _ _ _); refine wpList_store_res (by rfl) 81 _ _ (by rfl) (w.heap.size + 1 + 1) (Mc.cells A n c B m d t (mend ⟨what, 3, ch, th, ix, kd, v, tt, h, ok, ov⟩ 5 0)) (by rfl) (by rfl) HT.out Tryz.mc_inf (mc_one _ _ _ _ _ _ _ _) ?_; intro wz HZ)
  obtain ⟨fs, hfs⟩ := Tryz.mc_und
  exact ret_stored HZ Tryz.results88 rfl HT.out hfs rfl Tryz.mc_inf rfl ⟨rfl, below_stored HZ V9.out.bel (by omega)⟩

set_option maxHeartbeats 1000000 in
set_option maxRecDepth 100000 in
theorem mpop_3e (w : World) (A : Option Addr) (n c : Nat) (B : Option Addr) (m d : Nat) (t : Int) (what ch th : Nat) (ix kd v tt h ok ov a : Int) (y z : Bool) (LA : Option Addr) (ln lc : Nat) (he : (a != h) = false) (ha : u64 tt) (hcl : cl tt = false) :
    Calls Tryz.prog 88 #[.agg (Mc.cells A n c B m d t ⟨what, 3, ch, th, ix, kd, v, tt, h, ok, ov⟩), .agg #[.int .u64 a, .bool y, .bool z, .slice LA ln lc]] w fun e w' => e = .returned (.agg (Mc.cells A n c B m d t (mend ⟨what, 3, ch, th, ix, kd, v, tt, h, ok, ov⟩ 3 0))) ∧ Below w.heap.size w w' := by
  have hc := fun W => rclosed_any tt W ha.1 ha.2
  rw [hcl] at hc
  have HC := hide hc
  clear hc hcl ha
  rw [Mc.cells]
  go_enter Tryz.func88, Tryz.ntmps88
  go_wp2_with (first
    | (go_at_call 12; refine (HC.out _).mono ?_; rintro e w' ⟨rfl, rfl⟩))
  refine (mend_any _ A n c B m d t ⟨what, 3, ch, th, ix, kd, v, tt, h, ok, ov⟩ 3 0).mono ?_
  rintro e w9 ⟨rfl, hb⟩
  have V9 := hide (E3.of hb)
  clear hb
  have HT := hide (V9.out.b3.there (n := 14) rfl)
  go_wp2_with ((with_reducible show wpList _ _ _ _ _ _); refine wpList_store_res (by rfl) 81 _ _ (by rfl) (w.heap.size + 1 + 1) (Mc.cells A n c B m d t (mend ⟨what, 3, ch, th, ix, kd, v, tt, h, ok, ov⟩ 3 0)) (by rfl) (by rfl) HT.out Tryz.mc_inf (mc_one _ _ _ _ _ _ _ _) ?_; intro wz HZ)
  obtain ⟨fs, hfs⟩ := Tryz.mc_und
  exact ret_stored HZ Tryz.results88 rfl HT.out hfs rfl Tryz.mc_inf rfl ⟨rfl, below_stored HZ V9.out.bel (by omega)⟩

set_option maxHeartbeats 1000000 in
set_option maxRecDepth 100000 in
theorem mpop_4e (w : World) (A : Option Addr) (n c : Nat) (B : Option Addr) (m d : Nat) (t : Int) (what ch th : Nat) (ix kd v tt h ok ov a : Int) (y z : Bool) (LA : Option Addr) (ln lc : Nat) (r : Int) (hr : nx h 1 = r) (he : (a == r) = true) :
    Calls Tryz.prog 88 #[.agg (Mc.cells A n c B m d t ⟨what, 4, ch, th, ix, kd, v, tt, h, ok, ov⟩), .agg #[.int .u64 a, .bool y, .bool z, .slice LA ln lc]] w fun e w' => e = .returned (.agg (Mc.cells A n c B m d t (mto ⟨what, 4, ch, th, ix, kd, v, tt, h, ok, ov⟩ 5))) ∧ Below w.heap.size w w' := by
  have hnx : ∀ W, Calls Tryz.prog 41 #[.int .u64 h, .int .i64 1] W fun e w' => e = .returned (.int .u64 r) ∧ W = w' := fun W => by rw [← hr]; exact rnext_any _ _ W
  have HX := hide hnx
  clear hnx hr
  rw [Mc.cells]
  go_enter Tryz.func88, Tryz.ntmps88
  go_wp2_with fail
  have U0 := fun (u : Up (((w.alloc (.cells #[.int .i64 (what : Nat), .int .i64 4, .slice A n c, .slice B m d, .int .i64 t, .int .i64 (ch : Nat), .int .i64 (th : Nat), .int .i64 ix, .int .i64 kd, .int .u64 v, .int .u64 tt, .int .u64 h, .int .i64 ok, .int .u64 ov] 81)).alloc (.cells #[.int .u64 a, .bool y, .bool z, .slice LA ln lc] 86)).alloc (.cells #[.int .i64 0, .int .i64 0, .slice none 0 0, .slice none 0 0, .int .i64 0, .int .i64 0, .int .i64 0, .int .i64 0, .int .i64 0, .int .u64 0, .int .u64 0, .int .u64 0, .int .i64 0, .int .u64 0] 81))) => E3.of u.2
  have c0 := fun u => (bk14 (U0 u).b1).1
  have c1 := fun u => (bk14 (U0 u).b1).2.1
  have c2 := fun u => (bk14 (U0 u).b1).2.2.1
  have c3 := fun u => (bk14 (U0 u).b1).2.2.2.1
  have c4 := fun u => (bk14 (U0 u).b1).2.2.2.2.1
  have c5 := fun u => (bk14 (U0 u).b1).2.2.2.2.2.1
  have c6 := fun u => (bk14 (U0 u).b1).2.2.2.2.2.2.1
  have c7 := fun u => (bk14 (U0 u).b1).2.2.2.2.2.2.2.1
  have c8 := fun u => (bk14 (U0 u).b1).2.2.2.2.2.2.2.2.1
  have c9 := fun u => (bk14 (U0 u).b1).2.2.2.2.2.2.2.2.2.1
  have c10 := fun u => (bk14 (U0 u).b1).2.2.2.2.2.2.2.2.2.2.1
  have c11 := fun u => (bk14 (U0 u).b1).2.2.2.2.2.2.2.2.2.2.2.1
  have c12 := fun u => (bk14 (U0 u).b1).2.2.2.2.2.2.2.2.2.2.2.2.1
  have c13 := fun u => (bk14 (U0 u).b1).2.2.2.2.2.2.2.2.2.2.2.2.2.1
  have a0 := fun u => (bk4 (U0 u).b2).1
  have a1 := fun u => (bk4 (U0 u).b2).2.1
  have a2 := fun u => (bk4 (U0 u).b2).2.2.1
  have a3 := fun u => (bk4 (U0 u).b2).2.2.2.1
  have UU := hide U0
  clear U0
  refine wp_region_up (by kernel_rfl) (by kernel_rfl) ?_
  repeat (go_big_quiet_step (first
    | (go_at_call 41; exact up_same (HX.out _))))
  refine wpQuiet_nil ?_
  rintro _ ⟨u, rfl⟩
  clear c0 c1 c2 c3 c4 c5 c6 c7 c8 c9 c10 c11 c12 c13 a0 a1 a2 a3
  have V1 := hide (UU.out u)
  clear UU
  generalize u.1 = w2 at *
  obtain ⟨c0, c1, c2, c3, c4, c5, c6, c7, c8, c9, c10, c11, c12, c13, f1⟩ := bk14 V1.out.b1
  obtain ⟨a0, a1, a2, a3, g1⟩ := bk4 V1.out.b2
  go_wp2_with fail
  refine (mto_any _ A n c B m d t ⟨what, 4, ch, th, ix, kd, v, tt, h, ok, ov⟩ 5).mono ?_
  rintro e w9 ⟨rfl, hb⟩
  have V9 := hide (V1.out.next hb)
  clear c0 c1 c2 c3 c4 c5 c6 c7 c8 c9 c10 c11 c12 c13 f1 a0 a1 a2 a3 g1
  clear hb
  have HT := hide (V9.out.b3.there (n := 14) rfl)
  go_wp2_with ((with_reducible show wpList _ _ _ _ _ _); refine wpList_store_res (by rfl) 81 _ _ (by rfl) (w.heap.size + 1 + 1) (Mc.cells A n c B m d t (mto ⟨what, 4, ch, th, ix, kd, v, tt, h, ok, ov⟩ 5)) (by rfl) (by rfl) HT.out Tryz.mc_inf (mc_one _ _ _ _ _ _ _ _) ?_; intro wz HZ)
  obtain ⟨fs, hfs⟩ := Tryz.mc_und
  exact ret_stored HZ Tryz.results88 rfl HT.out hfs rfl Tryz.mc_inf rfl ⟨rfl, below_stored HZ V9.out.bel (by omega)⟩

set_option maxHeartbeats 1000000 in
set_option maxRecDepth 100000 in
theorem mpop_4n (w : World) (A : Option Addr) (n c : Nat) (B : Option Addr) (m d : Nat) (t : Int) (what ch th : Nat) (ix kd v tt h ok ov a : Int) (y z : Bool) (LA : Option Addr) (ln lc : Nat) (r : Int) (hr : nx h 1 = r) (he : (a == r) = false) :
    Calls Tryz.prog 88 #[.agg (Mc.cells A n c B m d t ⟨what, 4, ch, th, ix, kd, v, tt, h, ok, ov⟩), .agg #[.int .u64 a, .bool y, .bool z, .slice LA ln lc]] w fun e w' => e = .returned (.agg (Mc.cells A n c B m d t (mto ⟨what, 4, ch, th, ix, kd, v, tt, h, ok, ov⟩ 1))) ∧ Below w.heap.size w w' := by
  have hnx : ∀ W, Calls Tryz.prog 41 #[.int .u64 h, .int .i64 1] W fun e w' => e = .returned (.int .u64 r) ∧ W = w' := fun W => by rw [← hr]; exact rnext_any _ _ W
  have HX := hide hnx
  clear hnx hr
  rw [Mc.cells]
  go_enter Tryz.func88, Tryz.ntmps88
  go_wp2_with fail
  have U0 := fun (u : Up (((w.alloc (.cells #[.int .i64 (what : Nat), .int .i64 4, .slice A n c, .slice B m d, .int .i64 t, .int .i64 (ch : Nat), .int .i64 (th : Nat), .int .i64 ix, .int .i64 kd, .int .u64 v, .int .u64 tt, .int .u64 h, .int .i64 ok, .int .u64 ov] 81)).alloc (.cells #[.int .u64 a, .bool y, .bool z, .slice LA ln lc] 86)).alloc (.cells #[.int .i64 0, .int .i64 0, .slice none 0 0, .slice none 0 0, .int .i64 0, .int .i64 0, .int .i64 0, .int .i64 0, .int .i64 0, .int .u64 0, .int .u64 0, .int .u64 0, .int .i64 0, .int .u64 0] 81))) => E3.of u.2
  have c0 := fun u => (bk14 (U0 u).b1).1
  have c1 := fun u => (bk14 (U0 u).b1).2.1
  have c2 := fun u => (bk14 (U0 u).b1).2.2.1
  have c3 := fun u => (bk14 (U0 u).b1).2.2.2.1
  have c4 := fun u => (bk14 (U0 u).b1).2.2.2.2.1
  have c5 := fun u => (bk14 (U0 u).b1).2.2.2.2.2.1
  have c6 := fun u => (bk14 (U0 u).b1).2.2.2.2.2.2.1
  have c7 := fun u => (bk14 (U0 u).b1).2.2.2.2.2.2.2.1
  have c8 := fun u => (bk14 (U0 u).b1).2.2.2.2.2.2.2.2.1
  have c9 := fun u => (bk14 (U0 u).b1).2.2.2.2.2.2.2.2.2.1
  have c10 := fun u => (bk14 (U0 u).b1).2.2.2.2.2.2.2.2.2.2.1
  have c11 := fun u => (bk14 (U0 u).b1).2.2.2.2.2.2.2.2.2.2.2.1
  have c12 := fun u => (bk14 (U0 u).b1).2.2.2.2.2.2.2.2.2.2.2.2.1
  have c13 := fun u => (bk14 (U0 u).b1).2.2.2.2.2.2.2.2.2.2.2.2.2.1
  have a0 := fun u => (bk4 (U0 u).b2).1
  have a1 := fun u => (bk4 (U0 u).b2).2.1
  have a2 := fun u => (bk4 (U0 u).b2).2.2.1
  have a3 := fun u => (bk4 (U0 u).b2).2.2.2.1
  have UU := hide U0
  clear U0
  refine wp_region_up (by kernel_rfl) (by kernel_rfl) ?_
  repeat (go_big_quiet_step (first
    | (go_at_call 41; exact up_same (HX.out _))))
  refine wpQuiet_nil ?_
  rintro _ ⟨u, rfl⟩
  clear c0 c1 c2 c3 c4 c5 c6 c7 c8 c9 c10 c11 c12 c13 a0 a1 a2 a3
  have V1 := hide (UU.out u)
  clear UU
  generalize u.1 = w2 at *
  obtain ⟨c0, c1, c2, c3, c4, c5, c6, c7, c8, c9, c10, c11, c12, c13, f1⟩ := bk14 V1.out.b1
  obtain ⟨a0, a1, a2, a3, g1⟩ := bk4 V1.out.b2
  go_wp2_with fail
  refine (mto_any _ A n c B m d t ⟨what, 4, ch, th, ix, kd, v, tt, h, ok, ov⟩ 1).mono ?_
  rintro e w9 ⟨rfl, hb⟩
  have V9 := hide (V1.out.next hb)
  clear c0 c1 c2 c3 c4 c5 c6 c7 c8 c9 c10 c11 c12 c13 f1 a0 a1 a2 a3 g1
  clear hb
  have HT := hide (V9.out.b3.there (n := 14) rfl)
  go_wp2_with ((with_reducible show wpList _ _ _ _ _ _); refine wpList_store_res (by rfl) 81 _ _ (by rfl) (w.heap.size + 1 + 1) (Mc.cells A n c B m d t (mto ⟨what, 4, ch, th, ix, kd, v, tt, h, ok, ov⟩ 1)) (by rfl) (by rfl) HT.out Tryz.mc_inf (mc_one _ _ _ _ _ _ _ _) ?_; intro wz HZ)
  obtain ⟨fs, hfs⟩ := Tryz.mc_und
  exact ret_stored HZ Tryz.results88 rfl HT.out hfs rfl Tryz.mc_inf rfl ⟨rfl, below_stored HZ V9.out.bel (by omega)⟩

set_option maxHeartbeats 1000000 in
set_option maxRecDepth 100000 in
theorem mpop_5y (w : World) (A : Option Addr) (n c : Nat) (B : Option Addr) (m d : Nat) (t : Int) (what ch th : Nat) (ix kd v tt h ok ov a : Int) (z : Bool) (LA : Option Addr) (ln lc : Nat) :
    Calls Tryz.prog 88 #[.agg (Mc.cells A n c B m d t ⟨what, 5, ch, th, ix, kd, v, tt, h, ok, ov⟩), .agg #[.int .u64 a, .bool true, .bool z, .slice LA ln lc]] w fun e w' => e = .returned (.agg (Mc.cells A n c B m d t (mto ⟨what, 5, ch, th, ix, kd, v, tt, h, ok, ov⟩ 6))) ∧ Below w.heap.size w w' := by
  rw [Mc.cells]
  go_enter Tryz.func88, Tryz.ntmps88
  go_wp2_with fail
  refine (mto_any _ A n c B m d t ⟨what, 5, ch, th, ix, kd, v, tt, h, ok, ov⟩ 6).mono ?_
  rintro e w9 ⟨rfl, hb⟩
  have V9 := hide (E3.of hb)
  clear hb
  have HT := hide (V9.out.b3.there (n := 14) rfl)
  go_wp2_with ((with_reducible show wpList _ _ _ _ _ _); refine wpList_store_res (by rfl) 81 _ _ (by rfl) (w.heap.size + 1 + 1) (Mc.cells A n c B m d t (mto ⟨what, 5, ch, th, ix, kd, v, tt, h, ok, ov⟩ 6)) (by rfl) (by rfl) HT.out Tryz.mc_inf (mc_one _ _ _ _ _ _ _ _) ?_; intro wz HZ)
  obtain ⟨fs, hfs⟩ := Tryz.mc_und
  exact ret_stored HZ Tryz.results88 rfl HT.out hfs rfl Tryz.mc_inf rfl ⟨rfl, below_stored HZ V9.out.bel (by omega)⟩

set_option maxHeartbeats 1000000 in
set_option maxRecDepth 100000 in
theorem mpop_5n (w : World) (A : Option Addr) (n c : Nat) (B : Option Addr) (m d : Nat) (t : Int) (what ch th : Nat) (ix kd v tt h ok ov a : Int) (z : Bool) (LA : Option Addr) (ln lc : Nat) :
    Calls Tryz.prog 88 #[.agg (Mc.cells A n c B m d t ⟨what, 5, ch, th, ix, kd, v, tt, h, ok, ov⟩), .agg #[.int .u64 a, .bool false, .bool z, .slice LA ln lc]] w fun e w' => e = .returned (.agg (Mc.cells A n c B m d t (mto ⟨what, 5, ch, th, ix, kd, v, tt, h, ok, ov⟩ 1))) ∧ Below w.heap.size w w' := by
  rw [Mc.cells]
  go_enter Tryz.func88, Tryz.ntmps88
  go_wp2_with fail
  refine (mto_any _ A n c B m d t ⟨what, 5, ch, th, ix, kd, v, tt, h, ok, ov⟩ 1).mono ?_
  rintro e w9 ⟨rfl, hb⟩
  have V9 := hide (E3.of hb)
  clear hb
  have HT := hide (V9.out.b3.there (n := 14) rfl)
  go_wp2_with ((with_reducible show wpList _ _ _ _ _ _); refine wpList_store_res (by rfl) 81 _ _ (by rfl) (w.heap.size + 1 + 1) (Mc.cells A n c B m d t (mto ⟨what, 5, ch, th, ix, kd, v, tt, h, ok, ov⟩ 1)) (by rfl) (by rfl) HT.out Tryz.mc_inf (mc_one _ _ _ _ _ _ _ _) ?_; intro wz HZ)
  obtain ⟨fs, hfs⟩ := Tryz.mc_und
  exact ret_stored HZ Tryz.results88 rfl HT.out hfs rfl Tryz.mc_inf rfl ⟨rfl, below_stored HZ V9.out.bel (by omega)⟩

set_option maxHeartbeats 1000000 in
set_option maxRecDepth 100000 in
theorem mpop_6 (w : World) (A : Option Addr) (n c : Nat) (B : Option Addr) (m d : Nat) (t : Int) (what ch th : Nat) (ix kd v tt h ok ov a : Int) (y z : Bool) (LA : Option Addr) (ln lc : Nat) :
    Calls Tryz.prog 88 #[.agg (Mc.cells A n c B m d t ⟨what, 6, ch, th, ix, kd, v, tt, h, ok, ov⟩), .agg #[.int .u64 a, .bool y, .bool z, .slice LA ln lc]] w fun e w' => e = .returned (.agg (Mc.cells A n c B m d t (mto ⟨what, 6, ch, th, ix, kd, a, tt, h, ok, ov⟩ 7))) ∧ Below w.heap.size w w' := by
  rw [Mc.cells]
  go_enter Tryz.func88, Tryz.ntmps88
  go_wp2_with fail
  refine (mto_any _ A n c B m d t ⟨what, 6, ch, th, ix, kd, a, tt, h, ok, ov⟩ 7).mono ?_
  rintro e w9 ⟨rfl, hb⟩
  have V9 := hide (E3.of hb)
  clear hb
  have HT := hide (V9.out.b3.there (n := 14) rfl)
  go_wp2_with ((with_reducible show wpList _ _ _ _ _ _); refine wpList_store_res (by rfl) 81 _ _ (by rfl) (w.heap.size + 1 + 1) (Mc.cells A n c B m d t (mto ⟨what, 6, ch, th, ix, kd, a, tt, h, ok, ov⟩ 7)) (by rfl) (by rfl) HT.out Tryz.mc_inf (mc_one _ _ _ _ _ _ _ _) ?_; intro wz HZ)
  obtain ⟨fs, hfs⟩ := Tryz.mc_und
  exact ret_stored HZ Tryz.results88 rfl HT.out hfs rfl Tryz.mc_inf rfl ⟨rfl, below_stored HZ V9.out.bel (by omega)⟩

set_option maxHeartbeats 1000000 in
set_option maxRecDepth 100000 in
theorem mpop_7 (w : World) (A : Option Addr) (n c : Nat) (B : Option Addr) (m d : Nat) (t : Int) (what ch th : Nat) (ix kd v tt h ok ov a : Int) (y z : Bool) (LA : Option Addr) (ln lc : Nat) :
    Calls Tryz.prog 88 #[.agg (Mc.cells A n c B m d t ⟨what, 7, ch, th, ix, kd, v, tt, h, ok, ov⟩), .agg #[.int .u64 a, .bool y, .bool z, .slice LA ln lc]] w fun e w' => e = .returned (.agg (Mc.cells A n c B m d t (mend ⟨what, 7, ch, th, ix, kd, v, tt, h, ok, ov⟩ 6 v))) ∧ Below w.heap.size w w' := by
  rw [Mc.cells]
  go_enter Tryz.func88, Tryz.ntmps88
  go_wp2_with fail
  refine (mend_any _ A n c B m d t ⟨what, 7, ch, th, ix, kd, v, tt, h, ok, ov⟩ 6 v).mono ?_
  rintro e w9 ⟨rfl, hb⟩
  have V9 := hide (E3.of hb)
  clear hb
  have HT := hide (V9.out.b3.there (n := 14) rfl)
  go_wp2_with ((with_reducible show wpList _ _ _ _ _ _); refine wpList_store_res (by rfl) 81 _ _ (by rfl) (w.heap.size + 1 + 1) (Mc.cells A n c B m d t (mend ⟨what, 7, ch, th, ix, kd, v, tt, h, ok, ov⟩ 6 v)) (by rfl) (by rfl) HT.out Tryz.mc_inf (mc_one _ _ _ _ _ _ _ _) ?_; intro wz HZ)
  obtain ⟨fs, hfs⟩ := Tryz.mc_und
  exact ret_stored HZ Tryz.results88 rfl HT.out hfs rfl Tryz.mc_inf rfl ⟨rfl, below_stored HZ V9.out.bel (by omega)⟩
end Go.Proofs.YtepngbdjobckbaaGreat
end
section
section
namespace Go.Proofs.YtepngbdjobckbaaGreat
open Go.RowKit
set_option linter.unusedVariables false

theorem below3 (w : World) (o1 o2 o3 : Obj) : Below w.heap.size w (((w.alloc o1).alloc o2).alloc o3) := ((below_new _ _).alloc (by simp) _).alloc (by simp; omega) _
theorem bnot {b : Bool} (h : ¬ b = true) : b = false := by simpa using h
theorem mshut_any (w : World) (A : Option Addr) (n c : Nat) (B : Option Addr) (m d : Nat) (t : Int) (what ch th : Nat) (ix kd v tt h ok ov a : Int) (y z : Bool) (LA : Option Addr) (ln lc : Nat) (l : List Int) (hcf : Cf w A n l) (hch : ch < n) (at_ : Nat) (hat : at_ ≠ 0) (h7 : at_ ≤ 2) (ha : u64 a) (ht : u64 tt) :
    Calls Tryz.prog 89 #[.agg (Mc.cells A n c B m d t ⟨what, at_, ch, th, ix, kd, v, tt, h, ok, ov⟩), .agg #[.int .u64 a, .bool y, .bool z, .slice LA ln lc]] w fun e w' => e = .returned (.agg (Mc.cells A n c B m d t (mshut ⟨what, at_, ch, th, ix, kd, v, tt, h, ok, ov⟩ a y))) ∧ Below w.heap.size w w' := by
  have h12 : at_ = 1 ∨ at_ = 2 := by omega
  rcases h12 with rfl | rfl
  · cases hcl : cl a
    · rw [show mshut ⟨what, 1, ch, th, ix, kd, v, tt, h, ok, ov⟩ a y = mto ⟨what, 1, ch, th, ix, kd, v, a, h, ok, ov⟩ 2 by simp [mshut, hcl]]
      exact mshut_1n w A n c B m d t what ch th ix kd v tt h ok ov a y z LA ln lc ha hcl
    · rw [show mshut ⟨what, 1, ch, th, ix, kd, v, tt, h, ok, ov⟩ a y = mend ⟨what, 1, ch, th, ix, kd, v, a, h, ok, ov⟩ 4 0 by simp [mshut, hcl]]
      exact mshut_1c w A n c B m d t what ch th ix kd v tt h ok ov a y z LA ln lc ha hcl
  · cases y
    · rw [show mshut ⟨what, 2, ch, th, ix, kd, v, tt, h, ok, ov⟩ a false = mto ⟨what, 2, ch, th, ix, kd, v, tt, h, ok, ov⟩ 1 by simp [mshut]]
      exact mshut_2n w A n c B m d t what ch th ix kd v tt h ok ov a z LA ln lc
    · rw [show mshut ⟨what, 2, ch, th, ix, kd, v, tt, h, ok, ov⟩ a true = mend ⟨what, 2, ch, th, ix, kd, v, tt, h, ok, ov⟩ 1 0 by simp [mshut]]
      exact mshut_2y w A n c B m d t what ch th ix kd v tt h ok ov a z LA ln lc
theorem mcount_any (w : World) (A : Option Addr) (n c : Nat) (B : Option Addr) (m d : Nat) (t : Int) (what ch th : Nat) (ix kd v tt h ok ov a : Int) (y z : Bool) (LA : Option Addr) (ln lc : Nat) (l : List Int) (hcf : Cf w A n l) (hch : ch < n) (at_ : Nat) (hat : at_ ≠ 0) (h7 : at_ ≤ 3) (ha : u64 a) (ht : u64 tt) :
    Calls Tryz.prog 90 #[.agg (Mc.cells A n c B m d t ⟨what, at_, ch, th, ix, kd, v, tt, h, ok, ov⟩), .agg #[.int .u64 a, .bool y, .bool z, .slice LA ln lc]] w fun e w' => e = .returned (.agg (Mc.cells A n c B m d t (mcount ⟨what, at_, ch, th, ix, kd, v, tt, h, ok, ov⟩ a))) ∧ Below w.heap.size w w' := by
  have h12 : at_ = 1 ∨ at_ = 2 ∨ at_ = 3 := by omega
  rcases h12 with rfl | rfl | rfl
  · rw [show mcount ⟨what, 1, ch, th, ix, kd, v, tt, h, ok, ov⟩ a = mto ⟨what, 1, ch, th, ix, kd, v, a, h, ok, ov⟩ 2 by simp [mcount]]
    exact mcount_1 w A n c B m d t what ch th ix kd v tt h ok ov a y z LA ln lc
  · rw [show mcount ⟨what, 2, ch, th, ix, kd, v, tt, h, ok, ov⟩ a = mto ⟨what, 2, ch, th, ix, kd, v, tt, a, ok, ov⟩ 3 by simp [mcount]]
    exact mcount_2 w A n c B m d t what ch th ix kd v tt h ok ov a y z LA ln lc
  · by_cases he : a = tt
    · rw [show mcount ⟨what, 3, ch, th, ix, kd, v, tt, h, ok, ov⟩ a = mend ⟨what, 3, ch, th, ix, kd, v, tt, h, ok, ov⟩ 9 (rest (tt / 2) h) by simp [mcount, he]]
      exact mcount_3e w A n c B m d t what ch th ix kd v tt h ok ov a y z LA ln lc _ (by simpa using he) rfl
    · rw [show mcount ⟨what, 3, ch, th, ix, kd, v, tt, h, ok, ov⟩ a = mto ⟨what, 3, ch, th, ix, kd, v, a, h, ok, ov⟩ 2 by simp [mcount, he]]
      exact mcount_3n w A n c B m d t what ch th ix kd v tt h ok ov a y z LA ln lc (by simpa using he)
theorem mpush_any (w : World) (A : Option Addr) (n c : Nat) (B : Option Addr) (m d : Nat) (t : Int) (what ch th : Nat) (ix kd v tt h ok ov a : Int) (y z : Bool) (LA : Option Addr) (ln lc : Nat) (l : List Int) (hcf : Cf w A n l) (hch : ch < n) (at_ : Nat) (hat : at_ ≠ 0) (h7 : at_ ≤ 7) (ha : u64 a) (ht : u64 tt) :
    Calls Tryz.prog 87 #[.agg (Mc.cells A n c B m d t ⟨what, at_, ch, th, ix, kd, v, tt, h, ok, ov⟩), .agg #[.int .u64 a, .bool y, .bool z, .slice LA ln lc]] w fun e w' => e = .returned (.agg (Mc.cells A n c B m d t (mpush (l.getD ch 0) ⟨what, at_, ch, th, ix, kd, v, tt, h, ok, ov⟩ a y))) ∧ Below w.heap.size w w' := by
  have h12 : at_ = 1 ∨ at_ = 2 ∨ at_ = 3 ∨ at_ = 4 ∨ at_ = 5 ∨ at_ = 6 ∨ at_ = 7 := by omega
  rcases h12 with rfl | rfl | rfl | rfl | rfl | rfl | rfl
  · cases hcl : cl a
    · rw [show mpush (l.getD ch 0) ⟨what, 1, ch, th, ix, kd, v, tt, h, ok, ov⟩ a y = mto ⟨what, 1, ch, th, ix, kd, v, a, h, ok, ov⟩ 2 by simp [mpush, hcl]]
      exact mpush_1n w A n c B m d t what ch th ix kd v tt h ok ov a y z LA ln lc ha hcl
    · rw [show mpush (l.getD ch 0) ⟨what, 1, ch, th, ix, kd, v, tt, h, ok, ov⟩ a y = mend ⟨what, 1, ch, th, ix, kd, v, a, h, ok, ov⟩ 4 0 by simp [mpush, hcl]]
      exact mpush_1c w A n c B m d t what ch th ix kd v tt h ok ov a y z LA ln lc ha hcl
  · by_cases he : rest (tt / 2) a = l.getD ch 0
    · rw [show mpush (l.getD ch 0) ⟨what, 2, ch, th, ix, kd, v, tt, h, ok, ov⟩ a y = mto ⟨what, 2, ch, th, ix, kd, v, tt, h, ok, ov⟩ 3 by simp only [mpush, if_pos he]]
      exact mpush_2e w A n c B m d t what ch th ix kd v tt h ok ov a y z LA ln lc l hcf hch _ _ rfl rfl (by simpa using he)
    · by_cases hg : l.getD ch 0 < rest (tt / 2) a
      · rw [show mpush (l.getD ch 0) ⟨what, 2, ch, th, ix, kd, v, tt, h, ok, ov⟩ a y = mto ⟨what, 2, ch, th, ix, kd, v, tt, h, ok, ov⟩ 1 by simp only [mpush, if_neg he, if_pos hg]]
        exact mpush_2g w A n c B m d t what ch th ix kd v tt h ok ov a y z LA ln lc l hcf hch _ _ rfl rfl (by simpa using he) (by simpa using hg)
      · rw [show mpush (l.getD ch 0) ⟨what, 2, ch, th, ix, kd, v, tt, h, ok, ov⟩ a y = mto ⟨what, 2, ch, th, ix, kd, v, tt, h, ok, ov⟩ 4 by simp only [mpush, if_neg he, if_neg hg]]
        exact mpush_2l w A n c B m d t what ch th ix kd v tt h ok ov a y z LA ln lc l hcf hch _ _ rfl rfl (by simpa using he) (by simpa using hg)
  · by_cases he : a = tt
    · rw [show mpush (l.getD ch 0) ⟨what, 3, ch, th, ix, kd, v, tt, h, ok, ov⟩ a y = mend ⟨what, 3, ch, th, ix, kd, v, tt, h, ok, ov⟩ 2 0 by simp [mpush, he]]
      exact mpush_3e w A n c B m d t what ch th ix kd v tt h ok ov a y z LA ln lc (by simpa using he)
    · cases hcl : cl a
      · rw [show mpush (l.getD ch 0) ⟨what, 3, ch, th, ix, kd, v, tt, h, ok, ov⟩ a y = mto ⟨what, 3, ch, th, ix, kd, v, a, h, ok, ov⟩ 2 by simp [mpush, he, hcl]]
        exact mpush_3n w A n c B m d t what ch th ix kd v tt h ok ov a y z LA ln lc (by simpa using he) ha hcl
      · rw [show mpush (l.getD ch 0) ⟨what, 3, ch, th, ix, kd, v, tt, h, ok, ov⟩ a y = mend ⟨what, 3, ch, th, ix, kd, v, a, h, ok, ov⟩ 4 0 by simp [mpush, he, hcl]]
        exact mpush_3c w A n c B m d t what ch th ix kd v tt h ok ov a y z LA ln lc (by simpa using he) ha hcl
  · by_cases he : a = tt / 2
    · rw [show mpush (l.getD ch 0) ⟨what, 4, ch, th, ix, kd, v, tt, h, ok, ov⟩ a y = mto ⟨what, 4, ch, th, ix, kd, v, tt, h, ok, ov⟩ 5 by simp [mpush, ← he]]
      exact mpush_4e w A n c B m d t what ch th ix kd v tt h ok ov a y z LA ln lc (by simpa using he)
    · rw [show mpush (l.getD ch 0) ⟨what, 4, ch, th, ix, kd, v, tt, h, ok, ov⟩ a y = mto ⟨what, 4, ch, th, ix, kd, v, tt, h, ok, ov⟩ 1 by simp [mpush, he]]
      exact mpush_4n w A n c B m d t what ch th ix kd v tt h ok ov a y z LA ln lc (by simpa using he)
  · cases y
    · rw [show mpush (l.getD ch 0) ⟨what, 5, ch, th, ix, kd, v, tt, h, ok, ov⟩ a false = mto ⟨what, 5, ch, th, ix, kd, v, tt, h, ok, ov⟩ 1 by simp [mpush]]
      exact mpush_5n w A n c B m d t what ch th ix kd v tt h ok ov a z LA ln lc
    · rw [show mpush (l.getD ch 0) ⟨what, 5, ch, th, ix, kd, v, tt, h, ok, ov⟩ a true = mto ⟨what, 5, ch, th, ix, kd, v, tt, h, ok, ov⟩ 6 by simp [mpush]]
      exact mpush_5y w A n c B m d t what ch th ix kd v tt h ok ov a z LA ln lc
  · rw [show mpush (l.getD ch 0) ⟨what, 6, ch, th, ix, kd, v, tt, h, ok, ov⟩ a y = mto ⟨what, 6, ch, th, ix, kd, v, tt, h, ok, ov⟩ 7 by simp [mpush]]
    exact mpush_6 w A n c B m d t what ch th ix kd v tt h ok ov a y z LA ln lc
  · rw [show mpush (l.getD ch 0) ⟨what, 7, ch, th, ix, kd, v, tt, h, ok, ov⟩ a y = mend ⟨what, 7, ch, th, ix, kd, v, tt, h, ok, ov⟩ 1 0 by simp [mpush]]
    exact mpush_7 w A n c B m d t what ch th ix kd v tt h ok ov a y z LA ln lc
theorem mpop_any (w : World) (A : Option Addr) (n c : Nat) (B : Option Addr) (m d : Nat) (t : Int) (what ch th : Nat) (ix kd v tt h ok ov a : Int) (y z : Bool) (LA : Option Addr) (ln lc : Nat) (l : List Int) (hcf : Cf w A n l) (hch : ch < n) (at_ : Nat) (hat : at_ ≠ 0) (h7 : at_ ≤ 7) (ha : u64 a) (ht : u64 tt) :
    Calls Tryz.prog 88 #[.agg (Mc.cells A n c B m d t ⟨what, at_, ch, th, ix, kd, v, tt, h, ok, ov⟩), .agg #[.int .u64 a, .bool y, .bool z, .slice LA ln lc]] w fun e w' => e = .returned (.agg (Mc.cells A n c B m d t (mpop (l.getD ch 0) ⟨what, at_, ch, th, ix, kd, v, tt, h, ok, ov⟩ a y))) ∧ Below w.heap.size w w' := by
  have h12 : at_ = 1 ∨ at_ = 2 ∨ at_ = 3 ∨ at_ = 4 ∨ at_ = 5 ∨ at_ = 6 ∨ at_ = 7 := by omega
  rcases h12 with rfl | rfl | rfl | rfl | rfl | rfl | rfl
  · rw [show mpop (l.getD ch 0) ⟨what, 1, ch, th, ix, kd, v, tt, h, ok, ov⟩ a y = mto ⟨what, 1, ch, th, ix, kd, v, tt, a, ok, ov⟩ 2 by simp [mpop]]
    exact mpop_1 w A n c B m d t what ch th ix kd v tt h ok ov a y z LA ln lc
  · by_cases he : rest (a / 2) h = 0
    · rw [show mpop (l.getD ch 0) ⟨what, 2, ch, th, ix, kd, v, tt, h, ok, ov⟩ a y = mto ⟨what, 2, ch, th, ix, kd, v, a, h, ok, ov⟩ 3 by simp [mpop, he]]
      exact mpop_2z w A n c B m d t what ch th ix kd v tt h ok ov a y z LA ln lc _ rfl (by simpa using he)
    · by_cases hg : l.getD ch 0 < rest (a / 2) h
      · rw [show mpop (l.getD ch 0) ⟨what, 2, ch, th, ix, kd, v, tt, h, ok, ov⟩ a y = mto ⟨what, 2, ch, th, ix, kd, v, a, h, ok, ov⟩ 1 by simp only [mpop, if_neg he, if_pos hg]]
        exact mpop_2g w A n c B m d t what ch th ix kd v tt h ok ov a y z LA ln lc l hcf hch _ _ rfl rfl (by simpa using he) (by simpa using hg)
      · rw [show mpop (l.getD ch 0) ⟨what, 2, ch, th, ix, kd, v, tt, h, ok, ov⟩ a y = mto ⟨what, 2, ch, th, ix, kd, v, a, h, ok, ov⟩ 4 by simp only [mpop, if_neg he, if_neg hg]]
        exact mpop_2l w A n c B m d t what ch th ix kd v tt h ok ov a y z LA ln lc l hcf hch _ _ rfl rfl (by simpa using he) (by simpa using hg)
  · by_cases he : a = h
    · cases hcl : cl tt
      · rw [show mpop (l.getD ch 0) ⟨what, 3, ch, th, ix, kd, v, tt, h, ok, ov⟩ a y = mend ⟨what, 3, ch, th, ix, kd, v, tt, h, ok, ov⟩ 3 0 by simp [mpop, he, hcl]]
        exact mpop_3e w A n c B m d t what ch th ix kd v tt h ok ov a y z LA ln lc (by simpa using he) ht hcl
      · rw [show mpop (l.getD ch 0) ⟨what, 3, ch, th, ix, kd, v, tt, h, ok, ov⟩ a y = mend ⟨what, 3, ch, th, ix, kd, v, tt, h, ok, ov⟩ 5 0 by simp [mpop, he, hcl]]
        exact mpop_3c w A n c B m d t what ch th ix kd v tt h ok ov a y z LA ln lc (by simpa using he) ht hcl
    · rw [show mpop (l.getD ch 0) ⟨what, 3, ch, th, ix, kd, v, tt, h, ok, ov⟩ a y = mto ⟨what, 3, ch, th, ix, kd, v, tt, a, ok, ov⟩ 2 by simp [mpop, he]]
      exact mpop_3n w A n c B m d t what ch th ix kd v tt h ok ov a y z LA ln lc (by simpa using he)
  · by_cases he : a = nx h 1
    · rw [show mpop (l.getD ch 0) ⟨what, 4, ch, th, ix, kd, v, tt, h, ok, ov⟩ a y = mto ⟨what, 4, ch, th, ix, kd, v, tt, h, ok, ov⟩ 5 by simp [mpop, ← he]]
      exact mpop_4e w A n c B m d t what ch th ix kd v tt h ok ov a y z LA ln lc _ rfl (by simpa using he)
    · rw [show mpop (l.getD ch 0) ⟨what, 4, ch, th, ix, kd, v, tt, h, ok, ov⟩ a y = mto ⟨what, 4, ch, th, ix, kd, v, tt, h, ok, ov⟩ 1 by simp [mpop, he]]
      exact mpop_4n w A n c B m d t what ch th ix kd v tt h ok ov a y z LA ln lc _ rfl (by simpa using he)
  · cases y
    · rw [show mpop (l.getD ch 0) ⟨what, 5, ch, th, ix, kd, v, tt, h, ok, ov⟩ a false = mto ⟨what, 5, ch, th, ix, kd, v, tt, h, ok, ov⟩ 1 by simp [mpop]]
      exact mpop_5n w A n c B m d t what ch th ix kd v tt h ok ov a z LA ln lc
    · rw [show mpop (l.getD ch 0) ⟨what, 5, ch, th, ix, kd, v, tt, h, ok, ov⟩ a true = mto ⟨what, 5, ch, th, ix, kd, v, tt, h, ok, ov⟩ 6 by simp [mpop]]
      exact mpop_5y w A n c B m d t what ch th ix kd v tt h ok ov a z LA ln lc
  · rw [show mpop (l.getD ch 0) ⟨what, 6, ch, th, ix, kd, v, tt, h, ok, ov⟩ a y = mto ⟨what, 6, ch, th, ix, kd, a, tt, h, ok, ov⟩ 7 by simp [mpop]]
    exact mpop_6 w A n c B m d t what ch th ix kd v tt h ok ov a y z LA ln lc
  · rw [show mpop (l.getD ch 0) ⟨what, 7, ch, th, ix, kd, v, tt, h, ok, ov⟩ a y = mend ⟨what, 7, ch, th, ix, kd, v, tt, h, ok, ov⟩ 6 v by simp [mpop]]
    exact mpop_7 w A n c B m d t what ch th ix kd v tt h ok ov a y z LA ln lc
end Go.Proofs.YtepngbdjobckbaaGreat
end
section
namespace Go.Proofs.YtepngbdjobckbaaGreat
open Go.RowKit
set_option linter.unusedVariables false
attribute [local irreducible] Go.bits

set_option maxHeartbeats 1000000 in
set_option maxRecDepth 100000 in
theorem mres_3 (w : World) (A : Option Addr) (n c : Nat) (B : Option Addr) (m d : Nat) (t : Int) (at_ ch th : Nat) (ix kd v tt h ok ov a : Int) (y z : Bool) (LA : Option Addr) (ln lc : Nat) (hat : ((at_ : Int) == 0) = false) (l : List Int) (hcf : Cf w A n l) (hch : ch < n) (h7 : at_ ≤ 7) (ha : u64 a) (ht : u64 tt) :
    Calls Tryz.prog 54 #[.agg (Mc.cells A n c B m d t ⟨3, at_, ch, th, ix, kd, v, tt, h, ok, ov⟩), .agg #[.int .u64 a, .bool y, .bool z, .slice LA ln lc]] w fun e w' => e = .returned (.agg (Mc.cells A n c B m d t (mpush (l.getD ch 0) ⟨3, at_, ch, th, ix, kd, v, tt, h, ok, ov⟩ a y))) ∧ Below w.heap.size w w' := by
  have hp : ∀ W, Below w.heap.size w W → Calls Tryz.prog 87 #[.agg (Mc.cells A n c B m d t ⟨3, at_, ch, th, ix, kd, v, tt, h, ok, ov⟩), .agg #[.int .u64 a, .bool y, .bool z, .slice LA ln lc]] W fun e w' => e = .returned (.agg (Mc.cells A n c B m d t (mpush (l.getD ch 0) ⟨3, at_, ch, th, ix, kd, v, tt, h, ok, ov⟩ a y))) ∧ Below W.heap.size W w' := fun W hW => mpush_any W A n c B m d t 3 ch th ix kd v tt h ok ov a y z LA ln lc l (hcf.below hW) hch at_ (by simpa using hat) h7 ha ht
  have HP := hide hp
  clear hp hcf ha ht
  rw [Mc.cells]
  go_enter Tryz.func54, Tryz.ntmps54
  go_wp2_with fail
  refine (HP.out _ (below3 _ _ _ _)).mono ?_
  rintro e w9 ⟨rfl, hb⟩
  have V9 := hide (E3.of hb)
  clear hb
  have HT := hide (V9.out.b3.there (n := 14) rfl)
  go_wp2_with ((with_reducible show wpList _ _ _ _ _ _); refine wpList_store_res (by rfl) 81 _ _ (by rfl) (w.heap.size + 1 + 1) (Mc.cells A n c B m d t (mpush (l.getD ch 0) ⟨3, at_, ch, th, ix, kd, v, tt, h, ok, ov⟩ a y)) (by rfl) (by rfl) HT.out Tryz.mc_inf (mc_one _ _ _ _ _ _ _ _) ?_; intro wz HZ)
  obtain ⟨fs, hfs⟩ := Tryz.mc_und
  exact ret_stored HZ Tryz.results54 rfl HT.out hfs rfl Tryz.mc_inf rfl ⟨rfl, below_stored HZ V9.out.bel (by omega)⟩

set_option maxHeartbeats 1000000 in
set_option maxRecDepth 100000 in
theorem mres_4 (w : World) (A : Option Addr) (n c : Nat) (B : Option Addr) (m d : Nat) (t : Int) (at_ ch th : Nat) (ix kd v tt h ok ov a : Int) (y z : Bool) (LA : Option Addr) (ln lc : Nat) (hat : ((at_ : Int) == 0) = false) (l : List Int) (hcf : Cf w A n l) (hch : ch < n) (h7 : at_ ≤ 7) (ha : u64 a) (ht : u64 tt) :
    Calls Tryz.prog 54 #[.agg (Mc.cells A n c B m d t ⟨4, at_, ch, th, ix, kd, v, tt, h, ok, ov⟩), .agg #[.int .u64 a, .bool y, .bool z, .slice LA ln lc]] w fun e w' => e = .returned (.agg (Mc.cells A n c B m d t (mpop (l.getD ch 0) ⟨4, at_, ch, th, ix, kd, v, tt, h, ok, ov⟩ a y))) ∧ Below w.heap.size w w' := by
  have hp : ∀ W, Below w.heap.size w W → Calls Tryz.prog 88 #[.agg (Mc.cells A n c B m d t ⟨4, at_, ch, th, ix, kd, v, tt, h, ok, ov⟩), .agg #[.int .u64 a, .bool y, .bool z, .slice LA ln lc]] W fun e w' => e = .returned (.agg (Mc.cells A n c B m d t (mpop (l.getD ch 0) ⟨4, at_, ch, th, ix, kd, v, tt, h, ok, ov⟩ a y))) ∧ Below W.heap.size W w' := fun W hW => mpop_any W A n c B m d t 4 ch th ix kd v tt h ok ov a y z LA ln lc l (hcf.below hW) hch at_ (by simpa using hat) h7 ha ht
  have HP := hide hp
  clear hp hcf ha ht
  rw [Mc.cells]
  go_enter Tryz.func54, Tryz.ntmps54
  go_wp2_with fail
  refine (HP.out _ (below3 _ _ _ _)).mono ?_
  rintro e w9 ⟨rfl, hb⟩
  have V9 := hide (E3.of hb)
  clear hb
  have HT := hide (V9.out.b3.there (n := 14) rfl)
  go_wp2_with ((with_reducible show wpList _ _ _ _ _ _); refine wpList_store_res (by rfl) 81 _ _ (by rfl) (w.heap.size + 1 + 1) (Mc.cells A n c B m d t (mpop (l.getD ch 0) ⟨4, at_, ch, th, ix, kd, v, tt, h, ok, ov⟩ a y)) (by rfl) (by rfl) HT.out Tryz.mc_inf (mc_one _ _ _ _ _ _ _ _) ?_; intro wz HZ)
  obtain ⟨fs, hfs⟩ := Tryz.mc_und
  exact ret_stored HZ Tryz.results54 rfl HT.out hfs rfl Tryz.mc_inf rfl ⟨rfl, below_stored HZ V9.out.bel (by omega)⟩

set_option maxHeartbeats 1000000 in
set_option maxRecDepth 100000 in
theorem mres_5 (w : World) (A : Option Addr) (n c : Nat) (B : Option Addr) (m d : Nat) (t : Int) (at_ ch th : Nat) (ix kd v tt h ok ov a : Int) (y z : Bool) (LA : Option Addr) (ln lc : Nat) (hat : ((at_ : Int) == 0) = false) (l : List Int) (hcf : Cf w A n l) (hch : ch < n) (h7 : at_ ≤ 2) (ha : u64 a) (ht : u64 tt) :
    Calls Tryz.prog 54 #[.agg (Mc.cells A n c B m d t ⟨5, at_, ch, th, ix, kd, v, tt, h, ok, ov⟩), .agg #[.int .u64 a, .bool y, .bool z, .slice LA ln lc]] w fun e w' => e = .returned (.agg (Mc.cells A n c B m d t (mshut ⟨5, at_, ch, th, ix, kd, v, tt, h, ok, ov⟩ a y))) ∧ Below w.heap.size w w' := by
  have hp : ∀ W, Below w.heap.size w W → Calls Tryz.prog 89 #[.agg (Mc.cells A n c B m d t ⟨5, at_, ch, th, ix, kd, v, tt, h, ok, ov⟩), .agg #[.int .u64 a, .bool y, .bool z, .slice LA ln lc]] W fun e w' => e = .returned (.agg (Mc.cells A n c B m d t (mshut ⟨5, at_, ch, th, ix, kd, v, tt, h, ok, ov⟩ a y))) ∧ Below W.heap.size W w' := fun W hW => mshut_any W A n c B m d t 5 ch th ix kd v tt h ok ov a y z LA ln lc l (hcf.below hW) hch at_ (by simpa using hat) h7 ha ht
  have HP := hide hp
  clear hp hcf ha ht
  rw [Mc.cells]
  go_enter Tryz.func54, Tryz.ntmps54
  go_wp2_with fail
  refine (HP.out _ (below3 _ _ _ _)).mono ?_
  rintro e w9 ⟨rfl, hb⟩
  have V9 := hide (E3.of hb)
  clear hb
  have HT := hide (V9.out.b3.there (n := 14) rfl)
  go_wp2_with ((with_reducible show wpList _ _ _ _ _ _); refine wpList_store_res (by rfl) 81 _ _ (by rfl) (w.heap.size + 1 + 1) (Mc.cells A n c B m d t (mshut ⟨5, at_, ch, th, ix, kd, v, tt, h, ok, ov⟩ a y)) (by rfl) (by rfl) HT.out Tryz.mc_inf (mc_one _ _ _ _ _ _ _ _) ?_; intro wz HZ)
  obtain ⟨fs, hfs⟩ := Tryz.mc_und
  exact ret_stored HZ Tryz.results54 rfl HT.out hfs rfl Tryz.mc_inf rfl ⟨rfl, below_stored HZ V9.out.bel (by omega)⟩

set_option maxHeartbeats 1000000 in
set_option maxRecDepth 100000 in
theorem mres_6 (w : World) (A : Option Addr) (n c : Nat) (B : Option Addr) (m d : Nat) (t : Int) (at_ ch th : Nat) (ix kd v tt h ok ov a : Int) (y z : Bool) (LA : Option Addr) (ln lc : Nat) (hat : ((at_ : Int) == 0) = false) (l : List Int) (hcf : Cf w A n l) (hch : ch < n) (h7 : at_ ≤ 3) (ha : u64 a) (ht : u64 tt) :
    Calls Tryz.prog 54 #[.agg (Mc.cells A n c B m d t ⟨6, at_, ch, th, ix, kd, v, tt, h, ok, ov⟩), .agg #[.int .u64 a, .bool y, .bool z, .slice LA ln lc]] w fun e w' => e = .returned (.agg (Mc.cells A n c B m d t (mcount ⟨6, at_, ch, th, ix, kd, v, tt, h, ok, ov⟩ a))) ∧ Below w.heap.size w w' := by
  have hp : ∀ W, Below w.heap.size w W → Calls Tryz.prog 90 #[.agg (Mc.cells A n c B m d t ⟨6, at_, ch, th, ix, kd, v, tt, h, ok, ov⟩), .agg #[.int .u64 a, .bool y, .bool z, .slice LA ln lc]] W fun e w' => e = .returned (.agg (Mc.cells A n c B m d t (mcount ⟨6, at_, ch, th, ix, kd, v, tt, h, ok, ov⟩ a))) ∧ Below W.heap.size W w' := fun W hW => mcount_any W A n c B m d t 6 ch th ix kd v tt h ok ov a y z LA ln lc l (hcf.below hW) hch at_ (by simpa using hat) h7 ha ht
  have HP := hide hp
  clear hp hcf ha ht
  rw [Mc.cells]
  go_enter Tryz.func54, Tryz.ntmps54
  go_wp2_with fail
  refine (HP.out _ (below3 _ _ _ _)).mono ?_
  rintro e w9 ⟨rfl, hb⟩
  have V9 := hide (E3.of hb)
  clear hb
  have HT := hide (V9.out.b3.there (n := 14) rfl)
  go_wp2_with ((with_reducible show wpList _ _ _ _ _ _); refine wpList_store_res (by rfl) 81 _ _ (by rfl) (w.heap.size + 1 + 1) (Mc.cells A n c B m d t (mcount ⟨6, at_, ch, th, ix, kd, v, tt, h, ok, ov⟩ a)) (by rfl) (by rfl) HT.out Tryz.mc_inf (mc_one _ _ _ _ _ _ _ _) ?_; intro wz HZ)
  obtain ⟨fs, hfs⟩ := Tryz.mc_und
  exact ret_stored HZ Tryz.results54 rfl HT.out hfs rfl Tryz.mc_inf rfl ⟨rfl, below_stored HZ V9.out.bel (by omega)⟩
end Go.Proofs.YtepngbdjobckbaaGreat
end
end
section
section
namespace Go.Proofs.YtepngbdjobckbaaGreat
open Go.RowKit
set_option linter.unusedVariables false
attribute [local irreducible] Go.bits

set_option maxHeartbeats 1000000 in
set_option maxRecDepth 100000 in
theorem mres_1y (w : World) (A : Option Addr) (n c : Nat) (B : Option Addr) (m d : Nat) (t : Int) (at_ ch th : Nat) (ix kd v tt h ok ov a : Int) (z : Bool) (LA : Option Addr) (ln lc : Nat) (hat : ((at_ : Int) == 0) = false) :
    Calls Tryz.prog 54 #[.agg (Mc.cells A n c B m d t ⟨1, at_, ch, th, ix, kd, v, tt, h, ok, ov⟩), .agg #[.int .u64 a, .bool true, .bool z, .slice LA ln lc]] w fun e w' => e = .returned (.agg (Mc.cells A n c B m d t (mend ⟨1, at_, ch, th, ix, kd, v, tt, h, ok, ov⟩ 1 0))) ∧ Below w.heap.size w w' := by
  rw [Mc.cells]
  go_enter Tryz.func54, Tryz.ntmps54
  go_wp2_with fail
  refine (mend_any _ A n c B m d t ⟨1, at_, ch, th, ix, kd, v, tt, h, ok, ov⟩ 1 0).mono ?_
  rintro e w9 ⟨rfl, hb⟩
  have V9 := hide (E3.of hb)
  clear hb
  have HT := hide (V9.out.b3.there (n := 14) rfl)
  go_wp2_with ((with_reducible show wpList _ _ _ _ _ _); refine wpList_store_res (by rfl) 81 _ _ (by rfl) (w.heap.size + 1 + 1) (Mc.cells A n c B m d t (mend ⟨1, at_, ch, th, ix, kd, v, tt, h, ok, ov⟩ 1 0)) (by rfl) (by rfl) HT.out Tryz.mc_inf (mc_one _ _ _ _ _ _ _ _) ?_; intro wz HZ)
  obtain ⟨fs, hfs⟩ := Tryz.mc_und
  exact ret_stored HZ Tryz.results54 rfl HT.out hfs rfl Tryz.mc_inf rfl ⟨rfl, below_stored HZ V9.out.bel (by omega)⟩

set_option maxHeartbeats 1000000 in
set_option maxRecDepth 100000 in
theorem mres_1n (w : World) (A : Option Addr) (n c : Nat) (B : Option Addr) (m d : Nat) (t : Int) (at_ ch th : Nat) (ix kd v tt h ok ov a : Int) (z : Bool) (LA : Option Addr) (ln lc : Nat) (hat : ((at_ : Int) == 0) = false) :
    Calls Tryz.prog 54 #[.agg (Mc.cells A n c B m d t ⟨1, at_, ch, th, ix, kd, v, tt, h, ok, ov⟩), .agg #[.int .u64 a, .bool false, .bool z, .slice LA ln lc]] w fun e w' => e = .returned (.agg (Mc.cells A n c B m d t ⟨1, at_, ch, th, ix, kd, v, tt, h, ok, ov⟩)) ∧ Below w.heap.size w w' := by
  rw [Mc.cells]
  go_enter Tryz.func54, Tryz.ntmps54
  go_wp2
  exact bodyPost_ret (v := .agg (Mc.cells A n c B m d t ⟨1, at_, ch, th, ix, kd, v, tt, h, ok, ov⟩)) (by simp [results, Tryz.results54, go_sem, Mc.cells]) rfl ⟨rfl, ((below_new _ _).alloc (by simp) _).alloc (by simp; omega) _⟩

set_option maxHeartbeats 1000000 in
set_option maxRecDepth 100000 in
theorem mres_2 (w : World) (A : Option Addr) (n c : Nat) (B : Option Addr) (m d : Nat) (t : Int) (at_ ch th : Nat) (ix kd v tt h ok ov a : Int) (y z : Bool) (LA : Option Addr) (ln lc : Nat) (hat : ((at_ : Int) == 0) = false) :
    Calls Tryz.prog 54 #[.agg (Mc.cells A n c B m d t ⟨2, at_, ch, th, ix, kd, v, tt, h, ok, ov⟩), .agg #[.int .u64 a, .bool y, .bool z, .slice LA ln lc]] w fun e w' => e = .returned (.agg (Mc.cells A n c B m d t (mend ⟨2, at_, ch, th, ix, kd, v, tt, h, ok, ov⟩ 1 0))) ∧ Below w.heap.size w w' := by
  rw [Mc.cells]
  go_enter Tryz.func54, Tryz.ntmps54
  go_wp2_with fail
  refine (mend_any _ A n c B m d t ⟨2, at_, ch, th, ix, kd, v, tt, h, ok, ov⟩ 1 0).mono ?_
  rintro e w9 ⟨rfl, hb⟩
  have V9 := hide (E3.of hb)
  clear hb
  have HT := hide (V9.out.b3.there (n := 14) rfl)
  go_wp2_with ((with_reducible show wpList _ _ _ _ _ _); refine wpList_store_res (by rfl) 81 _ _ (by rfl) (w.heap.size + 1 + 1) (Mc.cells A n c B m d t (mend ⟨2, at_, ch, th, ix, kd, v, tt, h, ok, ov⟩ 1 0)) (by rfl) (by rfl) HT.out Tryz.mc_inf (mc_one _ _ _ _ _ _ _ _) ?_; intro wz HZ)
  obtain ⟨fs, hfs⟩ := Tryz.mc_und
  exact ret_stored HZ Tryz.results54 rfl HT.out hfs rfl Tryz.mc_inf rfl ⟨rfl, below_stored HZ V9.out.bel (by omega)⟩

set_option maxHeartbeats 1000000 in
set_option maxRecDepth 100000 in
theorem mres_11 (w : World) (A : Option Addr) (n c : Nat) (B : Option Addr) (m d : Nat) (t : Int) (at_ ch th : Nat) (ix kd v tt h ok ov a : Int) (y z : Bool) (LA : Option Addr) (ln lc : Nat) (hat : ((at_ : Int) == 0) = false) :
    Calls Tryz.prog 54 #[.agg (Mc.cells A n c B m d t ⟨11, at_, ch, th, ix, kd, v, tt, h, ok, ov⟩), .agg #[.int .u64 a, .bool y, .bool z, .slice LA ln lc]] w fun e w' => e = .returned (.agg (Mc.cells A n c B m d t (mend ⟨11, at_, ch, th, ix, kd, v, tt, h, ok, ov⟩ 1 0))) ∧ Below w.heap.size w w' := by
  rw [Mc.cells]
  go_enter Tryz.func54, Tryz.ntmps54
  go_wp2_with fail
  refine (mend_any _ A n c B m d t ⟨11, at_, ch, th, ix, kd, v, tt, h, ok, ov⟩ 1 0).mono ?_
  rintro e w9 ⟨rfl, hb⟩
  have V9 := hide (E3.of hb)
  clear hb
  have HT := hide (V9.out.b3.there (n := 14) rfl)
  go_wp2_with ((with_reducible show wpList _ _ _ _ _ _); refine wpList_store_res (by rfl) 81 _ _ (by rfl) (w.heap.size + 1 + 1) (Mc.cells A n c B m d t (mend ⟨11, at_, ch, th, ix, kd, v, tt, h, ok, ov⟩ 1 0)) (by rfl) (by rfl) HT.out Tryz.mc_inf (mc_one _ _ _ _ _ _ _ _) ?_; intro wz HZ)
  obtain ⟨fs, hfs⟩ := Tryz.mc_und
  exact ret_stored HZ Tryz.results54 rfl HT.out hfs rfl Tryz.mc_inf rfl ⟨rfl, below_stored HZ V9.out.bel (by omega)⟩

set_option maxHeartbeats 1000000 in
set_option maxRecDepth 100000 in
theorem mres_10y (w : World) (A : Option Addr) (n c : Nat) (B : Option Addr) (m d : Nat) (t : Int) (at_ ch th : Nat) (ix kd v tt h ok ov a : Int) (z : Bool) (LA : Option Addr) (ln lc : Nat) (hat : ((at_ : Int) == 0) = false) :
    Calls Tryz.prog 54 #[.agg (Mc.cells A n c B m d t ⟨10, at_, ch, th, ix, kd, v, tt, h, ok, ov⟩), .agg #[.int .u64 a, .bool true, .bool z, .slice LA ln lc]] w fun e w' => e = .returned (.agg (Mc.cells A n c B m d t (mend ⟨10, at_, ch, th, ix, kd, v, tt, h, ok, ov⟩ 7 0))) ∧ Below w.heap.size w w' := by
  rw [Mc.cells]
  go_enter Tryz.func54, Tryz.ntmps54
  go_wp2_with fail
  refine (mend_any _ A n c B m d t ⟨10, at_, ch, th, ix, kd, v, tt, h, ok, ov⟩ 7 0).mono ?_
  rintro e w9 ⟨rfl, hb⟩
  have V9 := hide (E3.of hb)
  clear hb
  have HT := hide (V9.out.b3.there (n := 14) rfl)
  go_wp2_with ((with_reducible show wpList _ _ _ _ _ _); refine wpList_store_res (by rfl) 81 _ _ (by rfl) (w.heap.size + 1 + 1) (Mc.cells A n c B m d t (mend ⟨10, at_, ch, th, ix, kd, v, tt, h, ok, ov⟩ 7 0)) (by rfl) (by rfl) HT.out Tryz.mc_inf (mc_one _ _ _ _ _ _ _ _) ?_; intro wz HZ)
  obtain ⟨fs, hfs⟩ := Tryz.mc_und
  exact ret_stored HZ Tryz.results54 rfl HT.out hfs rfl Tryz.mc_inf rfl ⟨rfl, below_stored HZ V9.out.bel (by omega)⟩

set_option maxHeartbeats 1000000 in
set_option maxRecDepth 100000 in
theorem mres_10n (w : World) (A : Option Addr) (n c : Nat) (B : Option Addr) (m d : Nat) (t : Int) (at_ ch th : Nat) (ix kd v tt h ok ov a : Int) (z : Bool) (LA : Option Addr) (ln lc : Nat) (hat : ((at_ : Int) == 0) = false) :
    Calls Tryz.prog 54 #[.agg (Mc.cells A n c B m d t ⟨10, at_, ch, th, ix, kd, v, tt, h, ok, ov⟩), .agg #[.int .u64 a, .bool false, .bool z, .slice LA ln lc]] w fun e w' => e = .returned (.agg (Mc.cells A n c B m d t (mend ⟨10, at_, ch, th, ix, kd, v, tt, h, ok, ov⟩ 8 0))) ∧ Below w.heap.size w w' := by
  rw [Mc.cells]
  go_enter Tryz.func54, Tryz.ntmps54
  go_wp2_with fail
  refine (mend_any _ A n c B m d t ⟨10, at_, ch, th, ix, kd, v, tt, h, ok, ov⟩ 8 0).mono ?_
  rintro e w9 ⟨rfl, hb⟩
  have V9 := hide (E3.of hb)
  clear hb
  have HT := hide (V9.out.b3.there (n := 14) rfl)
  go_wp2_with ((with_reducible show wpList _ _ _ _ _ _); refine wpList_store_res (by rfl) 81 _ _ (by rfl) (w.heap.size + 1 + 1) (Mc.cells A n c B m d t (mend ⟨10, at_, ch, th, ix, kd, v, tt, h, ok, ov⟩ 8 0)) (by rfl) (by rfl) HT.out Tryz.mc_inf (mc_one _ _ _ _ _ _ _ _) ?_; intro wz HZ)
  obtain ⟨fs, hfs⟩ := Tryz.mc_und
  exact ret_stored HZ Tryz.results54 rfl HT.out hfs rfl Tryz.mc_inf rfl ⟨rfl, below_stored HZ V9.out.bel (by omega)⟩
end Go.Proofs.YtepngbdjobckbaaGreat
end
section
namespace Go.Proofs.YtepngbdjobckbaaGreat
open Go.RowKit
set_option linter.unusedVariables false
attribute [local irreducible] Go.bits

set_option maxHeartbeats 1000000 in
set_option maxRecDepth 100000 in
theorem mres_7y (w : World) (A : Option Addr) (n c : Nat) (B : Option Addr) (m d : Nat) (t : Int) (at_ ch th : Nat) (ix kd v tt h ok ov a : Int) (z : Bool) (LA : Option Addr) (ln lc : Nat) (hat : ((at_ : Int) == 0) = false) :
    Calls Tryz.prog 54 #[.agg (Mc.cells A n c B m d t ⟨7, at_, ch, th, ix, kd, v, tt, h, ok, ov⟩), .agg #[.int .u64 a, .bool true, .bool z, .slice LA ln lc]] w fun e w' => e = .returned (.agg (Mc.cells A n c B m d t (mend ⟨7, at_, ch, th, ix, kd, v, tt, h, ok, ov⟩ 7 0))) ∧ Below w.heap.size w w' := by
  rw [Mc.cells]
  go_enter Tryz.func54, Tryz.ntmps54
  go_wp2_with fail
  refine (mend_any _ A n c B m d t ⟨7, at_, ch, th, ix, kd, v, tt, h, ok, ov⟩ 7 0).mono ?_
  rintro e w9 ⟨rfl, hb⟩
  have V9 := hide (E3.of hb)
  clear hb
  have HT := hide (V9.out.b3.there (n := 14) rfl)
  go_wp2_with ((with_reducible show wpList _ _ _ _ _ _); refine wpList_store_res (by rfl) 81 _ _ (by rfl) (w.heap.size + 1 + 1) (Mc.cells A n c B m d t (mend ⟨7, at_, ch, th, ix, kd, v, tt, h, ok, ov⟩ 7 0)) (by rfl) (by rfl) HT.out Tryz.mc_inf (mc_one _ _ _ _ _ _ _ _) ?_; intro wz HZ)
  obtain ⟨fs, hfs⟩ := Tryz.mc_und
  exact ret_stored HZ Tryz.results54 rfl HT.out hfs rfl Tryz.mc_inf rfl ⟨rfl, below_stored HZ V9.out.bel (by omega)⟩

set_option maxHeartbeats 1000000 in
set_option maxRecDepth 100000 in
theorem mres_7r (w : World) (A : Option Addr) (n c : Nat) (B : Option Addr) (m d : Nat) (t : Int) (at_ ch th : Nat) (ix kd v tt h ok ov a : Int) (z : Bool) (LA : Option Addr) (ln lc : Nat) (hat : ((at_ : Int) == 0) = false) (he : (a == 2) = true) :
    Calls Tryz.prog 54 #[.agg (Mc.cells A n c B m d t ⟨7, at_, ch, th, ix, kd, v, tt, h, ok, ov⟩), .agg #[.int .u64 a, .bool false, .bool z, .slice LA ln lc]] w fun e w' => e = .returned (.agg (Mc.cells A n c B m d t ⟨7, at_, ch, th, ix, kd, v, tt, h, ok, ov⟩)) ∧ Below w.heap.size w w' := by
  rw [Mc.cells]
  go_enter Tryz.func54, Tryz.ntmps54
  go_wp2
  exact bodyPost_ret (v := .agg (Mc.cells A n c B m d t ⟨7, at_, ch, th, ix, kd, v, tt, h, ok, ov⟩)) (by simp [results, Tryz.results54, go_sem, Mc.cells]) rfl ⟨rfl, ((below_new _ _).alloc (by simp) _).alloc (by simp; omega) _⟩

set_option maxHeartbeats 1000000 in
set_option maxRecDepth 100000 in
theorem mres_7n (w : World) (A : Option Addr) (n c : Nat) (B : Option Addr) (m d : Nat) (t : Int) (at_ ch th : Nat) (ix kd v tt h ok ov a : Int) (z : Bool) (LA : Option Addr) (ln lc : Nat) (hat : ((at_ : Int) == 0) = false) (he : (a == 2) = false) :
    Calls Tryz.prog 54 #[.agg (Mc.cells A n c B m d t ⟨7, at_, ch, th, ix, kd, v, tt, h, ok, ov⟩), .agg #[.int .u64 a, .bool false, .bool z, .slice LA ln lc]] w fun e w' => e = .returned (.agg (Mc.cells A n c B m d t (mend ⟨7, at_, ch, th, ix, kd, v, tt, h, ok, ov⟩ 8 0))) ∧ Below w.heap.size w w' := by
  rw [Mc.cells]
  go_enter Tryz.func54, Tryz.ntmps54
  go_wp2_with fail
  refine (mend_any _ A n c B m d t ⟨7, at_, ch, th, ix, kd, v, tt, h, ok, ov⟩ 8 0).mono ?_
  rintro e w9 ⟨rfl, hb⟩
  have V9 := hide (E3.of hb)
  clear hb
  have HT := hide (V9.out.b3.there (n := 14) rfl)
  go_wp2_with ((with_reducible show wpList _ _ _ _ _ _); refine wpList_store_res (by rfl) 81 _ _ (by rfl) (w.heap.size + 1 + 1) (Mc.cells A n c B m d t (mend ⟨7, at_, ch, th, ix, kd, v, tt, h, ok, ov⟩ 8 0)) (by rfl) (by rfl) HT.out Tryz.mc_inf (mc_one _ _ _ _ _ _ _ _) ?_; intro wz HZ)
  obtain ⟨fs, hfs⟩ := Tryz.mc_und
  exact ret_stored HZ Tryz.results54 rfl HT.out hfs rfl Tryz.mc_inf rfl ⟨rfl, below_stored HZ V9.out.bel (by omega)⟩

set_option maxHeartbeats 1000000 in
set_option maxRecDepth 100000 in
theorem mres_8 (w : World) (A : Option Addr) (n c : Nat) (B : Option Addr) (m d : Nat) (t : Int) (at_ ch th : Nat) (ix kd v tt h ok ov a : Int) (y z : Bool) (LA : Option Addr) (ln lc : Nat) (hat : ((at_ : Int) == 0) = false) :
    Calls Tryz.prog 54 #[.agg (Mc.cells A n c B m d t ⟨8, at_, ch, th, ix, kd, v, tt, h, ok, ov⟩), .agg #[.int .u64 a, .bool y, .bool z, .slice LA ln lc]] w fun e w' => e = .returned (.agg (Mc.cells A n c B m d t (mend ⟨8, at_, ch, th, ix, kd, v, tt, h, ok, ov⟩ 1 0))) ∧ Below w.heap.size w w' := by
  rw [Mc.cells]
  go_enter Tryz.func54, Tryz.ntmps54
  go_wp2_with fail
  refine (mend_any _ A n c B m d t ⟨8, at_, ch, th, ix, kd, v, tt, h, ok, ov⟩ 1 0).mono ?_
  rintro e w9 ⟨rfl, hb⟩
  have V9 := hide (E3.of hb)
  clear hb
  have HT := hide (V9.out.b3.there (n := 14) rfl)
  go_wp2_with ((with_reducible show wpList _ _ _ _ _ _); refine wpList_store_res (by rfl) 81 _ _ (by rfl) (w.heap.size + 1 + 1) (Mc.cells A n c B m d t (mend ⟨8, at_, ch, th, ix, kd, v, tt, h, ok, ov⟩ 1 0)) (by rfl) (by rfl) HT.out Tryz.mc_inf (mc_one _ _ _ _ _ _ _ _) ?_; intro wz HZ)
  obtain ⟨fs, hfs⟩ := Tryz.mc_und
  exact ret_stored HZ Tryz.results54 rfl HT.out hfs rfl Tryz.mc_inf rfl ⟨rfl, below_stored HZ V9.out.bel (by omega)⟩

set_option maxHeartbeats 1000000 in
set_option maxRecDepth 100000 in
theorem mres_9l (w : World) (A : Option Addr) (n c : Nat) (B : Option Addr) (m d : Nat) (t : Int) (at_ ch th : Nat) (ix kd v tt h ok ov a : Int) (y z : Bool) (LA : Option Addr) (ln lc : Nat) (hat : ((at_ : Int) == 0) = false) (h5 : at_ < 5) :
    Calls Tryz.prog 54 #[.agg (Mc.cells A n c B m d t ⟨9, at_, ch, th, ix, kd, v, tt, h, ok, ov⟩), .agg #[.int .u64 a, .bool y, .bool z, .slice LA ln lc]] w fun e w' => e = .returned (.agg (Mc.cells A n c B m d t (mto ⟨9, at_, ch, th, ix, kd, v, tt, h, ok, ov⟩ (at_ + 1)))) ∧ Below w.heap.size w w' := by
  rw [Mc.cells]
  go_enter Tryz.func54, Tryz.ntmps54
  go_wp2_with fail
  refine (mto_any _ A n c B m d t ⟨9, at_, ch, th, ix, kd, v, tt, h, ok, ov⟩ (at_ + 1)).mono ?_
  rintro e w9 ⟨rfl, hb⟩
  have V9 := hide (E3.of hb)
  clear hb
  have HT := hide (V9.out.b3.there (n := 14) rfl)
  go_wp2_with ((with_reducible show wpList _ _ _ _ _ _); refine wpList_store_res (by rfl) 81 _ _ (by rfl) (w.heap.size + 1 + 1) (Mc.cells A n c B m d t (mto ⟨9, at_, ch, th, ix, kd, v, tt, h, ok, ov⟩ (at_ + 1))) (by rfl) (by rfl) HT.out Tryz.mc_inf (mc_one _ _ _ _ _ _ _ _) ?_; intro wz HZ)
  obtain ⟨fs, hfs⟩ := Tryz.mc_und
  exact ret_stored HZ Tryz.results54 rfl HT.out hfs rfl Tryz.mc_inf rfl ⟨rfl, below_stored HZ V9.out.bel (by omega)⟩

set_option maxHeartbeats 1000000 in
set_option maxRecDepth 100000 in
theorem mres_9e (w : World) (A : Option Addr) (n c : Nat) (B : Option Addr) (m d : Nat) (t : Int) (ch th : Nat) (ix kd v tt h ok ov a : Int) (y z : Bool) (LA : Option Addr) (ln lc : Nat) :
    Calls Tryz.prog 54 #[.agg (Mc.cells A n c B m d t ⟨9, 5, ch, th, ix, kd, v, tt, h, ok, ov⟩), .agg #[.int .u64 a, .bool y, .bool z, .slice LA ln lc]] w fun e w' => e = .returned (.agg (Mc.cells A n c B m d t (mend ⟨9, 5, ch, th, ix, kd, v, tt, h, ok, ov⟩ 1 0))) ∧ Below w.heap.size w w' := by
  rw [Mc.cells]
  go_enter Tryz.func54, Tryz.ntmps54
  go_wp2_with fail
  refine (mend_any _ A n c B m d t ⟨9, 5, ch, th, ix, kd, v, tt, h, ok, ov⟩ 1 0).mono ?_
  rintro e w9 ⟨rfl, hb⟩
  have V9 := hide (E3.of hb)
  clear hb
  have HT := hide (V9.out.b3.there (n := 14) rfl)
  go_wp2_with ((with_reducible show wpList _ _ _ _ _ _); refine wpList_store_res (by rfl) 81 _ _ (by rfl) (w.heap.size + 1 + 1) (Mc.cells A n c B m d t (mend ⟨9, 5, ch, th, ix, kd, v, tt, h, ok, ov⟩ 1 0)) (by rfl) (by rfl) HT.out Tryz.mc_inf (mc_one _ _ _ _ _ _ _ _) ?_; intro wz HZ)
  obtain ⟨fs, hfs⟩ := Tryz.mc_und
  exact ret_stored HZ Tryz.results54 rfl HT.out hfs rfl Tryz.mc_inf rfl ⟨rfl, below_stored HZ V9.out.bel (by omega)⟩
end Go.Proofs.YtepngbdjobckbaaGreat
end
end
