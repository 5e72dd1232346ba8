/- -/
import Derived.Test.YtepngbdjobckbaaN
namespace Go.Proofs.Ytepngbdjobckbaa
open Go.RowKit
set_option linter.unusedVariables false
attribute [local irreducible] Go.bits

set_option maxHeartbeats 1000000 in
set_option maxRecDepth 100000 in
theorem mshut_1n (w : World) (A : Option Addr) (n c : Nat) (B : Option Addr) (m d : Nat) (t : Int) (what ch th : Nat) (ix kd v tt h ok ov a : Int) (y z : Bool) (LA : Option Addr) (ln lc : Nat) (ha : u64 a) (hcl : cl a = false) :
    Calls Try.prog 54 #[.agg (Mc.cells A n c B m d t ⟨what, 1, ch, th, ix, kd, v, tt, h, ok, ov⟩), .agg #[.int .u64 a, .bool y, .bool z, .slice LA ln lc]] w fun e w' => e = .returned (.agg (Mc.cells A n c B m d t (mto ⟨what, 1, ch, th, ix, kd, v, a, h, ok, ov⟩ 2))) ∧ Below w.heap.size w w' := by
  have hc := fun W => rclosed_any a W ha.1 ha.2
  rw [hcl] at hc
  have HC := hide hc
  clear hc hcl ha
  rw [Mc.cells]
  go_enter Try.func54, Try.ntmps54
  go_wp2_with (first
    | (go_at_call 67; refine (HC.out _).mono ?_; rintro e w' ⟨rfl, rfl⟩))
  refine (mto_any _ A n c B m d t ⟨what, 1, ch, th, ix, kd, v, a, h, ok, ov⟩ 2).mono ?_
  rintro e w9 ⟨rfl, hb⟩
  have V9 := hide (E3.of hb)
  clear hb
  have HT := hide (V9.out.b3.there (n := 14) rfl)
  go_wp2_with ((with_reducible show wpList _ _ _ _ _ _); refine wpList_store_res (by rfl) 58 _ _ (by rfl) (w.heap.size + 1 + 1) (Mc.cells A n c B m d t (mto ⟨what, 1, ch, th, ix, kd, v, a, h, ok, ov⟩ 2)) (by rfl) (by rfl) HT.out Try.mc_inf (mc_one _ _ _ _ _ _ _ _) ?_; intro wz HZ)
  obtain ⟨fs, hfs⟩ := Try.mc_und
  exact ret_stored HZ Try.results54 rfl HT.out hfs rfl Try.mc_inf rfl ⟨rfl, below_stored HZ V9.out.bel (by omega)⟩

set_option maxHeartbeats 1000000 in
set_option maxRecDepth 100000 in
theorem mshut_1c (w : World) (A : Option Addr) (n c : Nat) (B : Option Addr) (m d : Nat) (t : Int) (what ch th : Nat) (ix kd v tt h ok ov a : Int) (y z : Bool) (LA : Option Addr) (ln lc : Nat) (ha : u64 a) (hcl : cl a = true) :
    Calls Try.prog 54 #[.agg (Mc.cells A n c B m d t ⟨what, 1, ch, th, ix, kd, v, tt, h, ok, ov⟩), .agg #[.int .u64 a, .bool y, .bool z, .slice LA ln lc]] w fun e w' => e = .returned (.agg (Mc.cells A n c B m d t (mend ⟨what, 1, ch, th, ix, kd, v, a, h, ok, ov⟩ 4 0))) ∧ Below w.heap.size w w' := by
  have hc := fun W => rclosed_any a W ha.1 ha.2
  rw [hcl] at hc
  have HC := hide hc
  clear hc hcl ha
  rw [Mc.cells]
  go_enter Try.func54, Try.ntmps54
  go_wp2_with (first
    | (go_at_call 67; refine (HC.out _).mono ?_; rintro e w' ⟨rfl, rfl⟩))
  refine (mend_any _ A n c B m d t ⟨what, 1, ch, th, ix, kd, v, a, h, ok, ov⟩ 4 0).mono ?_
  rintro e w9 ⟨rfl, hb⟩
  have V9 := hide (E3.of hb)
  clear hb
  have HT := hide (V9.out.b3.there (n := 14) rfl)
  go_wp2_with ((with_reducible show wpList _ _ _ _ _ _); refine wpList_store_res (by rfl) 58 _ _ (by rfl) (w.heap.size + 1 + 1) (Mc.cells A n c B m d t (mend ⟨what, 1, ch, th, ix, kd, v, a, h, ok, ov⟩ 4 0)) (by rfl) (by rfl) HT.out Try.mc_inf (mc_one _ _ _ _ _ _ _ _) ?_; intro wz HZ)
  obtain ⟨fs, hfs⟩ := Try.mc_und
  exact ret_stored HZ Try.results54 rfl HT.out hfs rfl Try.mc_inf rfl ⟨rfl, below_stored HZ V9.out.bel (by omega)⟩

set_option maxHeartbeats 1000000 in
set_option maxRecDepth 100000 in
theorem mshut_2y (w : World) (A : Option Addr) (n c : Nat) (B : Option Addr) (m d : Nat) (t : Int) (what ch th : Nat) (ix kd v tt h ok ov a : Int) (z : Bool) (LA : Option Addr) (ln lc : Nat) :
    Calls Try.prog 54 #[.agg (Mc.cells A n c B m d t ⟨what, 2, ch, th, ix, kd, v, tt, h, ok, ov⟩), .agg #[.int .u64 a, .bool true, .bool z, .slice LA ln lc]] w fun e w' => e = .returned (.agg (Mc.cells A n c B m d t (mend ⟨what, 2, ch, th, ix, kd, v, tt, h, ok, ov⟩ 1 0))) ∧ Below w.heap.size w w' := by
  rw [Mc.cells]
  go_enter Try.func54, Try.ntmps54
  go_wp2_with fail
  refine (mend_any _ A n c B m d t ⟨what, 2, ch, th, ix, kd, v, tt, h, ok, ov⟩ 1 0).mono ?_
  rintro e w9 ⟨rfl, hb⟩
  have V9 := hide (E3.of hb)
  clear hb
  have HT := hide (V9.out.b3.there (n := 14) rfl)
  go_wp2_with ((with_reducible show wpList _ _ _ _ _ _); refine wpList_store_res (by rfl) 58 _ _ (by rfl) (w.heap.size + 1 + 1) (Mc.cells A n c B m d t (mend ⟨what, 2, ch, th, ix, kd, v, tt, h, ok, ov⟩ 1 0)) (by rfl) (by rfl) HT.out Try.mc_inf (mc_one _ _ _ _ _ _ _ _) ?_; intro wz HZ)
  obtain ⟨fs, hfs⟩ := Try.mc_und
  exact ret_stored HZ Try.results54 rfl HT.out hfs rfl Try.mc_inf rfl ⟨rfl, below_stored HZ V9.out.bel (by omega)⟩

set_option maxHeartbeats 1000000 in
set_option maxRecDepth 100000 in
theorem mshut_2n (w : World) (A : Option Addr) (n c : Nat) (B : Option Addr) (m d : Nat) (t : Int) (what ch th : Nat) (ix kd v tt h ok ov a : Int) (z : Bool) (LA : Option Addr) (ln lc : Nat) :
    Calls Try.prog 54 #[.agg (Mc.cells A n c B m d t ⟨what, 2, ch, th, ix, kd, v, tt, h, ok, ov⟩), .agg #[.int .u64 a, .bool false, .bool z, .slice LA ln lc]] w fun e w' => e = .returned (.agg (Mc.cells A n c B m d t (mto ⟨what, 2, ch, th, ix, kd, v, tt, h, ok, ov⟩ 1))) ∧ Below w.heap.size w w' := by
  rw [Mc.cells]
  go_enter Try.func54, Try.ntmps54
  go_wp2_with fail
  refine (mto_any _ A n c B m d t ⟨what, 2, ch, th, ix, kd, v, tt, h, ok, ov⟩ 1).mono ?_
  rintro e w9 ⟨rfl, hb⟩
  have V9 := hide (E3.of hb)
  clear hb
  have HT := hide (V9.out.b3.there (n := 14) rfl)
  go_wp2_with ((with_reducible show wpList _ _ _ _ _ _); refine wpList_store_res (by rfl) 58 _ _ (by rfl) (w.heap.size + 1 + 1) (Mc.cells A n c B m d t (mto ⟨what, 2, ch, th, ix, kd, v, tt, h, ok, ov⟩ 1)) (by rfl) (by rfl) HT.out Try.mc_inf (mc_one _ _ _ _ _ _ _ _) ?_; intro wz HZ)
  obtain ⟨fs, hfs⟩ := Try.mc_und
  exact ret_stored HZ Try.results54 rfl HT.out hfs rfl Try.mc_inf rfl ⟨rfl, below_stored HZ V9.out.bel (by omega)⟩

set_option maxHeartbeats 1000000 in
set_option maxRecDepth 100000 in
theorem mcount_1 (w : World) (A : Option Addr) (n c : Nat) (B : Option Addr) (m d : Nat) (t : Int) (what ch th : Nat) (ix kd v tt h ok ov a : Int) (y z : Bool) (LA : Option Addr) (ln lc : Nat) :
    Calls Try.prog 55 #[.agg (Mc.cells A n c B m d t ⟨what, 1, ch, th, ix, kd, v, tt, h, ok, ov⟩), .agg #[.int .u64 a, .bool y, .bool z, .slice LA ln lc]] w fun e w' => e = .returned (.agg (Mc.cells A n c B m d t (mto ⟨what, 1, ch, th, ix, kd, v, a, h, ok, ov⟩ 2))) ∧ Below w.heap.size w w' := by
  rw [Mc.cells]
  go_enter Try.func55, Try.ntmps55
  go_wp2_with fail
  refine (mto_any _ A n c B m d t ⟨what, 1, ch, th, ix, kd, v, a, h, ok, ov⟩ 2).mono ?_
  rintro e w9 ⟨rfl, hb⟩
  have V9 := hide (E3.of hb)
  clear hb
  have HT := hide (V9.out.b3.there (n := 14) rfl)
  go_wp2_with ((with_reducible show wpList _ _ _ _ _ _); refine wpList_store_res (by rfl) 58 _ _ (by rfl) (w.heap.size + 1 + 1) (Mc.cells A n c B m d t (mto ⟨what, 1, ch, th, ix, kd, v, a, h, ok, ov⟩ 2)) (by rfl) (by rfl) HT.out Try.mc_inf (mc_one _ _ _ _ _ _ _ _) ?_; intro wz HZ)
  obtain ⟨fs, hfs⟩ := Try.mc_und
  exact ret_stored HZ Try.results55 rfl HT.out hfs rfl Try.mc_inf rfl ⟨rfl, below_stored HZ V9.out.bel (by omega)⟩

set_option maxHeartbeats 1000000 in
set_option maxRecDepth 100000 in
theorem mcount_2 (w : World) (A : Option Addr) (n c : Nat) (B : Option Addr) (m d : Nat) (t : Int) (what ch th : Nat) (ix kd v tt h ok ov a : Int) (y z : Bool) (LA : Option Addr) (ln lc : Nat) :
    Calls Try.prog 55 #[.agg (Mc.cells A n c B m d t ⟨what, 2, ch, th, ix, kd, v, tt, h, ok, ov⟩), .agg #[.int .u64 a, .bool y, .bool z, .slice LA ln lc]] w fun e w' => e = .returned (.agg (Mc.cells A n c B m d t (mto ⟨what, 2, ch, th, ix, kd, v, tt, a, ok, ov⟩ 3))) ∧ Below w.heap.size w w' := by
  rw [Mc.cells]
  go_enter Try.func55, Try.ntmps55
  go_wp2_with fail
  refine (mto_any _ A n c B m d t ⟨what, 2, ch, th, ix, kd, v, tt, a, ok, ov⟩ 3).mono ?_
  rintro e w9 ⟨rfl, hb⟩
  have V9 := hide (E3.of hb)
  clear hb
  have HT := hide (V9.out.b3.there (n := 14) rfl)
  go_wp2_with ((with_reducible show wpList _ _ _ _ _ _); refine wpList_store_res (by rfl) 58 _ _ (by rfl) (w.heap.size + 1 + 1) (Mc.cells A n c B m d t (mto ⟨what, 2, ch, th, ix, kd, v, tt, a, ok, ov⟩ 3)) (by rfl) (by rfl) HT.out Try.mc_inf (mc_one _ _ _ _ _ _ _ _) ?_; intro wz HZ)
  obtain ⟨fs, hfs⟩ := Try.mc_und
  exact ret_stored HZ Try.results55 rfl HT.out hfs rfl Try.mc_inf rfl ⟨rfl, below_stored HZ V9.out.bel (by omega)⟩

set_option maxHeartbeats 1000000 in
set_option maxRecDepth 100000 in
theorem mcount_3n (w : World) (A : Option Addr) (n c : Nat) (B : Option Addr) (m d : Nat) (t : Int) (what ch th : Nat) (ix kd v tt h ok ov a : Int) (y z : Bool) (LA : Option Addr) (ln lc : Nat) (hne : (a == tt) = false) :
    Calls Try.prog 55 #[.agg (Mc.cells A n c B m d t ⟨what, 3, ch, th, ix, kd, v, tt, h, ok, ov⟩), .agg #[.int .u64 a, .bool y, .bool z, .slice LA ln lc]] w fun e w' => e = .returned (.agg (Mc.cells A n c B m d t (mto ⟨what, 3, ch, th, ix, kd, v, a, h, ok, ov⟩ 2))) ∧ Below w.heap.size w w' := by
  rw [Mc.cells]
  go_enter Try.func55, Try.ntmps55
  go_wp2_with fail
  refine (mto_any _ A n c B m d t ⟨what, 3, ch, th, ix, kd, v, a, h, ok, ov⟩ 2).mono ?_
  rintro e w9 ⟨rfl, hb⟩
  have V9 := hide (E3.of hb)
  clear hb
  have HT := hide (V9.out.b3.there (n := 14) rfl)
  go_wp2_with ((with_reducible show wpList _ _ _ _ _ _); refine wpList_store_res (by rfl) 58 _ _ (by rfl) (w.heap.size + 1 + 1) (Mc.cells A n c B m d t (mto ⟨what, 3, ch, th, ix, kd, v, a, h, ok, ov⟩ 2)) (by rfl) (by rfl) HT.out Try.mc_inf (mc_one _ _ _ _ _ _ _ _) ?_; intro wz HZ)
  obtain ⟨fs, hfs⟩ := Try.mc_und
  exact ret_stored HZ Try.results55 rfl HT.out hfs rfl Try.mc_inf rfl ⟨rfl, below_stored HZ V9.out.bel (by omega)⟩

set_option maxHeartbeats 1000000 in
set_option maxRecDepth 100000 in
theorem mcount_3e (w : World) (A : Option Addr) (n c : Nat) (B : Option Addr) (m d : Nat) (t : Int) (what ch th : Nat) (ix kd v tt h ok ov a : Int) (y z : Bool) (LA : Option Addr) (ln lc : Nat) (r : Int) (heq : (a == tt) = true) (hr : rest (tt / 2) h = r) :
    Calls Try.prog 55 #[.agg (Mc.cells A n c B m d t ⟨what, 3, ch, th, ix, kd, v, tt, h, ok, ov⟩), .agg #[.int .u64 a, .bool y, .bool z, .slice LA ln lc]] w fun e w' => e = .returned (.agg (Mc.cells A n c B m d t (mend ⟨what, 3, ch, th, ix, kd, v, tt, h, ok, ov⟩ 9 r))) ∧ Below w.heap.size w w' := by
  have HS := hide (fun W => mseq_any W A n c B m d t ⟨what, 3, ch, th, ix, kd, v, tt, h, ok, ov⟩)
  have hrr : ∀ W, Calls Try.prog 65 #[.int .u64 (tt / 2), .int .u64 h] W fun e w' => e = .returned (.int .u64 r) ∧ W = w' := fun W => by rw [← hr]; exact rrest_any _ _ W
  have HR := hide hrr
  have HE := hide (fun W => mend_any W A n c B m d t ⟨what, 3, ch, th, ix, kd, v, tt, h, ok, ov⟩ 9 r)
  clear hrr hr
  rw [Mc.cells]
  go_enter Try.func55, Try.ntmps55
  go_wp2_with fail
  have U0 := fun (u : Up (((w.alloc (.cells #[.int .i64 (what : Nat), .int .i64 3, .slice A n c, .slice B m d, .int .i64 t, .int .i64 (ch : Nat), .int .i64 (th : Nat), .int .i64 ix, .int .i64 kd, .int .u64 v, .int .u64 tt, .int .u64 h, .int .i64 ok, .int .u64 ov] 58)).alloc (.cells #[.int .u64 a, .bool y, .bool z, .slice LA ln lc] 53)).alloc (.cells #[.int .i64 0, .int .i64 0, .slice none 0 0, .slice none 0 0, .int .i64 0, .int .i64 0, .int .i64 0, .int .i64 0, .int .i64 0, .int .u64 0, .int .u64 0, .int .u64 0, .int .i64 0, .int .u64 0] 58))) => E3.of u.2
  have c0 := fun u => (bk14 (U0 u).b1).1
  have c1 := fun u => (bk14 (U0 u).b1).2.1
  have c2 := fun u => (bk14 (U0 u).b1).2.2.1
  have c3 := fun u => (bk14 (U0 u).b1).2.2.2.1
  have c4 := fun u => (bk14 (U0 u).b1).2.2.2.2.1
  have c5 := fun u => (bk14 (U0 u).b1).2.2.2.2.2.1
  have c6 := fun u => (bk14 (U0 u).b1).2.2.2.2.2.2.1
  have c7 := fun u => (bk14 (U0 u).b1).2.2.2.2.2.2.2.1
  have c8 := fun u => (bk14 (U0 u).b1).2.2.2.2.2.2.2.2.1
  have c9 := fun u => (bk14 (U0 u).b1).2.2.2.2.2.2.2.2.2.1
  have c10 := fun u => (bk14 (U0 u).b1).2.2.2.2.2.2.2.2.2.2.1
  have c11 := fun u => (bk14 (U0 u).b1).2.2.2.2.2.2.2.2.2.2.2.1
  have c12 := fun u => (bk14 (U0 u).b1).2.2.2.2.2.2.2.2.2.2.2.2.1
  have c13 := fun u => (bk14 (U0 u).b1).2.2.2.2.2.2.2.2.2.2.2.2.2.1
  have a0 := fun u => (bk4 (U0 u).b2).1
  have a1 := fun u => (bk4 (U0 u).b2).2.1
  have a2 := fun u => (bk4 (U0 u).b2).2.2.1
  have a3 := fun u => (bk4 (U0 u).b2).2.2.2.1
  have UU := hide U0
  clear U0
  refine wp_region_up_tail 7 (by kernel_rfl) (by kernel_rfl) ?_
  simp only [List.take_succ_cons, List.take_zero, List.drop_succ_cons, List.drop_zero]
  repeat (go_big_quiet_step (first
    | (go_at_call 93; exact up_call (HS.out _))
    | (go_at_call 65; exact up_same (HR.out _))
    | (go_at_call 51; exact up_call (HE.out _))))
  refine wpQuiet_nil ?_
  intro u
  clear c0 c1 c2 c3 c4 c5 c6 c7 c8 c9 c10 c11 c12 c13 a0 a1 a2 a3
  have V1 := hide (UU.out u)
  clear UU
  generalize u.1 = w2 at *
  obtain ⟨c0, c1, c2, c3, c4, c5, c6, c7, c8, c9, c10, c11, c12, c13, f1⟩ := bk14 V1.out.b1
  obtain ⟨a0, a1, a2, a3, g1⟩ := bk4 V1.out.b2
  clear c0 c1 c2 c3 c4 c5 c6 c7 c8 c9 c10 c11 c12 c13 f1 a0 a1 a2 a3 g1
  have HT := hide (V1.out.b3.there (n := 14) rfl)
  go_wp2_with ((with_reducible show wpList _ _ _ _ _ _); refine wpList_store_res (by rfl) 58 _ _ (by rfl) (w.heap.size + 1 + 1) (Mc.cells A n c B m d t (mend ⟨what, 3, ch, th, ix, kd, v, tt, h, ok, ov⟩ 9 r)) (by rfl) (by rfl) HT.out Try.mc_inf (mc_one _ _ _ _ _ _ _ _) ?_; intro wz HZ)
  obtain ⟨fs, hfs⟩ := Try.mc_und
  exact ret_stored HZ Try.results55 rfl HT.out hfs rfl Try.mc_inf rfl ⟨rfl, below_stored HZ V1.out.bel (by omega)⟩
end Go.Proofs.Ytepngbdjobckbaa
