/- -/
import Derived.Test.YtepngbdjobckbaaN
namespace Go.Proofs.Ytepngbdjobckbaa
open Go.RowKit
set_option linter.unusedVariables false
attribute [local irreducible] Go.bits

set_option maxHeartbeats 1000000 in
set_option maxRecDepth 100000 in
theorem mpop_1 (w : World) (A : Option Addr) (n c : Nat) (B : Option Addr) (m d : Nat) (t : Int) (what ch th : Nat) (ix kd v tt h ok ov a : Int) (y z : Bool) (LA : Option Addr) (ln lc : Nat) :
    Calls Try.prog 53 #[.agg (Mc.cells A n c B m d t ⟨what, 1, ch, th, ix, kd, v, tt, h, ok, ov⟩), .agg #[.int .u64 a, .bool y, .bool z, .slice LA ln lc]] w fun e w' => e = .returned (.agg (Mc.cells A n c B m d t (mto ⟨what, 1, ch, th, ix, kd, v, tt, a, ok, ov⟩ 2))) ∧ Below w.heap.size w w' := by
  rw [Mc.cells]
  go_enter Try.func53, Try.ntmps53
  go_wp2_with fail
  refine (mto_any _ A n c B m d t ⟨what, 1, ch, th, ix, kd, v, tt, a, ok, ov⟩ 2).mono ?_
  rintro e w9 ⟨rfl, hb⟩
  have V9 := hide (E3.of hb)
  clear hb
  have HT := hide (V9.out.b3.there (n := 14) rfl)
  go_wp2_with ((with_reducible show wpList _ _ _ _ _ _); refine wpList_store_res (by rfl) 58 _ _ (by rfl) (w.heap.size + 1 + 1) (Mc.cells A n c B m d t (mto ⟨what, 1, ch, th, ix, kd, v, tt, a, ok, ov⟩ 2)) (by rfl) (by rfl) HT.out Try.mc_inf (mc_one _ _ _ _ _ _ _ _) ?_; intro wz HZ)
  obtain ⟨fs, hfs⟩ := Try.mc_und
  exact ret_stored HZ Try.results53 rfl HT.out hfs rfl Try.mc_inf rfl ⟨rfl, below_stored HZ V9.out.bel (by omega)⟩

set_option maxHeartbeats 1000000 in
set_option maxRecDepth 100000 in
theorem mpop_2z (w : World) (A : Option Addr) (n c : Nat) (B : Option Addr) (m d : Nat) (t : Int) (what ch th : Nat) (ix kd v tt h ok ov a : Int) (y z : Bool) (LA : Option Addr) (ln lc : Nat) (r : Int) (hr : rest (a / 2) h = r) (he : (r == 0) = true) :
    Calls Try.prog 53 #[.agg (Mc.cells A n c B m d t ⟨what, 2, ch, th, ix, kd, v, tt, h, ok, ov⟩), .agg #[.int .u64 a, .bool y, .bool z, .slice LA ln lc]] w fun e w' => e = .returned (.agg (Mc.cells A n c B m d t (mto ⟨what, 2, ch, th, ix, kd, v, a, h, ok, ov⟩ 3))) ∧ Below w.heap.size w w' := by
  have HS := hide (fun W => mseq_any W A n c B m d t ⟨what, 2, ch, th, ix, kd, v, a, h, ok, ov⟩)
  have hrr : ∀ W, Calls Try.prog 65 #[.int .u64 (a / 2), .int .u64 h] W fun e w' => e = .returned (.int .u64 r) ∧ W = w' := fun W => by rw [← hr]; exact rrest_any _ _ W
  have HR := hide hrr
  clear hrr hr
  rw [Mc.cells]
  go_enter Try.func53, Try.ntmps53
  go_wp2_with fail
  have U0 := fun (u : Up (((w.alloc (.cells #[.int .i64 (what : Nat), .int .i64 2, .slice A n c, .slice B m d, .int .i64 t, .int .i64 (ch : Nat), .int .i64 (th : Nat), .int .i64 ix, .int .i64 kd, .int .u64 v, .int .u64 a, .int .u64 h, .int .i64 ok, .int .u64 ov] 58)).alloc (.cells #[.int .u64 a, .bool y, .bool z, .slice LA ln lc] 53)).alloc (.cells #[.int .i64 0, .int .i64 0, .slice none 0 0, .slice none 0 0, .int .i64 0, .int .i64 0, .int .i64 0, .int .i64 0, .int .i64 0, .int .u64 0, .int .u64 0, .int .u64 0, .int .i64 0, .int .u64 0] 58))) => E3.of u.2
  have c0 := fun u => (bk14 (U0 u).b1).1
  have c1 := fun u => (bk14 (U0 u).b1).2.1
  have c2 := fun u => (bk14 (U0 u).b1).2.2.1
  have c3 := fun u => (bk14 (U0 u).b1).2.2.2.1
  have c4 := fun u => (bk14 (U0 u).b1).2.2.2.2.1
  have c5 := fun u => (bk14 (U0 u).b1).2.2.2.2.2.1
  have c6 := fun u => (bk14 (U0 u).b1).2.2.2.2.2.2.1
  have c7 := fun u => (bk14 (U0 u).b1).2.2.2.2.2.2.2.1
  have c8 := fun u => (bk14 (U0 u).b1).2.2.2.2.2.2.2.2.1
  have c9 := fun u => (bk14 (U0 u).b1).2.2.2.2.2.2.2.2.2.1
  have c10 := fun u => (bk14 (U0 u).b1).2.2.2.2.2.2.2.2.2.2.1
  have c11 := fun u => (bk14 (U0 u).b1).2.2.2.2.2.2.2.2.2.2.2.1
  have c12 := fun u => (bk14 (U0 u).b1).2.2.2.2.2.2.2.2.2.2.2.2.1
  have c13 := fun u => (bk14 (U0 u).b1).2.2.2.2.2.2.2.2.2.2.2.2.2.1
  have a0 := fun u => (bk4 (U0 u).b2).1
  have a1 := fun u => (bk4 (U0 u).b2).2.1
  have a2 := fun u => (bk4 (U0 u).b2).2.2.1
  have a3 := fun u => (bk4 (U0 u).b2).2.2.2.1
  have UU := hide U0
  clear U0
  refine wp_region_up (by kernel_rfl) (by kernel_rfl) ?_
  repeat (go_big_quiet_step (first
    | (go_at_call 93; exact up_call (HS.out _))
    | (go_at_call 65; exact up_same (HR.out _))))
  refine wpQuiet_nil ?_
  rintro _ ⟨u, rfl⟩
  clear c0 c1 c2 c3 c4 c5 c6 c7 c8 c9 c10 c11 c12 c13 a0 a1 a2 a3
  have V1 := hide (UU.out u)
  clear UU
  generalize u.1 = w2 at *
  obtain ⟨c0, c1, c2, c3, c4, c5, c6, c7, c8, c9, c10, c11, c12, c13, f1⟩ := bk14 V1.out.b1
  obtain ⟨a0, a1, a2, a3, g1⟩ := bk4 V1.out.b2
  go_wp2_with fail
  refine (mto_any _ A n c B m d t ⟨what, 2, ch, th, ix, kd, v, a, h, ok, ov⟩ 3).mono ?_
  rintro e w9 ⟨rfl, hb⟩
  have V9 := hide (V1.out.next hb)
  clear c0 c1 c2 c3 c4 c5 c6 c7 c8 c9 c10 c11 c12 c13 f1 a0 a1 a2 a3 g1
  clear hb
  have HT := hide (V9.out.b3.there (n := 14) rfl)
  go_wp2_with ((with_reducible show wpList _ _ _ _ _ _); refine wpList_store_res (by rfl) 58 _ _ (by rfl) (w.heap.size + 1 + 1) (Mc.cells A n c B m d t (mto ⟨what, 2, ch, th, ix, kd, v, a, h, ok, ov⟩ 3)) (by rfl) (by rfl) HT.out Try.mc_inf (mc_one _ _ _ _ _ _ _ _) ?_; intro wz HZ)
  obtain ⟨fs, hfs⟩ := Try.mc_und
  exact ret_stored HZ Try.results53 rfl HT.out hfs rfl Try.mc_inf rfl ⟨rfl, below_stored HZ V9.out.bel (by omega)⟩

set_option maxHeartbeats 1000000 in
set_option maxRecDepth 100000 in
theorem mpop_2g (w : World) (A : Option Addr) (n c : Nat) (B : Option Addr) (m d : Nat) (t : Int) (what ch th : Nat) (ix kd v tt h ok ov a : Int) (y z : Bool) (LA : Option Addr) (ln lc : Nat) (l : List Int) (hcf : Cf w A n l) (hch : ch < n) (r q : Int) (hr : rest (a / 2) h = r) (hq : l.getD ch 0 = q) (he : (r == 0) = false) (hg : decide (q < r) = true) :
    Calls Try.prog 53 #[.agg (Mc.cells A n c B m d t ⟨what, 2, ch, th, ix, kd, v, tt, h, ok, ov⟩), .agg #[.int .u64 a, .bool y, .bool z, .slice LA ln lc]] w fun e w' => e = .returned (.agg (Mc.cells A n c B m d t (mto ⟨what, 2, ch, th, ix, kd, v, a, h, ok, ov⟩ 1))) ∧ Below w.heap.size w w' := by
  have HS := hide (fun W => mseq_any W A n c B m d t ⟨what, 2, ch, th, ix, kd, v, a, h, ok, ov⟩)
  have hrr : ∀ W, Calls Try.prog 65 #[.int .u64 (a / 2), .int .u64 h] W fun e w' => e = .returned (.int .u64 r) ∧ W = w' := fun W => by rw [← hr]; exact rrest_any _ _ W
  have HR := hide hrr
  clear hrr hr
  have hcp : ∀ W, Below w.heap.size w W → Calls Try.prog 100 #[.agg (Mc.cells A n c B m d t ⟨what, 2, ch, th, ix, kd, v, a, h, ok, ov⟩)] W fun e w' => e = .returned (.int .u64 q) ∧ Below W.heap.size W w' := fun W hW => by rw [← hq]; exact mcap_any W A n c B m d t ⟨what, 2, ch, th, ix, kd, v, a, h, ok, ov⟩ l (hcf.below hW) hch
  have HP := hide hcp
  clear hcp hq hcf
  rw [Mc.cells]
  go_enter Try.func53, Try.ntmps53
  go_wp2_with fail
  have U0 := fun (u : Up (((w.alloc (.cells #[.int .i64 (what : Nat), .int .i64 2, .slice A n c, .slice B m d, .int .i64 t, .int .i64 (ch : Nat), .int .i64 (th : Nat), .int .i64 ix, .int .i64 kd, .int .u64 v, .int .u64 a, .int .u64 h, .int .i64 ok, .int .u64 ov] 58)).alloc (.cells #[.int .u64 a, .bool y, .bool z, .slice LA ln lc] 53)).alloc (.cells #[.int .i64 0, .int .i64 0, .slice none 0 0, .slice none 0 0, .int .i64 0, .int .i64 0, .int .i64 0, .int .i64 0, .int .i64 0, .int .u64 0, .int .u64 0, .int .u64 0, .int .i64 0, .int .u64 0] 58))) => E3.of u.2
  have c0 := fun u => (bk14 (U0 u).b1).1
  have c1 := fun u => (bk14 (U0 u).b1).2.1
  have c2 := fun u => (bk14 (U0 u).b1).2.2.1
  have c3 := fun u => (bk14 (U0 u).b1).2.2.2.1
  have c4 := fun u => (bk14 (U0 u).b1).2.2.2.2.1
  have c5 := fun u => (bk14 (U0 u).b1).2.2.2.2.2.1
  have c6 := fun u => (bk14 (U0 u).b1).2.2.2.2.2.2.1
  have c7 := fun u => (bk14 (U0 u).b1).2.2.2.2.2.2.2.1
  have c8 := fun u => (bk14 (U0 u).b1).2.2.2.2.2.2.2.2.1
  have c9 := fun u => (bk14 (U0 u).b1).2.2.2.2.2.2.2.2.2.1
  have c10 := fun u => (bk14 (U0 u).b1).2.2.2.2.2.2.2.2.2.2.1
  have c11 := fun u => (bk14 (U0 u).b1).2.2.2.2.2.2.2.2.2.2.2.1
  have c12 := fun u => (bk14 (U0 u).b1).2.2.2.2.2.2.2.2.2.2.2.2.1
  have c13 := fun u => (bk14 (U0 u).b1).2.2.2.2.2.2.2.2.2.2.2.2.2.1
  have a0 := fun u => (bk4 (U0 u).b2).1
  have a1 := fun u => (bk4 (U0 u).b2).2.1
  have a2 := fun u => (bk4 (U0 u).b2).2.2.1
  have a3 := fun u => (bk4 (U0 u).b2).2.2.2.1
  have UU := hide U0
  clear U0
  refine wp_region_up (by kernel_rfl) (by kernel_rfl) ?_
  repeat (go_big_quiet_step (first
    | (go_at_call 93; exact up_call (HS.out _))
    | (go_at_call 65; exact up_same (HR.out _))))
  refine wpQuiet_nil ?_
  rintro _ ⟨u, rfl⟩
  clear c0 c1 c2 c3 c4 c5 c6 c7 c8 c9 c10 c11 c12 c13 a0 a1 a2 a3
  have V1 := hide (UU.out u)
  clear UU
  generalize u.1 = w2 at *
  obtain ⟨c0, c1, c2, c3, c4, c5, c6, c7, c8, c9, c10, c11, c12, c13, f1⟩ := bk14 V1.out.b1
  obtain ⟨a0, a1, a2, a3, g1⟩ := bk4 V1.out.b2
  go_wp2_with fail
  refine (HP.out _ V1.out.bel).mono ?_
  rintro e w3 ⟨rfl, hb⟩
  have V2 := hide (V1.out.next hb)
  clear c0 c1 c2 c3 c4 c5 c6 c7 c8 c9 c10 c11 c12 c13 f1 a0 a1 a2 a3 g1
  clear hb
  obtain ⟨c0, c1, c2, c3, c4, c5, c6, c7, c8, c9, c10, c11, c12, c13, f1⟩ := bk14 V2.out.b1
  obtain ⟨a0, a1, a2, a3, g1⟩ := bk4 V2.out.b2
  go_wp2_with fail
  refine (mto_any _ A n c B m d t ⟨what, 2, ch, th, ix, kd, v, a, h, ok, ov⟩ 1).mono ?_
  rintro e w9 ⟨rfl, hb⟩
  have V9 := hide (V2.out.next hb)
  clear c0 c1 c2 c3 c4 c5 c6 c7 c8 c9 c10 c11 c12 c13 f1 a0 a1 a2 a3 g1
  clear hb
  have HT := hide (V9.out.b3.there (n := 14) rfl)
  go_wp2_with ((with_reducible show wpList _ _ _ _ _ _); refine wpList_store_res (by rfl) 58 _ _ (by rfl) (w.heap.size + 1 + 1) (Mc.cells A n c B m d t (mto ⟨what, 2, ch, th, ix, kd, v, a, h, ok, ov⟩ 1)) (by rfl) (by rfl) HT.out Try.mc_inf (mc_one _ _ _ _ _ _ _ _) ?_; intro wz HZ)
  obtain ⟨fs, hfs⟩ := Try.mc_und
  exact ret_stored HZ Try.results53 rfl HT.out hfs rfl Try.mc_inf rfl ⟨rfl, below_stored HZ V9.out.bel (by omega)⟩

set_option maxHeartbeats 1000000 in
set_option maxRecDepth 100000 in
theorem mpop_2l (w : World) (A : Option Addr) (n c : Nat) (B : Option Addr) (m d : Nat) (t : Int) (what ch th : Nat) (ix kd v tt h ok ov a : Int) (y z : Bool) (LA : Option Addr) (ln lc : Nat) (l : List Int) (hcf : Cf w A n l) (hch : ch < n) (r q : Int) (hr : rest (a / 2) h = r) (hq : l.getD ch 0 = q) (he : (r == 0) = false) (hg : decide (q < r) = false) :
    Calls Try.prog 53 #[.agg (Mc.cells A n c B m d t ⟨what, 2, ch, th, ix, kd, v, tt, h, ok, ov⟩), .agg #[.int .u64 a, .bool y, .bool z, .slice LA ln lc]] w fun e w' => e = .returned (.agg (Mc.cells A n c B m d t (mto ⟨what, 2, ch, th, ix, kd, v, a, h, ok, ov⟩ 4))) ∧ Below w.heap.size w w' := by
  have HS := hide (fun W => mseq_any W A n c B m d t ⟨what, 2, ch, th, ix, kd, v, a, h, ok, ov⟩)
  have hrr : ∀ W, Calls Try.prog 65 #[.int .u64 (a / 2), .int .u64 h] W fun e w' => e = .returned (.int .u64 r) ∧ W = w' := fun W => by rw [← hr]; exact rrest_any _ _ W
  have HR := hide hrr
  clear hrr hr
  have hcp : ∀ W, Below w.heap.size w W → Calls Try.prog 100 #[.agg (Mc.cells A n c B m d t ⟨what, 2, ch, th, ix, kd, v, a, h, ok, ov⟩)] W fun e w' => e = .returned (.int .u64 q) ∧ Below W.heap.size W w' := fun W hW => by rw [← hq]; exact mcap_any W A n c B m d t ⟨what, 2, ch, th, ix, kd, v, a, h, ok, ov⟩ l (hcf.below hW) hch
  have HP := hide hcp
  clear hcp hq hcf
  rw [Mc.cells]
  go_enter Try.func53, Try.ntmps53
  go_wp2_with fail
  have U0 := fun (u : Up (((w.alloc (.cells #[.int .i64 (what : Nat), .int .i64 2, .slice A n c, .slice B m d, .int .i64 t, .int .i64 (ch : Nat), .int .i64 (th : Nat), .int .i64 ix, .int .i64 kd, .int .u64 v, .int .u64 a, .int .u64 h, .int .i64 ok, .int .u64 ov] 58)).alloc (.cells #[.int .u64 a, .bool y, .bool z, .slice LA ln lc] 53)).alloc (.cells #[.int .i64 0, .int .i64 0, .slice none 0 0, .slice none 0 0, .int .i64 0, .int .i64 0, .int .i64 0, .int .i64 0, .int .i64 0, .int .u64 0, .int .u64 0, .int .u64 0, .int .i64 0, .int .u64 0] 58))) => E3.of u.2
  have c0 := fun u => (bk14 (U0 u).b1).1
  have c1 := fun u => (bk14 (U0 u).b1).2.1
  have c2 := fun u => (bk14 (U0 u).b1).2.2.1
  have c3 := fun u => (bk14 (U0 u).b1).2.2.2.1
  have c4 := fun u => (bk14 (U0 u).b1).2.2.2.2.1
  have c5 := fun u => (bk14 (U0 u).b1).2.2.2.2.2.1
  have c6 := fun u => (bk14 (U0 u).b1).2.2.2.2.2.2.1
  have c7 := fun u => (bk14 (U0 u).b1).2.2.2.2.2.2.2.1
  have c8 := fun u => (bk14 (U0 u).b1).2.2.2.2.2.2.2.2.1
  have c9 := fun u => (bk14 (U0 u).b1).2.2.2.2.2.2.2.2.2.1
  have c10 := fun u => (bk14 (U0 u).b1).2.2.2.2.2.2.2.2.2.2.1
  have c11 := fun u => (bk14 (U0 u).b1).2.2.2.2.2.2.2.2.2.2.2.1
  have c12 := fun u => (bk14 (U0 u).b1).2.2.2.2.2.2.2.2.2.2.2.2.1
  have c13 := fun u => (bk14 (U0 u).b1).2.2.2.2.2.2.2.2.2.2.2.2.2.1
  have a0 := fun u => (bk4 (U0 u).b2).1
  have a1 := fun u => (bk4 (U0 u).b2).2.1
  have a2 := fun u => (bk4 (U0 u).b2).2.2.1
  have a3 := fun u => (bk4 (U0 u).b2).2.2.2.1
  have UU := hide U0
  clear U0
  refine wp_region_up (by kernel_rfl) (by kernel_rfl) ?_
  repeat (go_big_quiet_step (first
    | (go_at_call 93; exact up_call (HS.out _))
    | (go_at_call 65; exact up_same (HR.out _))))
  refine wpQuiet_nil ?_
  rintro _ ⟨u, rfl⟩
  clear c0 c1 c2 c3 c4 c5 c6 c7 c8 c9 c10 c11 c12 c13 a0 a1 a2 a3
  have V1 := hide (UU.out u)
  clear UU
  generalize u.1 = w2 at *
  obtain ⟨c0, c1, c2, c3, c4, c5, c6, c7, c8, c9, c10, c11, c12, c13, f1⟩ := bk14 V1.out.b1
  obtain ⟨a0, a1, a2, a3, g1⟩ := bk4 V1.out.b2
  go_wp2_with fail
  refine (HP.out _ V1.out.bel).mono ?_
  rintro e w3 ⟨rfl, hb⟩
  have V2 := hide (V1.out.next hb)
  clear c0 c1 c2 c3 c4 c5 c6 c7 c8 c9 c10 c11 c12 c13 f1 a0 a1 a2 a3 g1
  clear hb
  obtain ⟨c0, c1, c2, c3, c4, c5, c6, c7, c8, c9, c10, c11, c12, c13, f1⟩ := bk14 V2.out.b1
  obtain ⟨a0, a1, a2, a3, g1⟩ := bk4 V2.out.b2
  go_wp2_with fail
  refine (mto_any _ A n c B m d t ⟨what, 2, ch, th, ix, kd, v, a, h, ok, ov⟩ 4).mono ?_
  rintro e w9 ⟨rfl, hb⟩
  have V9 := hide (V2.out.next hb)
  clear c0 c1 c2 c3 c4 c5 c6 c7 c8 c9 c10 c11 c12 c13 f1 a0 a1 a2 a3 g1
  clear hb
  have HT := hide (V9.out.b3.there (n := 14) rfl)
  go_wp2_with ((with_reducible show wpList _ _ _ _ _ _); refine wpList_store_res (by rfl) 58 _ _ (by rfl) (w.heap.size + 1 + 1) (Mc.cells A n c B m d t (mto ⟨what, 2, ch, th, ix, kd, v, a, h, ok, ov⟩ 4)) (by rfl) (by rfl) HT.out Try.mc_inf (mc_one _ _ _ _ _ _ _ _) ?_; intro wz HZ)
  obtain ⟨fs, hfs⟩ := Try.mc_und
  exact ret_stored HZ Try.results53 rfl HT.out hfs rfl Try.mc_inf rfl ⟨rfl, below_stored HZ V9.out.bel (by omega)⟩

set_option maxHeartbeats 1000000 in
set_option maxRecDepth 100000 in
theorem mpop_3n (w : World) (A : Option Addr) (n c : Nat) (B : Option Addr) (m d : Nat) (t : Int) (what ch th : Nat) (ix kd v tt h ok ov a : Int) (y z : Bool) (LA : Option Addr) (ln lc : Nat) (he : (a != h) = true) :
    Calls Try.prog 53 #[.agg (Mc.cells A n c B m d t ⟨what, 3, ch, th, ix, kd, v, tt, h, ok, ov⟩), .agg #[.int .u64 a, .bool y, .bool z, .slice LA ln lc]] w fun e w' => e = .returned (.agg (Mc.cells A n c B m d t (mto ⟨what, 3, ch, th, ix, kd, v, tt, a, ok, ov⟩ 2))) ∧ Below w.heap.size w w' := by
  rw [Mc.cells]
  go_enter Try.func53, Try.ntmps53
  go_wp2_with fail
  refine (mto_any _ A n c B m d t ⟨what, 3, ch, th, ix, kd, v, tt, a, ok, ov⟩ 2).mono ?_
  rintro e w9 ⟨rfl, hb⟩
  have V9 := hide (E3.of hb)
  clear hb
  have HT := hide (V9.out.b3.there (n := 14) rfl)
  go_wp2_with ((with_reducible show wpList _ _ _ _ _ _); refine wpList_store_res (by rfl) 58 _ _ (by rfl) (w.heap.size + 1 + 1) (Mc.cells A n c B m d t (mto ⟨what, 3, ch, th, ix, kd, v, tt, a, ok, ov⟩ 2)) (by rfl) (by rfl) HT.out Try.mc_inf (mc_one _ _ _ _ _ _ _ _) ?_; intro wz HZ)
  obtain ⟨fs, hfs⟩ := Try.mc_und
  exact ret_stored HZ Try.results53 rfl HT.out hfs rfl Try.mc_inf rfl ⟨rfl, below_stored HZ V9.out.bel (by omega)⟩

set_option maxHeartbeats 1000000 in
set_option maxRecDepth 100000 in
theorem mpop_3c (w : World) (A : Option Addr) (n c : Nat) (B : Option Addr) (m d : Nat) (t : Int) (what ch th : Nat) (ix kd v tt h ok ov a : Int) (y z : Bool) (LA : Option Addr) (ln lc : Nat) (he : (a != h) = false) (ha : u64 tt) (hcl : cl tt = true) :
    Calls Try.prog 53 #[.agg (Mc.cells A n c B m d t ⟨what, 3, ch, th, ix, kd, v, tt, h, ok, ov⟩), .agg #[.int .u64 a, .bool y, .bool z, .slice LA ln lc]] w fun e w' => e = .returned (.agg (Mc.cells A n c B m d t (mend ⟨what, 3, ch, th, ix, kd, v, tt, h, ok, ov⟩ 5 0))) ∧ Below w.heap.size w w' := by
  have hc := fun W => rclosed_any tt W ha.1 ha.2
  rw [hcl] at hc
  have HC := hide hc
  clear hc hcl ha
  rw [Mc.cells]
  go_enter Try.func53, Try.ntmps53
  go_wp2_with (first
    | (go_at_call 67; refine (HC.out _).mono ?_; rintro e w' ⟨rfl, rfl⟩))
  refine (mend_any _ A n c B m d t ⟨what, 3, ch, th, ix, kd, v, tt, h, ok, ov⟩ 5 0).mono ?_
  rintro e w9 ⟨rfl, hb⟩
  have V9 := hide (E3.of hb)
  clear hb
  have HT := hide (V9.out.b3.there (n := 14) rfl)
  go_wp2_with ((with_reducible show wpList _ _ _ _ _ _); refine wpList_store_res (by rfl) 58 _ _ (by rfl) (w.heap.size + 1 + 1) (Mc.cells A n c B m d t (mend ⟨what, 3, ch, th, ix, kd, v, tt, h, ok, ov⟩ 5 0)) (by rfl) (by rfl) HT.out Try.mc_inf (mc_one _ _ _ _ _ _ _ _) ?_; intro wz HZ)
  obtain ⟨fs, hfs⟩ := Try.mc_und
  exact ret_stored HZ Try.results53 rfl HT.out hfs rfl Try.mc_inf rfl ⟨rfl, below_stored HZ V9.out.bel (by omega)⟩

set_option maxHeartbeats 1000000 in
set_option maxRecDepth 100000 in
theorem mpop_3e (w : World) (A : Option Addr) (n c : Nat) (B : Option Addr) (m d : Nat) (t : Int) (what ch th : Nat) (ix kd v tt h ok ov a : Int) (y z : Bool) (LA : Option Addr) (ln lc : Nat) (he : (a != h) = false) (ha : u64 tt) (hcl : cl tt = false) :
    Calls Try.prog 53 #[.agg (Mc.cells A n c B m d t ⟨what, 3, ch, th, ix, kd, v, tt, h, ok, ov⟩), .agg #[.int .u64 a, .bool y, .bool z, .slice LA ln lc]] w fun e w' => e = .returned (.agg (Mc.cells A n c B m d t (mend ⟨what, 3, ch, th, ix, kd, v, tt, h, ok, ov⟩ 3 0))) ∧ Below w.heap.size w w' := by
  have hc := fun W => rclosed_any tt W ha.1 ha.2
  rw [hcl] at hc
  have HC := hide hc
  clear hc hcl ha
  rw [Mc.cells]
  go_enter Try.func53, Try.ntmps53
  go_wp2_with (first
    | (go_at_call 67; refine (HC.out _).mono ?_; rintro e w' ⟨rfl, rfl⟩))
  refine (mend_any _ A n c B m d t ⟨what, 3, ch, th, ix, kd, v, tt, h, ok, ov⟩ 3 0).mono ?_
  rintro e w9 ⟨rfl, hb⟩
  have V9 := hide (E3.of hb)
  clear hb
  have HT := hide (V9.out.b3.there (n := 14) rfl)
  go_wp2_with ((with_reducible show wpList _ _ _ _ _ _); refine wpList_store_res (by rfl) 58 _ _ (by rfl) (w.heap.size + 1 + 1) (Mc.cells A n c B m d t (mend ⟨what, 3, ch, th, ix, kd, v, tt, h, ok, ov⟩ 3 0)) (by rfl) (by rfl) HT.out Try.mc_inf (mc_one _ _ _ _ _ _ _ _) ?_; intro wz HZ)
  obtain ⟨fs, hfs⟩ := Try.mc_und
  exact ret_stored HZ Try.results53 rfl HT.out hfs rfl Try.mc_inf rfl ⟨rfl, below_stored HZ V9.out.bel (by omega)⟩

set_option maxHeartbeats 1000000 in
set_option maxRecDepth 100000 in
theorem mpop_4e (w : World) (A : Option Addr) (n c : Nat) (B : Option Addr) (m d : Nat) (t : Int) (what ch th : Nat) (ix kd v tt h ok ov a : Int) (y z : Bool) (LA : Option Addr) (ln lc : Nat) (r : Int) (hr : nx h 1 = r) (he : (a == r) = true) :
    Calls Try.prog 53 #[.agg (Mc.cells A n c B m d t ⟨what, 4, ch, th, ix, kd, v, tt, h, ok, ov⟩), .agg #[.int .u64 a, .bool y, .bool z, .slice LA ln lc]] w fun e w' => e = .returned (.agg (Mc.cells A n c B m d t (mto ⟨what, 4, ch, th, ix, kd, v, tt, h, ok, ov⟩ 5))) ∧ Below w.heap.size w w' := by
  have hnx : ∀ W, Calls Try.prog 86 #[.int .u64 h, .int .i64 1] W fun e w' => e = .returned (.int .u64 r) ∧ W = w' := fun W => by rw [← hr]; exact rnext_any _ _ W
  have HX := hide hnx
  clear hnx hr
  rw [Mc.cells]
  go_enter Try.func53, Try.ntmps53
  go_wp2_with fail
  have U0 := fun (u : Up (((w.alloc (.cells #[.int .i64 (what : Nat), .int .i64 4, .slice A n c, .slice B m d, .int .i64 t, .int .i64 (ch : Nat), .int .i64 (th : Nat), .int .i64 ix, .int .i64 kd, .int .u64 v, .int .u64 tt, .int .u64 h, .int .i64 ok, .int .u64 ov] 58)).alloc (.cells #[.int .u64 a, .bool y, .bool z, .slice LA ln lc] 53)).alloc (.cells #[.int .i64 0, .int .i64 0, .slice none 0 0, .slice none 0 0, .int .i64 0, .int .i64 0, .int .i64 0, .int .i64 0, .int .i64 0, .int .u64 0, .int .u64 0, .int .u64 0, .int .i64 0, .int .u64 0] 58))) => E3.of u.2
  have c0 := fun u => (bk14 (U0 u).b1).1
  have c1 := fun u => (bk14 (U0 u).b1).2.1
  have c2 := fun u => (bk14 (U0 u).b1).2.2.1
  have c3 := fun u => (bk14 (U0 u).b1).2.2.2.1
  have c4 := fun u => (bk14 (U0 u).b1).2.2.2.2.1
  have c5 := fun u => (bk14 (U0 u).b1).2.2.2.2.2.1
  have c6 := fun u => (bk14 (U0 u).b1).2.2.2.2.2.2.1
  have c7 := fun u => (bk14 (U0 u).b1).2.2.2.2.2.2.2.1
  have c8 := fun u => (bk14 (U0 u).b1).2.2.2.2.2.2.2.2.1
  have c9 := fun u => (bk14 (U0 u).b1).2.2.2.2.2.2.2.2.2.1
  have c10 := fun u => (bk14 (U0 u).b1).2.2.2.2.2.2.2.2.2.2.1
  have c11 := fun u => (bk14 (U0 u).b1).2.2.2.2.2.2.2.2.2.2.2.1
  have c12 := fun u => (bk14 (U0 u).b1).2.2.2.2.2.2.2.2.2.2.2.2.1
  have c13 := fun u => (bk14 (U0 u).b1).2.2.2.2.2.2.2.2.2.2.2.2.2.1
  have a0 := fun u => (bk4 (U0 u).b2).1
  have a1 := fun u => (bk4 (U0 u).b2).2.1
  have a2 := fun u => (bk4 (U0 u).b2).2.2.1
  have a3 := fun u => (bk4 (U0 u).b2).2.2.2.1
  have UU := hide U0
  clear U0
  refine wp_region_up (by kernel_rfl) (by kernel_rfl) ?_
  repeat (go_big_quiet_step (first
    | (go_at_call 86; exact up_same (HX.out _))))
  refine wpQuiet_nil ?_
  rintro _ ⟨u, rfl⟩
  clear c0 c1 c2 c3 c4 c5 c6 c7 c8 c9 c10 c11 c12 c13 a0 a1 a2 a3
  have V1 := hide (UU.out u)
  clear UU
  generalize u.1 = w2 at *
  obtain ⟨c0, c1, c2, c3, c4, c5, c6, c7, c8, c9, c10, c11, c12, c13, f1⟩ := bk14 V1.out.b1
  obtain ⟨a0, a1, a2, a3, g1⟩ := bk4 V1.out.b2
  go_wp2_with fail
  refine (mto_any _ A n c B m d t ⟨what, 4, ch, th, ix, kd, v, tt, h, ok, ov⟩ 5).mono ?_
  rintro e w9 ⟨rfl, hb⟩
  have V9 := hide (V1.out.next hb)
  clear c0 c1 c2 c3 c4 c5 c6 c7 c8 c9 c10 c11 c12 c13 f1 a0 a1 a2 a3 g1
  clear hb
  have HT := hide (V9.out.b3.there (n := 14) rfl)
  go_wp2_with ((with_reducible show wpList _ _ _ _ _ _); refine wpList_store_res (by rfl) 58 _ _ (by rfl) (w.heap.size + 1 + 1) (Mc.cells A n c B m d t (mto ⟨what, 4, ch, th, ix, kd, v, tt, h, ok, ov⟩ 5)) (by rfl) (by rfl) HT.out Try.mc_inf (mc_one _ _ _ _ _ _ _ _) ?_; intro wz HZ)
  obtain ⟨fs, hfs⟩ := Try.mc_und
  exact ret_stored HZ Try.results53 rfl HT.out hfs rfl Try.mc_inf rfl ⟨rfl, below_stored HZ V9.out.bel (by omega)⟩

set_option maxHeartbeats 1000000 in
set_option maxRecDepth 100000 in
theorem mpop_4n (w : World) (A : Option Addr) (n c : Nat) (B : Option Addr) (m d : Nat) (t : Int) (what ch th : Nat) (ix kd v tt h ok ov a : Int) (y z : Bool) (LA : Option Addr) (ln lc : Nat) (r : Int) (hr : nx h 1 = r) (he : (a == r) = false) :
    Calls Try.prog 53 #[.agg (Mc.cells A n c B m d t ⟨what, 4, ch, th, ix, kd, v, tt, h, ok, ov⟩), .agg #[.int .u64 a, .bool y, .bool z, .slice LA ln lc]] w fun e w' => e = .returned (.agg (Mc.cells A n c B m d t (mto ⟨what, 4, ch, th, ix, kd, v, tt, h, ok, ov⟩ 1))) ∧ Below w.heap.size w w' := by
  have hnx : ∀ W, Calls Try.prog 86 #[.int .u64 h, .int .i64 1] W fun e w' => e = .returned (.int .u64 r) ∧ W = w' := fun W => by rw [← hr]; exact rnext_any _ _ W
  have HX := hide hnx
  clear hnx hr
  rw [Mc.cells]
  go_enter Try.func53, Try.ntmps53
  go_wp2_with fail
  have U0 := fun (u : Up (((w.alloc (.cells #[.int .i64 (what : Nat), .int .i64 4, .slice A n c, .slice B m d, .int .i64 t, .int .i64 (ch : Nat), .int .i64 (th : Nat), .int .i64 ix, .int .i64 kd, .int .u64 v, .int .u64 tt, .int .u64 h, .int .i64 ok, .int .u64 ov] 58)).alloc (.cells #[.int .u64 a, .bool y, .bool z, .slice LA ln lc] 53)).alloc (.cells #[.int .i64 0, .int .i64 0, .slice none 0 0, .slice none 0 0, .int .i64 0, .int .i64 0, .int .i64 0, .int .i64 0, .int .i64 0, .int .u64 0, .int .u64 0, .int .u64 0, .int .i64 0, .int .u64 0] 58))) => E3.of u.2
  have c0 := fun u => (bk14 (U0 u).b1).1
  have c1 := fun u => (bk14 (U0 u).b1).2.1
  have c2 := fun u => (bk14 (U0 u).b1).2.2.1
  have c3 := fun u => (bk14 (U0 u).b1).2.2.2.1
  have c4 := fun u => (bk14 (U0 u).b1).2.2.2.2.1
  have c5 := fun u => (bk14 (U0 u).b1).2.2.2.2.2.1
  have c6 := fun u => (bk14 (U0 u).b1).2.2.2.2.2.2.1
  have c7 := fun u => (bk14 (U0 u).b1).2.2.2.2.2.2.2.1
  have c8 := fun u => (bk14 (U0 u).b1).2.2.2.2.2.2.2.2.1
  have c9 := fun u => (bk14 (U0 u).b1).2.2.2.2.2.2.2.2.2.1
  have c10 := fun u => (bk14 (U0 u).b1).2.2.2.2.2.2.2.2.2.2.1
  have c11 := fun u => (bk14 (U0 u).b1).2.2.2.2.2.2.2.2.2.2.2.1
  have c12 := fun u => (bk14 (U0 u).b1).2.2.2.2.2.2.2.2.2.2.2.2.1
  have c13 := fun u => (bk14 (U0 u).b1).2.2.2.2.2.2.2.2.2.2.2.2.2.1
  have a0 := fun u => (bk4 (U0 u).b2).1
  have a1 := fun u => (bk4 (U0 u).b2).2.1
  have a2 := fun u => (bk4 (U0 u).b2).2.2.1
  have a3 := fun u => (bk4 (U0 u).b2).2.2.2.1
  have UU := hide U0
  clear U0
  refine wp_region_up (by kernel_rfl) (by kernel_rfl) ?_
  repeat (go_big_quiet_step (first
    | (go_at_call 86; exact up_same (HX.out _))))
  refine wpQuiet_nil ?_
  rintro _ ⟨u, rfl⟩
  clear c0 c1 c2 c3 c4 c5 c6 c7 c8 c9 c10 c11 c12 c13 a0 a1 a2 a3
  have V1 := hide (UU.out u)
  clear UU
  generalize u.1 = w2 at *
  obtain ⟨c0, c1, c2, c3, c4, c5, c6, c7, c8, c9, c10, c11, c12, c13, f1⟩ := bk14 V1.out.b1
  obtain ⟨a0, a1, a2, a3, g1⟩ := bk4 V1.out.b2
  go_wp2_with fail
  refine (mto_any _ A n c B m d t ⟨what, 4, ch, th, ix, kd, v, tt, h, ok, ov⟩ 1).mono ?_
  rintro e w9 ⟨rfl, hb⟩
  have V9 := hide (V1.out.next hb)
  clear c0 c1 c2 c3 c4 c5 c6 c7 c8 c9 c10 c11 c12 c13 f1 a0 a1 a2 a3 g1
  clear hb
  have HT := hide (V9.out.b3.there (n := 14) rfl)
  go_wp2_with ((with_reducible show wpList _ _ _ _ _ _); refine wpList_store_res (by rfl) 58 _ _ (by rfl) (w.heap.size + 1 + 1) (Mc.cells A n c B m d t (mto ⟨what, 4, ch, th, ix, kd, v, tt, h, ok, ov⟩ 1)) (by rfl) (by rfl) HT.out Try.mc_inf (mc_one _ _ _ _ _ _ _ _) ?_; intro wz HZ)
  obtain ⟨fs, hfs⟩ := Try.mc_und
  exact ret_stored HZ Try.results53 rfl HT.out hfs rfl Try.mc_inf rfl ⟨rfl, below_stored HZ V9.out.bel (by omega)⟩

set_option maxHeartbeats 1000000 in
set_option maxRecDepth 100000 in
theorem mpop_5y (w : World) (A : Option Addr) (n c : Nat) (B : Option Addr) (m d : Nat) (t : Int) (what ch th : Nat) (ix kd v tt h ok ov a : Int) (z : Bool) (LA : Option Addr) (ln lc : Nat) :
    Calls Try.prog 53 #[.agg (Mc.cells A n c B m d t ⟨what, 5, ch, th, ix, kd, v, tt, h, ok, ov⟩), .agg #[.int .u64 a, .bool true, .bool z, .slice LA ln lc]] w fun e w' => e = .returned (.agg (Mc.cells A n c B m d t (mto ⟨what, 5, ch, th, ix, kd, v, tt, h, ok, ov⟩ 6))) ∧ Below w.heap.size w w' := by
  rw [Mc.cells]
  go_enter Try.func53, Try.ntmps53
  go_wp2_with fail
  refine (mto_any _ A n c B m d t ⟨what, 5, ch, th, ix, kd, v, tt, h, ok, ov⟩ 6).mono ?_
  rintro e w9 ⟨rfl, hb⟩
  have V9 := hide (E3.of hb)
  clear hb
  have HT := hide (V9.out.b3.there (n := 14) rfl)
  go_wp2_with ((with_reducible show wpList _ _ _ _ _ _); refine wpList_store_res (by rfl) 58 _ _ (by rfl) (w.heap.size + 1 + 1) (Mc.cells A n c B m d t (mto ⟨what, 5, ch, th, ix, kd, v, tt, h, ok, ov⟩ 6)) (by rfl) (by rfl) HT.out Try.mc_inf (mc_one _ _ _ _ _ _ _ _) ?_; intro wz HZ)
  obtain ⟨fs, hfs⟩ := Try.mc_und
  exact ret_stored HZ Try.results53 rfl HT.out hfs rfl Try.mc_inf rfl ⟨rfl, below_stored HZ V9.out.bel (by omega)⟩

set_option maxHeartbeats 1000000 in
set_option maxRecDepth 100000 in
theorem mpop_5n (w : World) (A : Option Addr) (n c : Nat) (B : Option Addr) (m d : Nat) (t : Int) (what ch th : Nat) (ix kd v tt h ok ov a : Int) (z : Bool) (LA : Option Addr) (ln lc : Nat) :
    Calls Try.prog 53 #[.agg (Mc.cells A n c B m d t ⟨what, 5, ch, th, ix, kd, v, tt, h, ok, ov⟩), .agg #[.int .u64 a, .bool false, .bool z, .slice LA ln lc]] w fun e w' => e = .returned (.agg (Mc.cells A n c B m d t (mto ⟨what, 5, ch, th, ix, kd, v, tt, h, ok, ov⟩ 1))) ∧ Below w.heap.size w w' := by
  rw [Mc.cells]
  go_enter Try.func53, Try.ntmps53
  go_wp2_with fail
  refine (mto_any _ A n c B m d t ⟨what, 5, ch, th, ix, kd, v, tt, h, ok, ov⟩ 1).mono ?_
  rintro e w9 ⟨rfl, hb⟩
  have V9 := hide (E3.of hb)
  clear hb
  have HT := hide (V9.out.b3.there (n := 14) rfl)
  go_wp2_with ((with_reducible show wpList _ _ _ _ _ _); refine wpList_store_res (by rfl) 58 _ _ (by rfl) (w.heap.size + 1 + 1) (Mc.cells A n c B m d t (mto ⟨what, 5, ch, th, ix, kd, v, tt, h, ok, ov⟩ 1)) (by rfl) (by rfl) HT.out Try.mc_inf (mc_one _ _ _ _ _ _ _ _) ?_; intro wz HZ)
  obtain ⟨fs, hfs⟩ := Try.mc_und
  exact ret_stored HZ Try.results53 rfl HT.out hfs rfl Try.mc_inf rfl ⟨rfl, below_stored HZ V9.out.bel (by omega)⟩

set_option maxHeartbeats 1000000 in
set_option maxRecDepth 100000 in
theorem mpop_6 (w : World) (A : Option Addr) (n c : Nat) (B : Option Addr) (m d : Nat) (t : Int) (what ch th : Nat) (ix kd v tt h ok ov a : Int) (y z : Bool) (LA : Option Addr) (ln lc : Nat) :
    Calls Try.prog 53 #[.agg (Mc.cells A n c B m d t ⟨what, 6, ch, th, ix, kd, v, tt, h, ok, ov⟩), .agg #[.int .u64 a, .bool y, .bool z, .slice LA ln lc]] w fun e w' => e = .returned (.agg (Mc.cells A n c B m d t (mto ⟨what, 6, ch, th, ix, kd, a, tt, h, ok, ov⟩ 7))) ∧ Below w.heap.size w w' := by
  rw [Mc.cells]
  go_enter Try.func53, Try.ntmps53
  go_wp2_with fail
  refine (mto_any _ A n c B m d t ⟨what, 6, ch, th, ix, kd, a, tt, h, ok, ov⟩ 7).mono ?_
  rintro e w9 ⟨rfl, hb⟩
  have V9 := hide (E3.of hb)
  clear hb
  have HT := hide (V9.out.b3.there (n := 14) rfl)
  go_wp2_with ((with_reducible show wpList _ _ _ _ _ _); refine wpList_store_res (by rfl) 58 _ _ (by rfl) (w.heap.size + 1 + 1) (Mc.cells A n c B m d t (mto ⟨what, 6, ch, th, ix, kd, a, tt, h, ok, ov⟩ 7)) (by rfl) (by rfl) HT.out Try.mc_inf (mc_one _ _ _ _ _ _ _ _) ?_; intro wz HZ)
  obtain ⟨fs, hfs⟩ := Try.mc_und
  exact ret_stored HZ Try.results53 rfl HT.out hfs rfl Try.mc_inf rfl ⟨rfl, below_stored HZ V9.out.bel (by omega)⟩

set_option maxHeartbeats 1000000 in
set_option maxRecDepth 100000 in
theorem mpop_7 (w : World) (A : Option Addr) (n c : Nat) (B : Option Addr) (m d : Nat) (t : Int) (what ch th : Nat) (ix kd v tt h ok ov a : Int) (y z : Bool) (LA : Option Addr) (ln lc : Nat) :
    Calls Try.prog 53 #[.agg (Mc.cells A n c B m d t ⟨what, 7, ch, th, ix, kd, v, tt, h, ok, ov⟩), .agg #[.int .u64 a, .bool y, .bool z, .slice LA ln lc]] w fun e w' => e = .returned (.agg (Mc.cells A n c B m d t (mend ⟨what, 7, ch, th, ix, kd, v, tt, h, ok, ov⟩ 6 v))) ∧ Below w.heap.size w w' := by
  rw [Mc.cells]
  go_enter Try.func53, Try.ntmps53
  go_wp2_with fail
  refine (mend_any _ A n c B m d t ⟨what, 7, ch, th, ix, kd, v, tt, h, ok, ov⟩ 6 v).mono ?_
  rintro e w9 ⟨rfl, hb⟩
  have V9 := hide (E3.of hb)
  clear hb
  have HT := hide (V9.out.b3.there (n := 14) rfl)
  go_wp2_with ((with_reducible show wpList _ _ _ _ _ _); refine wpList_store_res (by rfl) 58 _ _ (by rfl) (w.heap.size + 1 + 1) (Mc.cells A n c B m d t (mend ⟨what, 7, ch, th, ix, kd, v, tt, h, ok, ov⟩ 6 v)) (by rfl) (by rfl) HT.out Try.mc_inf (mc_one _ _ _ _ _ _ _ _) ?_; intro wz HZ)
  obtain ⟨fs, hfs⟩ := Try.mc_und
  exact ret_stored HZ Try.results53 rfl HT.out hfs rfl Try.mc_inf rfl ⟨rfl, below_stored HZ V9.out.bel (by omega)⟩
end Go.Proofs.Ytepngbdjobckbaa
