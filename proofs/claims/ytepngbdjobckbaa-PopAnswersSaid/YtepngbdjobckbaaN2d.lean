/- Several texts in one. -/
import Derived.Test.YtepngbdjobckbaaN
section
namespace Go.Proofs.Ytepngbdjobckbaa
open Go.RowKit
set_option linter.unusedVariables false
attribute [local irreducible] Go.bits

set_option maxHeartbeats 1000000 in
set_option maxRecDepth 100000 in
theorem mres_1y (w : World) (A : Option Addr) (n c : Nat) (B : Option Addr) (m d : Nat) (t : Int) (at_ ch th : Nat) (ix kd v tt h ok ov a : Int) (z : Bool) (LA : Option Addr) (ln lc : Nat) (hat : ((at_ : Int) == 0) = false) :
    Calls Try.prog 22 #[.agg (Mc.cells A n c B m d t ⟨1, at_, ch, th, ix, kd, v, tt, h, ok, ov⟩), .agg #[.int .u64 a, .bool true, .bool z, .slice LA ln lc]] w fun e w' => e = .returned (.agg (Mc.cells A n c B m d t (mend ⟨1, at_, ch, th, ix, kd, v, tt, h, ok, ov⟩ 1 0))) ∧ Below w.heap.size w w' := by
  rw [Mc.cells]
  go_enter Try.func22, Try.ntmps22
  go_wp2_with fail
  refine (mend_any _ A n c B m d t ⟨1, at_, ch, th, ix, kd, v, tt, h, ok, ov⟩ 1 0).mono ?_
  rintro e w9 ⟨rfl, hb⟩
  have V9 := hide (E3.of hb)
  clear hb
  have HT := hide (V9.out.b3.there (n := 14) rfl)
  go_wp2_with ((with_reducible show wpList _ _ _ _ _ _); refine wpList_store_res (by rfl) 58 _ _ (by rfl) (w.heap.size + 1 + 1) (Mc.cells A n c B m d t (mend ⟨1, at_, ch, th, ix, kd, v, tt, h, ok, ov⟩ 1 0)) (by rfl) (by rfl) HT.out Try.mc_inf (mc_one _ _ _ _ _ _ _ _) ?_; intro wz HZ)
  obtain ⟨fs, hfs⟩ := Try.mc_und
  exact ret_stored HZ Try.results22 rfl HT.out hfs rfl Try.mc_inf rfl ⟨rfl, below_stored HZ V9.out.bel (by omega)⟩

set_option maxHeartbeats 1000000 in
set_option maxRecDepth 100000 in
theorem mres_1n (w : World) (A : Option Addr) (n c : Nat) (B : Option Addr) (m d : Nat) (t : Int) (at_ ch th : Nat) (ix kd v tt h ok ov a : Int) (z : Bool) (LA : Option Addr) (ln lc : Nat) (hat : ((at_ : Int) == 0) = false) :
    Calls Try.prog 22 #[.agg (Mc.cells A n c B m d t ⟨1, at_, ch, th, ix, kd, v, tt, h, ok, ov⟩), .agg #[.int .u64 a, .bool false, .bool z, .slice LA ln lc]] w fun e w' => e = .returned (.agg (Mc.cells A n c B m d t ⟨1, at_, ch, th, ix, kd, v, tt, h, ok, ov⟩)) ∧ Below w.heap.size w w' := by
  rw [Mc.cells]
  go_enter Try.func22, Try.ntmps22
  go_wp2
  exact bodyPost_ret (v := .agg (Mc.cells A n c B m d t ⟨1, at_, ch, th, ix, kd, v, tt, h, ok, ov⟩)) (by simp [results, Try.results22, go_sem, Mc.cells]) rfl ⟨rfl, ((below_new _ _).alloc (by simp) _).alloc (by simp; omega) _⟩

set_option maxHeartbeats 1000000 in
set_option maxRecDepth 100000 in
theorem mres_2 (w : World) (A : Option Addr) (n c : Nat) (B : Option Addr) (m d : Nat) (t : Int) (at_ ch th : Nat) (ix kd v tt h ok ov a : Int) (y z : Bool) (LA : Option Addr) (ln lc : Nat) (hat : ((at_ : Int) == 0) = false) :
    Calls Try.prog 22 #[.agg (Mc.cells A n c B m d t ⟨2, at_, ch, th, ix, kd, v, tt, h, ok, ov⟩), .agg #[.int .u64 a, .bool y, .bool z, .slice LA ln lc]] w fun e w' => e = .returned (.agg (Mc.cells A n c B m d t (mend ⟨2, at_, ch, th, ix, kd, v, tt, h, ok, ov⟩ 1 0))) ∧ Below w.heap.size w w' := by
  rw [Mc.cells]
  go_enter Try.func22, Try.ntmps22
  go_wp2_with fail
  refine (mend_any _ A n c B m d t ⟨2, at_, ch, th, ix, kd, v, tt, h, ok, ov⟩ 1 0).mono ?_
  rintro e w9 ⟨rfl, hb⟩
  have V9 := hide (E3.of hb)
  clear hb
  have HT := hide (V9.out.b3.there (n := 14) rfl)
  go_wp2_with ((with_reducible show wpList _ _ _ _ _ _); refine wpList_store_res (by rfl) 58 _ _ (by rfl) (w.heap.size + 1 + 1) (Mc.cells A n c B m d t (mend ⟨2, at_, ch, th, ix, kd, v, tt, h, ok, ov⟩ 1 0)) (by rfl) (by rfl) HT.out Try.mc_inf (mc_one _ _ _ _ _ _ _ _) ?_; intro wz HZ)
  obtain ⟨fs, hfs⟩ := Try.mc_und
  exact ret_stored HZ Try.results22 rfl HT.out hfs rfl Try.mc_inf rfl ⟨rfl, below_stored HZ V9.out.bel (by omega)⟩

set_option maxHeartbeats 1000000 in
set_option maxRecDepth 100000 in
theorem mres_11 (w : World) (A : Option Addr) (n c : Nat) (B : Option Addr) (m d : Nat) (t : Int) (at_ ch th : Nat) (ix kd v tt h ok ov a : Int) (y z : Bool) (LA : Option Addr) (ln lc : Nat) (hat : ((at_ : Int) == 0) = false) :
    Calls Try.prog 22 #[.agg (Mc.cells A n c B m d t ⟨11, at_, ch, th, ix, kd, v, tt, h, ok, ov⟩), .agg #[.int .u64 a, .bool y, .bool z, .slice LA ln lc]] w fun e w' => e = .returned (.agg (Mc.cells A n c B m d t (mend ⟨11, at_, ch, th, ix, kd, v, tt, h, ok, ov⟩ 1 0))) ∧ Below w.heap.size w w' := by
  rw [Mc.cells]
  go_enter Try.func22, Try.ntmps22
  go_wp2_with fail
  refine (mend_any _ A n c B m d t ⟨11, at_, ch, th, ix, kd, v, tt, h, ok, ov⟩ 1 0).mono ?_
  rintro e w9 ⟨rfl, hb⟩
  have V9 := hide (E3.of hb)
  clear hb
  have HT := hide (V9.out.b3.there (n := 14) rfl)
  go_wp2_with ((with_reducible show wpList _ _ _ _ _ _); refine wpList_store_res (by rfl) 58 _ _ (by rfl) (w.heap.size + 1 + 1) (Mc.cells A n c B m d t (mend ⟨11, at_, ch, th, ix, kd, v, tt, h, ok, ov⟩ 1 0)) (by rfl) (by rfl) HT.out Try.mc_inf (mc_one _ _ _ _ _ _ _ _) ?_; intro wz HZ)
  obtain ⟨fs, hfs⟩ := Try.mc_und
  exact ret_stored HZ Try.results22 rfl HT.out hfs rfl Try.mc_inf rfl ⟨rfl, below_stored HZ V9.out.bel (by omega)⟩

set_option maxHeartbeats 1000000 in
set_option maxRecDepth 100000 in
theorem mres_10y (w : World) (A : Option Addr) (n c : Nat) (B : Option Addr) (m d : Nat) (t : Int) (at_ ch th : Nat) (ix kd v tt h ok ov a : Int) (z : Bool) (LA : Option Addr) (ln lc : Nat) (hat : ((at_ : Int) == 0) = false) :
    Calls Try.prog 22 #[.agg (Mc.cells A n c B m d t ⟨10, at_, ch, th, ix, kd, v, tt, h, ok, ov⟩), .agg #[.int .u64 a, .bool true, .bool z, .slice LA ln lc]] w fun e w' => e = .returned (.agg (Mc.cells A n c B m d t (mend ⟨10, at_, ch, th, ix, kd, v, tt, h, ok, ov⟩ 7 0))) ∧ Below w.heap.size w w' := by
  rw [Mc.cells]
  go_enter Try.func22, Try.ntmps22
  go_wp2_with fail
  refine (mend_any _ A n c B m d t ⟨10, at_, ch, th, ix, kd, v, tt, h, ok, ov⟩ 7 0).mono ?_
  rintro e w9 ⟨rfl, hb⟩
  have V9 := hide (E3.of hb)
  clear hb
  have HT := hide (V9.out.b3.there (n := 14) rfl)
  go_wp2_with ((with_reducible show wpList _ _ _ _ _ _); refine wpList_store_res (by rfl) 58 _ _ (by rfl) (w.heap.size + 1 + 1) (Mc.cells A n c B m d t (mend ⟨10, at_, ch, th, ix, kd, v, tt, h, ok, ov⟩ 7 0)) (by rfl) (by rfl) HT.out Try.mc_inf (mc_one _ _ _ _ _ _ _ _) ?_; intro wz HZ)
  obtain ⟨fs, hfs⟩ := Try.mc_und
  exact ret_stored HZ Try.results22 rfl HT.out hfs rfl Try.mc_inf rfl ⟨rfl, below_stored HZ V9.out.bel (by omega)⟩

set_option maxHeartbeats 1000000 in
set_option maxRecDepth 100000 in
theorem mres_10n (w : World) (A : Option Addr) (n c : Nat) (B : Option Addr) (m d : Nat) (t : Int) (at_ ch th : Nat) (ix kd v tt h ok ov a : Int) (z : Bool) (LA : Option Addr) (ln lc : Nat) (hat : ((at_ : Int) == 0) = false) :
    Calls Try.prog 22 #[.agg (Mc.cells A n c B m d t ⟨10, at_, ch, th, ix, kd, v, tt, h, ok, ov⟩), .agg #[.int .u64 a, .bool false, .bool z, .slice LA ln lc]] w fun e w' => e = .returned (.agg (Mc.cells A n c B m d t (mend ⟨10, at_, ch, th, ix, kd, v, tt, h, ok, ov⟩ 8 0))) ∧ Below w.heap.size w w' := by
  rw [Mc.cells]
  go_enter Try.func22, Try.ntmps22
  go_wp2_with fail
  refine (mend_any _ A n c B m d t ⟨10, at_, ch, th, ix, kd, v, tt, h, ok, ov⟩ 8 0).mono ?_
  rintro e w9 ⟨rfl, hb⟩
  have V9 := hide (E3.of hb)
  clear hb
  have HT := hide (V9.out.b3.there (n := 14) rfl)
  go_wp2_with ((with_reducible show wpList _ _ _ _ _ _); refine wpList_store_res (by rfl) 58 _ _ (by rfl) (w.heap.size + 1 + 1) (Mc.cells A n c B m d t (mend ⟨10, at_, ch, th, ix, kd, v, tt, h, ok, ov⟩ 8 0)) (by rfl) (by rfl) HT.out Try.mc_inf (mc_one _ _ _ _ _ _ _ _) ?_; intro wz HZ)
  obtain ⟨fs, hfs⟩ := Try.mc_und
  exact ret_stored HZ Try.results22 rfl HT.out hfs rfl Try.mc_inf rfl ⟨rfl, below_stored HZ V9.out.bel (by omega)⟩
end Go.Proofs.Ytepngbdjobckbaa
end
section
namespace Go.Proofs.Ytepngbdjobckbaa
open Go.RowKit
set_option linter.unusedVariables false
attribute [local irreducible] Go.bits

set_option maxHeartbeats 1000000 in
set_option maxRecDepth 100000 in
theorem mres_7y (w : World) (A : Option Addr) (n c : Nat) (B : Option Addr) (m d : Nat) (t : Int) (at_ ch th : Nat) (ix kd v tt h ok ov a : Int) (z : Bool) (LA : Option Addr) (ln lc : Nat) (hat : ((at_ : Int) == 0) = false) :
    Calls Try.prog 22 #[.agg (Mc.cells A n c B m d t ⟨7, at_, ch, th, ix, kd, v, tt, h, ok, ov⟩), .agg #[.int .u64 a, .bool true, .bool z, .slice LA ln lc]] w fun e w' => e = .returned (.agg (Mc.cells A n c B m d t (mend ⟨7, at_, ch, th, ix, kd, v, tt, h, ok, ov⟩ 7 0))) ∧ Below w.heap.size w w' := by
  rw [Mc.cells]
  go_enter Try.func22, Try.ntmps22
  go_wp2_with fail
  refine (mend_any _ A n c B m d t ⟨7, at_, ch, th, ix, kd, v, tt, h, ok, ov⟩ 7 0).mono ?_
  rintro e w9 ⟨rfl, hb⟩
  have V9 := hide (E3.of hb)
  clear hb
  have HT := hide (V9.out.b3.there (n := 14) rfl)
  go_wp2_with ((with_reducible show wpList _ _ _ _ _ _); refine wpList_store_res (by rfl) 58 _ _ (by rfl) (w.heap.size + 1 + 1) (Mc.cells A n c B m d t (mend ⟨7, at_, ch, th, ix, kd, v, tt, h, ok, ov⟩ 7 0)) (by rfl) (by rfl) HT.out Try.mc_inf (mc_one _ _ _ _ _ _ _ _) ?_; intro wz HZ)
  obtain ⟨fs, hfs⟩ := Try.mc_und
  exact ret_stored HZ Try.results22 rfl HT.out hfs rfl Try.mc_inf rfl ⟨rfl, below_stored HZ V9.out.bel (by omega)⟩

set_option maxHeartbeats 1000000 in
set_option maxRecDepth 100000 in
theorem mres_7r (w : World) (A : Option Addr) (n c : Nat) (B : Option Addr) (m d : Nat) (t : Int) (at_ ch th : Nat) (ix kd v tt h ok ov a : Int) (z : Bool) (LA : Option Addr) (ln lc : Nat) (hat : ((at_ : Int) == 0) = false) (he : (a == 2) = true) :
    Calls Try.prog 22 #[.agg (Mc.cells A n c B m d t ⟨7, at_, ch, th, ix, kd, v, tt, h, ok, ov⟩), .agg #[.int .u64 a, .bool false, .bool z, .slice LA ln lc]] w fun e w' => e = .returned (.agg (Mc.cells A n c B m d t ⟨7, at_, ch, th, ix, kd, v, tt, h, ok, ov⟩)) ∧ Below w.heap.size w w' := by
  rw [Mc.cells]
  go_enter Try.func22, Try.ntmps22
  go_wp2
  exact bodyPost_ret (v := .agg (Mc.cells A n c B m d t ⟨7, at_, ch, th, ix, kd, v, tt, h, ok, ov⟩)) (by simp [results, Try.results22, go_sem, Mc.cells]) rfl ⟨rfl, ((below_new _ _).alloc (by simp) _).alloc (by simp; omega) _⟩

set_option maxHeartbeats 1000000 in
set_option maxRecDepth 100000 in
theorem mres_7n (w : World) (A : Option Addr) (n c : Nat) (B : Option Addr) (m d : Nat) (t : Int) (at_ ch th : Nat) (ix kd v tt h ok ov a : Int) (z : Bool) (LA : Option Addr) (ln lc : Nat) (hat : ((at_ : Int) == 0) = false) (he : (a == 2) = false) :
    Calls Try.prog 22 #[.agg (Mc.cells A n c B m d t ⟨7, at_, ch, th, ix, kd, v, tt, h, ok, ov⟩), .agg #[.int .u64 a, .bool false, .bool z, .slice LA ln lc]] w fun e w' => e = .returned (.agg (Mc.cells A n c B m d t (mend ⟨7, at_, ch, th, ix, kd, v, tt, h, ok, ov⟩ 8 0))) ∧ Below w.heap.size w w' := by
  rw [Mc.cells]
  go_enter Try.func22, Try.ntmps22
  go_wp2_with fail
  refine (mend_any _ A n c B m d t ⟨7, at_, ch, th, ix, kd, v, tt, h, ok, ov⟩ 8 0).mono ?_
  rintro e w9 ⟨rfl, hb⟩
  have V9 := hide (E3.of hb)
  clear hb
  have HT := hide (V9.out.b3.there (n := 14) rfl)
  go_wp2_with ((with_reducible show wpList _ _ _ _ _ _); refine wpList_store_res (by rfl) 58 _ _ (by rfl) (w.heap.size + 1 + 1) (Mc.cells A n c B m d t (mend ⟨7, at_, ch, th, ix, kd, v, tt, h, ok, ov⟩ 8 0)) (by rfl) (by rfl) HT.out Try.mc_inf (mc_one _ _ _ _ _ _ _ _) ?_; intro wz HZ)
  obtain ⟨fs, hfs⟩ := Try.mc_und
  exact ret_stored HZ Try.results22 rfl HT.out hfs rfl Try.mc_inf rfl ⟨rfl, below_stored HZ V9.out.bel (by omega)⟩

set_option maxHeartbeats 1000000 in
set_option maxRecDepth 100000 in
theorem mres_8 (w : World) (A : Option Addr) (n c : Nat) (B : Option Addr) (m d : Nat) (t : Int) (at_ ch th : Nat) (ix kd v tt h ok ov a : Int) (y z : Bool) (LA : Option Addr) (ln lc : Nat) (hat : ((at_ : Int) == 0) = false) :
    Calls Try.prog 22 #[.agg (Mc.cells A n c B m d t ⟨8, at_, ch, th, ix, kd, v, tt, h, ok, ov⟩), .agg #[.int .u64 a, .bool y, .bool z, .slice LA ln lc]] w fun e w' => e = .returned (.agg (Mc.cells A n c B m d t (mend ⟨8, at_, ch, th, ix, kd, v, tt, h, ok, ov⟩ 1 0))) ∧ Below w.heap.size w w' := by
  rw [Mc.cells]
  go_enter Try.func22, Try.ntmps22
  go_wp2_with fail
  refine (mend_any _ A n c B m d t ⟨8, at_, ch, th, ix, kd, v, tt, h, ok, ov⟩ 1 0).mono ?_
  rintro e w9 ⟨rfl, hb⟩
  have V9 := hide (E3.of hb)
  clear hb
  have HT := hide (V9.out.b3.there (n := 14) rfl)
  go_wp2_with ((with_reducible show wpList _ _ _ _ _ _); refine wpList_store_res (by rfl) 58 _ _ (by rfl) (w.heap.size + 1 + 1) (Mc.cells A n c B m d t (mend ⟨8, at_, ch, th, ix, kd, v, tt, h, ok, ov⟩ 1 0)) (by rfl) (by rfl) HT.out Try.mc_inf (mc_one _ _ _ _ _ _ _ _) ?_; intro wz HZ)
  obtain ⟨fs, hfs⟩ := Try.mc_und
  exact ret_stored HZ Try.results22 rfl HT.out hfs rfl Try.mc_inf rfl ⟨rfl, below_stored HZ V9.out.bel (by omega)⟩

set_option maxHeartbeats 1000000 in
set_option maxRecDepth 100000 in
theorem mres_9l (w : World) (A : Option Addr) (n c : Nat) (B : Option Addr) (m d : Nat) (t : Int) (at_ ch th : Nat) (ix kd v tt h ok ov a : Int) (y z : Bool) (LA : Option Addr) (ln lc : Nat) (hat : ((at_ : Int) == 0) = false) (h5 : at_ < 5) :
    Calls Try.prog 22 #[.agg (Mc.cells A n c B m d t ⟨9, at_, ch, th, ix, kd, v, tt, h, ok, ov⟩), .agg #[.int .u64 a, .bool y, .bool z, .slice LA ln lc]] w fun e w' => e = .returned (.agg (Mc.cells A n c B m d t (mto ⟨9, at_, ch, th, ix, kd, v, tt, h, ok, ov⟩ (at_ + 1)))) ∧ Below w.heap.size w w' := by
  rw [Mc.cells]
  go_enter Try.func22, Try.ntmps22
  go_wp2_with fail
  refine (mto_any _ A n c B m d t ⟨9, at_, ch, th, ix, kd, v, tt, h, ok, ov⟩ (at_ + 1)).mono ?_
  rintro e w9 ⟨rfl, hb⟩
  have V9 := hide (E3.of hb)
  clear hb
  have HT := hide (V9.out.b3.there (n := 14) rfl)
  go_wp2_with ((with_reducible show wpList _ _ _ _ _ _); refine wpList_store_res (by rfl) 58 _ _ (by rfl) (w.heap.size + 1 + 1) (Mc.cells A n c B m d t (mto ⟨9, at_, ch, th, ix, kd, v, tt, h, ok, ov⟩ (at_ + 1))) (by rfl) (by rfl) HT.out Try.mc_inf (mc_one _ _ _ _ _ _ _ _) ?_; intro wz HZ)
  obtain ⟨fs, hfs⟩ := Try.mc_und
  exact ret_stored HZ Try.results22 rfl HT.out hfs rfl Try.mc_inf rfl ⟨rfl, below_stored HZ V9.out.bel (by omega)⟩

set_option maxHeartbeats 1000000 in
set_option maxRecDepth 100000 in
theorem mres_9e (w : World) (A : Option Addr) (n c : Nat) (B : Option Addr) (m d : Nat) (t : Int) (ch th : Nat) (ix kd v tt h ok ov a : Int) (y z : Bool) (LA : Option Addr) (ln lc : Nat) :
    Calls Try.prog 22 #[.agg (Mc.cells A n c B m d t ⟨9, 5, ch, th, ix, kd, v, tt, h, ok, ov⟩), .agg #[.int .u64 a, .bool y, .bool z, .slice LA ln lc]] w fun e w' => e = .returned (.agg (Mc.cells A n c B m d t (mend ⟨9, 5, ch, th, ix, kd, v, tt, h, ok, ov⟩ 1 0))) ∧ Below w.heap.size w w' := by
  rw [Mc.cells]
  go_enter Try.func22, Try.ntmps22
  go_wp2_with fail
  refine (mend_any _ A n c B m d t ⟨9, 5, ch, th, ix, kd, v, tt, h, ok, ov⟩ 1 0).mono ?_
  rintro e w9 ⟨rfl, hb⟩
  have V9 := hide (E3.of hb)
  clear hb
  have HT := hide (V9.out.b3.there (n := 14) rfl)
  go_wp2_with ((with_reducible show wpList _ _ _ _ _ _); refine wpList_store_res (by rfl) 58 _ _ (by rfl) (w.heap.size + 1 + 1) (Mc.cells A n c B m d t (mend ⟨9, 5, ch, th, ix, kd, v, tt, h, ok, ov⟩ 1 0)) (by rfl) (by rfl) HT.out Try.mc_inf (mc_one _ _ _ _ _ _ _ _) ?_; intro wz HZ)
  obtain ⟨fs, hfs⟩ := Try.mc_und
  exact ret_stored HZ Try.results22 rfl HT.out hfs rfl Try.mc_inf rfl ⟨rfl, below_stored HZ V9.out.bel (by omega)⟩
end Go.Proofs.Ytepngbdjobckbaa
end
