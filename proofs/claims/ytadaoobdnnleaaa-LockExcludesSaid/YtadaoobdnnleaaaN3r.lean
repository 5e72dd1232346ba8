/- Contracts: the document's machines behind an answer (chanfabricref7): a theorem a branch. Printed by gen/mkN2.py. -/
import Derived.Test.YtadaoobdnnleaaaN3
namespace Go.Proofs.Ytadaoobdnnleaaa
open Go.RowKit
set_option linter.unusedVariables false
attribute [local irreducible] Go.bits

set_option maxHeartbeats 1000000 in
set_option maxRecDepth 100000 in
theorem mres_3 (w : World) (A : Option Addr) (n c : Nat) (B : Option Addr) (m d : Nat) (t : Int) (at_ ch th : Nat) (ix kd v tt h ok ov a : Int) (y z : Bool) (LA : Option Addr) (ln lc : Nat) (hat : ((at_ : Int) == 0) = false) (l : List Int) (hcf : Cf w A n l) (hch : ch < n) (h7 : at_ ≤ 7) (ha : u64 a) (ht : u64 tt) :
    Calls Try.prog 35 #[.agg (Mc.cells A n c B m d t ⟨3, at_, ch, th, ix, kd, v, tt, h, ok, ov⟩), .agg #[.int .u64 a, .bool y, .bool z, .slice LA ln lc]] w fun e w' => e = .returned (.agg (Mc.cells A n c B m d t (mpush (l.getD ch 0) ⟨3, at_, ch, th, ix, kd, v, tt, h, ok, ov⟩ a y))) ∧ Below w.heap.size w w' := by
  have hp : ∀ W, Below w.heap.size w W → Calls Try.prog 67 #[.agg (Mc.cells A n c B m d t ⟨3, at_, ch, th, ix, kd, v, tt, h, ok, ov⟩), .agg #[.int .u64 a, .bool y, .bool z, .slice LA ln lc]] W fun e w' => e = .returned (.agg (Mc.cells A n c B m d t (mpush (l.getD ch 0) ⟨3, at_, ch, th, ix, kd, v, tt, h, ok, ov⟩ a y))) ∧ Below W.heap.size W w' := fun W hW => mpush_any W A n c B m d t 3 ch th ix kd v tt h ok ov a y z LA ln lc l (hcf.below hW) hch at_ (by simpa using hat) h7 ha ht
  have HP := hide hp
  clear hp hcf ha ht
  rw [Mc.cells]
  go_enter Try.func35, Try.ntmps35
  go_wp2_with fail
  refine (HP.out _ (below3 _ _ _ _)).mono ?_
  rintro e w9 ⟨rfl, hb⟩
  have V9 := hide (E3.of hb)
  clear hb
  have HT := hide (V9.out.b3.there (n := 14) rfl)
  go_wp2_with ((with_reducible show wpList _ _ _ _ _ _); refine wpList_store_res (by rfl) 52 _ _ (by rfl) (w.heap.size + 1 + 1) (Mc.cells A n c B m d t (mpush (l.getD ch 0) ⟨3, at_, ch, th, ix, kd, v, tt, h, ok, ov⟩ a y)) (by rfl) (by rfl) HT.out Try.mc_inf (mc_one _ _ _ _ _ _ _ _) ?_; intro wz HZ)
  obtain ⟨fs, hfs⟩ := Try.mc_und
  exact ret_stored HZ Try.results35 rfl HT.out hfs rfl Try.mc_inf rfl ⟨rfl, below_stored HZ V9.out.bel (by omega)⟩

set_option maxHeartbeats 1000000 in
set_option maxRecDepth 100000 in
theorem mres_4 (w : World) (A : Option Addr) (n c : Nat) (B : Option Addr) (m d : Nat) (t : Int) (at_ ch th : Nat) (ix kd v tt h ok ov a : Int) (y z : Bool) (LA : Option Addr) (ln lc : Nat) (hat : ((at_ : Int) == 0) = false) (l : List Int) (hcf : Cf w A n l) (hch : ch < n) (h7 : at_ ≤ 7) (ha : u64 a) (ht : u64 tt) :
    Calls Try.prog 35 #[.agg (Mc.cells A n c B m d t ⟨4, at_, ch, th, ix, kd, v, tt, h, ok, ov⟩), .agg #[.int .u64 a, .bool y, .bool z, .slice LA ln lc]] w fun e w' => e = .returned (.agg (Mc.cells A n c B m d t (mpop (l.getD ch 0) ⟨4, at_, ch, th, ix, kd, v, tt, h, ok, ov⟩ a y))) ∧ Below w.heap.size w w' := by
  have hp : ∀ W, Below w.heap.size w W → Calls Try.prog 68 #[.agg (Mc.cells A n c B m d t ⟨4, at_, ch, th, ix, kd, v, tt, h, ok, ov⟩), .agg #[.int .u64 a, .bool y, .bool z, .slice LA ln lc]] W fun e w' => e = .returned (.agg (Mc.cells A n c B m d t (mpop (l.getD ch 0) ⟨4, at_, ch, th, ix, kd, v, tt, h, ok, ov⟩ a y))) ∧ Below W.heap.size W w' := fun W hW => mpop_any W A n c B m d t 4 ch th ix kd v tt h ok ov a y z LA ln lc l (hcf.below hW) hch at_ (by simpa using hat) h7 ha ht
  have HP := hide hp
  clear hp hcf ha ht
  rw [Mc.cells]
  go_enter Try.func35, Try.ntmps35
  go_wp2_with fail
  refine (HP.out _ (below3 _ _ _ _)).mono ?_
  rintro e w9 ⟨rfl, hb⟩
  have V9 := hide (E3.of hb)
  clear hb
  have HT := hide (V9.out.b3.there (n := 14) rfl)
  go_wp2_with ((with_reducible show wpList _ _ _ _ _ _); refine wpList_store_res (by rfl) 52 _ _ (by rfl) (w.heap.size + 1 + 1) (Mc.cells A n c B m d t (mpop (l.getD ch 0) ⟨4, at_, ch, th, ix, kd, v, tt, h, ok, ov⟩ a y)) (by rfl) (by rfl) HT.out Try.mc_inf (mc_one _ _ _ _ _ _ _ _) ?_; intro wz HZ)
  obtain ⟨fs, hfs⟩ := Try.mc_und
  exact ret_stored HZ Try.results35 rfl HT.out hfs rfl Try.mc_inf rfl ⟨rfl, below_stored HZ V9.out.bel (by omega)⟩

set_option maxHeartbeats 1000000 in
set_option maxRecDepth 100000 in
theorem mres_5 (w : World) (A : Option Addr) (n c : Nat) (B : Option Addr) (m d : Nat) (t : Int) (at_ ch th : Nat) (ix kd v tt h ok ov a : Int) (y z : Bool) (LA : Option Addr) (ln lc : Nat) (hat : ((at_ : Int) == 0) = false) (l : List Int) (hcf : Cf w A n l) (hch : ch < n) (h7 : at_ ≤ 2) (ha : u64 a) (ht : u64 tt) :
    Calls Try.prog 35 #[.agg (Mc.cells A n c B m d t ⟨5, at_, ch, th, ix, kd, v, tt, h, ok, ov⟩), .agg #[.int .u64 a, .bool y, .bool z, .slice LA ln lc]] w fun e w' => e = .returned (.agg (Mc.cells A n c B m d t (mshut ⟨5, at_, ch, th, ix, kd, v, tt, h, ok, ov⟩ a y))) ∧ Below w.heap.size w w' := by
  have hp : ∀ W, Below w.heap.size w W → Calls Try.prog 69 #[.agg (Mc.cells A n c B m d t ⟨5, at_, ch, th, ix, kd, v, tt, h, ok, ov⟩), .agg #[.int .u64 a, .bool y, .bool z, .slice LA ln lc]] W fun e w' => e = .returned (.agg (Mc.cells A n c B m d t (mshut ⟨5, at_, ch, th, ix, kd, v, tt, h, ok, ov⟩ a y))) ∧ Below W.heap.size W w' := fun W hW => mshut_any W A n c B m d t 5 ch th ix kd v tt h ok ov a y z LA ln lc l (hcf.below hW) hch at_ (by simpa using hat) h7 ha ht
  have HP := hide hp
  clear hp hcf ha ht
  rw [Mc.cells]
  go_enter Try.func35, Try.ntmps35
  go_wp2_with fail
  refine (HP.out _ (below3 _ _ _ _)).mono ?_
  rintro e w9 ⟨rfl, hb⟩
  have V9 := hide (E3.of hb)
  clear hb
  have HT := hide (V9.out.b3.there (n := 14) rfl)
  go_wp2_with ((with_reducible show wpList _ _ _ _ _ _); refine wpList_store_res (by rfl) 52 _ _ (by rfl) (w.heap.size + 1 + 1) (Mc.cells A n c B m d t (mshut ⟨5, at_, ch, th, ix, kd, v, tt, h, ok, ov⟩ a y)) (by rfl) (by rfl) HT.out Try.mc_inf (mc_one _ _ _ _ _ _ _ _) ?_; intro wz HZ)
  obtain ⟨fs, hfs⟩ := Try.mc_und
  exact ret_stored HZ Try.results35 rfl HT.out hfs rfl Try.mc_inf rfl ⟨rfl, below_stored HZ V9.out.bel (by omega)⟩

set_option maxHeartbeats 1000000 in
set_option maxRecDepth 100000 in
theorem mres_6 (w : World) (A : Option Addr) (n c : Nat) (B : Option Addr) (m d : Nat) (t : Int) (at_ ch th : Nat) (ix kd v tt h ok ov a : Int) (y z : Bool) (LA : Option Addr) (ln lc : Nat) (hat : ((at_ : Int) == 0) = false) (l : List Int) (hcf : Cf w A n l) (hch : ch < n) (h7 : at_ ≤ 3) (ha : u64 a) (ht : u64 tt) :
    Calls Try.prog 35 #[.agg (Mc.cells A n c B m d t ⟨6, at_, ch, th, ix, kd, v, tt, h, ok, ov⟩), .agg #[.int .u64 a, .bool y, .bool z, .slice LA ln lc]] w fun e w' => e = .returned (.agg (Mc.cells A n c B m d t (mcount ⟨6, at_, ch, th, ix, kd, v, tt, h, ok, ov⟩ a))) ∧ Below w.heap.size w w' := by
  have hp : ∀ W, Below w.heap.size w W → Calls Try.prog 70 #[.agg (Mc.cells A n c B m d t ⟨6, at_, ch, th, ix, kd, v, tt, h, ok, ov⟩), .agg #[.int .u64 a, .bool y, .bool z, .slice LA ln lc]] W fun e w' => e = .returned (.agg (Mc.cells A n c B m d t (mcount ⟨6, at_, ch, th, ix, kd, v, tt, h, ok, ov⟩ a))) ∧ Below W.heap.size W w' := fun W hW => mcount_any W A n c B m d t 6 ch th ix kd v tt h ok ov a y z LA ln lc l (hcf.below hW) hch at_ (by simpa using hat) h7 ha ht
  have HP := hide hp
  clear hp hcf ha ht
  rw [Mc.cells]
  go_enter Try.func35, Try.ntmps35
  go_wp2_with fail
  refine (HP.out _ (below3 _ _ _ _)).mono ?_
  rintro e w9 ⟨rfl, hb⟩
  have V9 := hide (E3.of hb)
  clear hb
  have HT := hide (V9.out.b3.there (n := 14) rfl)
  go_wp2_with ((with_reducible show wpList _ _ _ _ _ _); refine wpList_store_res (by rfl) 52 _ _ (by rfl) (w.heap.size + 1 + 1) (Mc.cells A n c B m d t (mcount ⟨6, at_, ch, th, ix, kd, v, tt, h, ok, ov⟩ a)) (by rfl) (by rfl) HT.out Try.mc_inf (mc_one _ _ _ _ _ _ _ _) ?_; intro wz HZ)
  obtain ⟨fs, hfs⟩ := Try.mc_und
  exact ret_stored HZ Try.results35 rfl HT.out hfs rfl Try.mc_inf rfl ⟨rfl, below_stored HZ V9.out.bel (by omega)⟩
end Go.Proofs.Ytadaoobdnnleaaa
