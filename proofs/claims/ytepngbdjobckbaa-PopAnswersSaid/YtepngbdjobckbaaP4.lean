/- -/
import Derived.Test.YtepngbdjobckbaaP
import Derived.RegionTactic
import Derived.BigRegion
namespace Go.Proofs.Ytepngbdjobckbaa
open Go.RowKit
set_option linter.unusedVariables false
attribute [local irreducible] Go.bits

set_option maxHeartbeats 2000000 in
set_option maxRecDepth 100000 in
theorem mnext_41 (w : World) (A : Option Addr) (n c : Nat) (B : Option Addr) (m d : Nat) (t : Int) (ch th : Nat) (ix kd v tt h ok ov : Int) (l : List Int) (hcf : Cf w A n l) (p : Int) (hp : tlN l ch = p) (hch : ch < n) :
    Calls Try.prog 50 #[.agg (Mc.cells A n c B m d t ⟨4, 1, ch, th, ix, kd, v, tt, h, ok, ov⟩)] w fun e w' => e = .returned (.agg (Acc.cells ⟨1, p + 1, 0, 0⟩)) ∧ Below w.heap.size w w' := by
  have Htail := hide (show ∀ W, Below w.heap.size w W → Calls Try.prog 63 #[.agg #[.slice A n c, .slice B m d, .int .i64 t], .int .i64 ch] W fun e w' => e = .returned (.int .i64 p) ∧ Below W.heap.size W w' from fun W hW => by have := rtl_any W A n c l B m d t (hcf.below hW) ch (by omega); rwa [hp] at this)
  have Hhead := hide (show ∀ W, Below w.heap.size w W → Calls Try.prog 64 #[.agg #[.slice A n c, .slice B m d, .int .i64 t], .int .i64 ch] W fun e w' => e = .returned (.int .i64 (p + 1)) ∧ Below W.heap.size W w' from fun W hW => by have := rhead_any W A n c l B m d t (hcf.below hW) ch (by omega); rwa [hp] at this)
  clear hcf hp
  rw [Mc.cells]
  go_enter Try.func50, Try.ntmps50
  go_wp2
  go_region
  go_wp2
  have U0 := fun (u : Up ((((w.alloc (.cells #[.int .i64 4, .int .i64 1, .slice A n c, .slice B m d, .int .i64 t, .int .i64 (ch : Nat), .int .i64 (th : Nat), .int .i64 ix, .int .i64 kd, .int .u64 v, .int .u64 tt, .int .u64 h, .int .i64 ok, .int .u64 ov] 58)).alloc (.cells #[.int .i64 0, .int .i64 0, .int .u64 0, .int .u64 0, .int .i64 0] 69)).alloc (.cells #[.slice A n c, .slice B m d, .int .i64 t] 36)).drew)) => E3.ofd u.2
  have c0 := fun u => (bk3 (U0 u).b3).1
  have c1 := fun u => (bk3 (U0 u).b3).2.1
  have c2 := fun u => (bk3 (U0 u).b3).2.2.1
  have HU1 := hide (fun u => Htail.out u.1 (U0 u).bel)
  have HU2 := hide (fun u => Hhead.out u.1 (U0 u).bel)
  have UU := hide U0
  clear U0
  refine wp_region_up (by kernel_rfl) (by kernel_rfl) ?_
  repeat (go_big_quiet_step (first
    | (go_at_call 63; exact up_call (HU1.out _))
    | (go_at_call 64; exact up_call (HU2.out _))))
  refine wpQuiet_nil ?_
  rintro _ ⟨u, rfl⟩
  clear c0 c1 c2 HU1 HU2
  have V1 := hide (UU.out u)
  clear UU
  generalize u.1 = w1 at *
  obtain ⟨c0, c1, c2, c3, c4, c5, c6, c7, c8, c9, c10, c11, c12, c13, f1⟩ := bk14 V1.out.b1
  obtain ⟨k0, k1, k2, -⟩ := bk3 V1.out.b3
  go_wp2_with fail
  refine (access_any _ _ _ _ _).mono ?_
  rintro e w9 ⟨rfl, hb⟩
  have V9 := hide (V1.out.next hb)
  clear hb c0 c1 c2 c3 c4 c5 c6 c7 c8 c9 c10 c11 c12 c13 f1 k0 k1 k2
  have HT := hide (V9.out.b2.there (n := 5) rfl)
  go_wp2_with ((with_reducible show wpList _ _ _ _ _ _); refine wpList_store_res (by rfl) 69 _ _ (by rfl) (w.heap.size + 1) (Acc.cells ⟨1, p + 1, 0, 0⟩) (by rfl) (by rfl) HT.out Try.ac_inf (ac_one _) ?_; intro wz HZ)
  obtain ⟨fs, hfs⟩ := Try.ac_und
  exact ret_stored HZ Try.results50 rfl HT.out hfs rfl Try.ac_inf rfl ⟨rfl, below_stored HZ V9.out.bel (by omega)⟩

set_option maxHeartbeats 2000000 in
set_option maxRecDepth 100000 in
theorem mnext_43 (w : World) (A : Option Addr) (n c : Nat) (B : Option Addr) (m d : Nat) (t : Int) (ch th : Nat) (ix kd v tt h ok ov : Int) (l : List Int) (hcf : Cf w A n l) (p : Int) (hp : tlN l ch = p) (hch : ch < n) :
    Calls Try.prog 50 #[.agg (Mc.cells A n c B m d t ⟨4, 3, ch, th, ix, kd, v, tt, h, ok, ov⟩)] w fun e w' => e = .returned (.agg (Acc.cells ⟨1, p + 1, 0, 0⟩)) ∧ Below w.heap.size w w' := by
  have Htail := hide (show ∀ W, Below w.heap.size w W → Calls Try.prog 63 #[.agg #[.slice A n c, .slice B m d, .int .i64 t], .int .i64 ch] W fun e w' => e = .returned (.int .i64 p) ∧ Below W.heap.size W w' from fun W hW => by have := rtl_any W A n c l B m d t (hcf.below hW) ch (by omega); rwa [hp] at this)
  have Hhead := hide (show ∀ W, Below w.heap.size w W → Calls Try.prog 64 #[.agg #[.slice A n c, .slice B m d, .int .i64 t], .int .i64 ch] W fun e w' => e = .returned (.int .i64 (p + 1)) ∧ Below W.heap.size W w' from fun W hW => by have := rhead_any W A n c l B m d t (hcf.below hW) ch (by omega); rwa [hp] at this)
  clear hcf hp
  rw [Mc.cells]
  go_enter Try.func50, Try.ntmps50
  go_wp2
  go_region
  go_wp2
  have U0 := fun (u : Up ((((w.alloc (.cells #[.int .i64 4, .int .i64 3, .slice A n c, .slice B m d, .int .i64 t, .int .i64 (ch : Nat), .int .i64 (th : Nat), .int .i64 ix, .int .i64 kd, .int .u64 v, .int .u64 tt, .int .u64 h, .int .i64 ok, .int .u64 ov] 58)).alloc (.cells #[.int .i64 0, .int .i64 0, .int .u64 0, .int .u64 0, .int .i64 0] 69)).alloc (.cells #[.slice A n c, .slice B m d, .int .i64 t] 36)).drew)) => E3.ofd u.2
  have c0 := fun u => (bk3 (U0 u).b3).1
  have c1 := fun u => (bk3 (U0 u).b3).2.1
  have c2 := fun u => (bk3 (U0 u).b3).2.2.1
  have HU1 := hide (fun u => Htail.out u.1 (U0 u).bel)
  have HU2 := hide (fun u => Hhead.out u.1 (U0 u).bel)
  have UU := hide U0
  clear U0
  refine wp_region_up (by kernel_rfl) (by kernel_rfl) ?_
  repeat (go_big_quiet_step (first
    | (go_at_call 63; exact up_call (HU1.out _))
    | (go_at_call 64; exact up_call (HU2.out _))))
  refine wpQuiet_nil ?_
  rintro _ ⟨u, rfl⟩
  clear c0 c1 c2 HU1 HU2
  have V1 := hide (UU.out u)
  clear UU
  generalize u.1 = w1 at *
  obtain ⟨c0, c1, c2, c3, c4, c5, c6, c7, c8, c9, c10, c11, c12, c13, f1⟩ := bk14 V1.out.b1
  obtain ⟨k0, k1, k2, -⟩ := bk3 V1.out.b3
  go_wp2_with fail
  refine (access_any _ _ _ _ _).mono ?_
  rintro e w9 ⟨rfl, hb⟩
  have V9 := hide (V1.out.next hb)
  clear hb c0 c1 c2 c3 c4 c5 c6 c7 c8 c9 c10 c11 c12 c13 f1 k0 k1 k2
  have HT := hide (V9.out.b2.there (n := 5) rfl)
  go_wp2_with ((with_reducible show wpList _ _ _ _ _ _); refine wpList_store_res (by rfl) 69 _ _ (by rfl) (w.heap.size + 1) (Acc.cells ⟨1, p + 1, 0, 0⟩) (by rfl) (by rfl) HT.out Try.ac_inf (ac_one _) ?_; intro wz HZ)
  obtain ⟨fs, hfs⟩ := Try.ac_und
  exact ret_stored HZ Try.results50 rfl HT.out hfs rfl Try.ac_inf rfl ⟨rfl, below_stored HZ V9.out.bel (by omega)⟩

set_option maxHeartbeats 2000000 in
set_option maxRecDepth 100000 in
theorem mnext_42 (w : World) (A : Option Addr) (n c : Nat) (B : Option Addr) (m d : Nat) (t : Int) (ch th : Nat) (ix kd v tt h ok ov : Int) (l : List Int) (hcf : Cf w A n l) (p : Int) (hp : tlN l ch = p) (hch : ch < n) :
    Calls Try.prog 50 #[.agg (Mc.cells A n c B m d t ⟨4, 2, ch, th, ix, kd, v, tt, h, ok, ov⟩)] w fun e w' => e = .returned (.agg (Acc.cells ⟨1, p, 0, 0⟩)) ∧ Below w.heap.size w w' := by
  have Htail := hide (show ∀ W, Below w.heap.size w W → Calls Try.prog 63 #[.agg #[.slice A n c, .slice B m d, .int .i64 t], .int .i64 ch] W fun e w' => e = .returned (.int .i64 p) ∧ Below W.heap.size W w' from fun W hW => by have := rtl_any W A n c l B m d t (hcf.below hW) ch (by omega); rwa [hp] at this)
  have Hhead := hide (show ∀ W, Below w.heap.size w W → Calls Try.prog 64 #[.agg #[.slice A n c, .slice B m d, .int .i64 t], .int .i64 ch] W fun e w' => e = .returned (.int .i64 (p + 1)) ∧ Below W.heap.size W w' from fun W hW => by have := rhead_any W A n c l B m d t (hcf.below hW) ch (by omega); rwa [hp] at this)
  clear hcf hp
  rw [Mc.cells]
  go_enter Try.func50, Try.ntmps50
  go_wp2
  go_region
  go_wp2
  have U0 := fun (u : Up ((((w.alloc (.cells #[.int .i64 4, .int .i64 2, .slice A n c, .slice B m d, .int .i64 t, .int .i64 (ch : Nat), .int .i64 (th : Nat), .int .i64 ix, .int .i64 kd, .int .u64 v, .int .u64 tt, .int .u64 h, .int .i64 ok, .int .u64 ov] 58)).alloc (.cells #[.int .i64 0, .int .i64 0, .int .u64 0, .int .u64 0, .int .i64 0] 69)).alloc (.cells #[.slice A n c, .slice B m d, .int .i64 t] 36)).drew)) => E3.ofd u.2
  have c0 := fun u => (bk3 (U0 u).b3).1
  have c1 := fun u => (bk3 (U0 u).b3).2.1
  have c2 := fun u => (bk3 (U0 u).b3).2.2.1
  have HU1 := hide (fun u => Htail.out u.1 (U0 u).bel)
  have HU2 := hide (fun u => Hhead.out u.1 (U0 u).bel)
  have UU := hide U0
  clear U0
  refine wp_region_up (by kernel_rfl) (by kernel_rfl) ?_
  repeat (go_big_quiet_step (first
    | (go_at_call 63; exact up_call (HU1.out _))
    | (go_at_call 64; exact up_call (HU2.out _))))
  refine wpQuiet_nil ?_
  rintro _ ⟨u, rfl⟩
  clear c0 c1 c2 HU1 HU2
  have V1 := hide (UU.out u)
  clear UU
  generalize u.1 = w1 at *
  obtain ⟨c0, c1, c2, c3, c4, c5, c6, c7, c8, c9, c10, c11, c12, c13, f1⟩ := bk14 V1.out.b1
  obtain ⟨k0, k1, k2, -⟩ := bk3 V1.out.b3
  go_wp2_with fail
  refine (access_any _ _ _ _ _).mono ?_
  rintro e w9 ⟨rfl, hb⟩
  have V9 := hide (V1.out.next hb)
  clear hb c0 c1 c2 c3 c4 c5 c6 c7 c8 c9 c10 c11 c12 c13 f1 k0 k1 k2
  have HT := hide (V9.out.b2.there (n := 5) rfl)
  go_wp2_with ((with_reducible show wpList _ _ _ _ _ _); refine wpList_store_res (by rfl) 69 _ _ (by rfl) (w.heap.size + 1) (Acc.cells ⟨1, p, 0, 0⟩) (by rfl) (by rfl) HT.out Try.ac_inf (ac_one _) ?_; intro wz HZ)
  obtain ⟨fs, hfs⟩ := Try.ac_und
  exact ret_stored HZ Try.results50 rfl HT.out hfs rfl Try.ac_inf rfl ⟨rfl, below_stored HZ V9.out.bel (by omega)⟩

set_option maxHeartbeats 2000000 in
set_option maxRecDepth 100000 in
theorem mnext_44 (w : World) (A : Option Addr) (n c : Nat) (B : Option Addr) (m d : Nat) (t : Int) (ch th : Nat) (ix kd v tt h ok ov : Int) (l : List Int) (hcf : Cf w A n l) (p : Int) (hp : tlN l ch = p) (hch : ch < n) (s : Int) (hs : slN l ch (h) = s) (hs0 : 0 ≤ h) (hs1 : h ≤ 18446744073709551615) :
    Calls Try.prog 50 #[.agg (Mc.cells A n c B m d t ⟨4, 4, ch, th, ix, kd, v, tt, h, ok, ov⟩)] w fun e w' => e = .returned (.agg (Acc.cells ⟨1, s, 0, 0⟩)) ∧ Below w.heap.size w w' := by
  have Htail := hide (show ∀ W, Below w.heap.size w W → Calls Try.prog 63 #[.agg #[.slice A n c, .slice B m d, .int .i64 t], .int .i64 ch] W fun e w' => e = .returned (.int .i64 p) ∧ Below W.heap.size W w' from fun W hW => by have := rtl_any W A n c l B m d t (hcf.below hW) ch (by omega); rwa [hp] at this)
  have Hhead := hide (show ∀ W, Below w.heap.size w W → Calls Try.prog 64 #[.agg #[.slice A n c, .slice B m d, .int .i64 t], .int .i64 ch] W fun e w' => e = .returned (.int .i64 (p + 1)) ∧ Below W.heap.size W w' from fun W hW => by have := rhead_any W A n c l B m d t (hcf.below hW) ch (by omega); rwa [hp] at this)
  have Hslot := hide (show ∀ W, Below w.heap.size w W → Calls Try.prog 87 #[.agg #[.slice A n c, .slice B m d, .int .i64 t], .int .i64 ch, .int .u64 (h)] W fun e w' => e = .returned (.int .i64 s) ∧ Below W.heap.size W w' from fun W hW => by rw [← hs]; exact rslotseq_any W A n c l B m d t (hcf.below hW) ch hch (h) hs0 hs1)
  clear hcf hp hs
  rw [Mc.cells]
  go_enter Try.func50, Try.ntmps50
  go_wp2
  go_region
  go_wp2
  have U0 := fun (u : Up ((((w.alloc (.cells #[.int .i64 4, .int .i64 4, .slice A n c, .slice B m d, .int .i64 t, .int .i64 (ch : Nat), .int .i64 (th : Nat), .int .i64 ix, .int .i64 kd, .int .u64 v, .int .u64 tt, .int .u64 h, .int .i64 ok, .int .u64 ov] 58)).alloc (.cells #[.int .i64 0, .int .i64 0, .int .u64 0, .int .u64 0, .int .i64 0] 69)).alloc (.cells #[.slice A n c, .slice B m d, .int .i64 t] 36)).drew)) => E3.ofd u.2
  have c0 := fun u => (bk3 (U0 u).b3).1
  have c1 := fun u => (bk3 (U0 u).b3).2.1
  have c2 := fun u => (bk3 (U0 u).b3).2.2.1
  have HU1 := hide (fun u => Htail.out u.1 (U0 u).bel)
  have HU2 := hide (fun u => Hhead.out u.1 (U0 u).bel)
  have UU := hide U0
  clear U0
  refine wp_region_up (by kernel_rfl) (by kernel_rfl) ?_
  repeat (go_big_quiet_step (first
    | (go_at_call 63; exact up_call (HU1.out _))
    | (go_at_call 64; exact up_call (HU2.out _))))
  refine wpQuiet_nil ?_
  rintro _ ⟨u, rfl⟩
  clear c0 c1 c2 HU1 HU2
  have V1 := hide (UU.out u)
  clear UU
  generalize u.1 = w1 at *
  obtain ⟨c0, c1, c2, c3, c4, c5, c6, c7, c8, c9, c10, c11, c12, c13, f1⟩ := bk14 V1.out.b1
  obtain ⟨k0, k1, k2, -⟩ := bk3 V1.out.b3
  go_wp2_with fail
  refine (Hslot.out _ V1.out.bel).mono ?_
  rintro e w2 ⟨rfl, hb⟩
  have V2 := hide (V1.out.next hb)
  clear hb c0 c1 c2 c3 c4 c5 c6 c7 c8 c9 c10 c11 c12 c13 f1 k0 k1 k2
  obtain ⟨c0, c1, c2, c3, c4, c5, c6, c7, c8, c9, c10, c11, c12, c13, f1⟩ := bk14 V2.out.b1
  obtain ⟨k0, k1, k2, -⟩ := bk3 V2.out.b3
  go_wp2_with fail
  refine (access_any _ _ _ _ _).mono ?_
  rintro e w9 ⟨rfl, hb⟩
  have V9 := hide (V2.out.next hb)
  clear hb c0 c1 c2 c3 c4 c5 c6 c7 c8 c9 c10 c11 c12 c13 f1 k0 k1 k2
  have HT := hide (V9.out.b2.there (n := 5) rfl)
  go_wp2_with ((with_reducible show wpList _ _ _ _ _ _); refine wpList_store_res (by rfl) 69 _ _ (by rfl) (w.heap.size + 1) (Acc.cells ⟨1, s, 0, 0⟩) (by rfl) (by rfl) HT.out Try.ac_inf (ac_one _) ?_; intro wz HZ)
  obtain ⟨fs, hfs⟩ := Try.ac_und
  exact ret_stored HZ Try.results50 rfl HT.out hfs rfl Try.ac_inf rfl ⟨rfl, below_stored HZ V9.out.bel (by omega)⟩

set_option maxHeartbeats 2000000 in
set_option maxRecDepth 100000 in
theorem mnext_45 (w : World) (A : Option Addr) (n c : Nat) (B : Option Addr) (m d : Nat) (t : Int) (ch th : Nat) (ix kd v tt h ok ov : Int) (l : List Int) (hcf : Cf w A n l) (p : Int) (hp : tlN l ch = p) (hch : ch < n) :
    Calls Try.prog 50 #[.agg (Mc.cells A n c B m d t ⟨4, 5, ch, th, ix, kd, v, tt, h, ok, ov⟩)] w fun e w' => e = .returned (.agg (Acc.cells ⟨3, p + 1, h, nx h 1⟩)) ∧ Below w.heap.size w w' := by
  have Htail := hide (show ∀ W, Below w.heap.size w W → Calls Try.prog 63 #[.agg #[.slice A n c, .slice B m d, .int .i64 t], .int .i64 ch] W fun e w' => e = .returned (.int .i64 p) ∧ Below W.heap.size W w' from fun W hW => by have := rtl_any W A n c l B m d t (hcf.below hW) ch (by omega); rwa [hp] at this)
  have Hhead := hide (show ∀ W, Below w.heap.size w W → Calls Try.prog 64 #[.agg #[.slice A n c, .slice B m d, .int .i64 t], .int .i64 ch] W fun e w' => e = .returned (.int .i64 (p + 1)) ∧ Below W.heap.size W w' from fun W hW => by have := rhead_any W A n c l B m d t (hcf.below hW) ch (by omega); rwa [hp] at this)
  clear hcf hp
  rw [Mc.cells]
  go_enter Try.func50, Try.ntmps50
  go_wp2
  go_region
  go_wp2
  have U0 := fun (u : Up ((((w.alloc (.cells #[.int .i64 4, .int .i64 5, .slice A n c, .slice B m d, .int .i64 t, .int .i64 (ch : Nat), .int .i64 (th : Nat), .int .i64 ix, .int .i64 kd, .int .u64 v, .int .u64 tt, .int .u64 h, .int .i64 ok, .int .u64 ov] 58)).alloc (.cells #[.int .i64 0, .int .i64 0, .int .u64 0, .int .u64 0, .int .i64 0] 69)).alloc (.cells #[.slice A n c, .slice B m d, .int .i64 t] 36)).drew)) => E3.ofd u.2
  have c0 := fun u => (bk3 (U0 u).b3).1
  have c1 := fun u => (bk3 (U0 u).b3).2.1
  have c2 := fun u => (bk3 (U0 u).b3).2.2.1
  have HU1 := hide (fun u => Htail.out u.1 (U0 u).bel)
  have HU2 := hide (fun u => Hhead.out u.1 (U0 u).bel)
  have UU := hide U0
  clear U0
  refine wp_region_up (by kernel_rfl) (by kernel_rfl) ?_
  repeat (go_big_quiet_step (first
    | (go_at_call 63; exact up_call (HU1.out _))
    | (go_at_call 64; exact up_call (HU2.out _))))
  refine wpQuiet_nil ?_
  rintro _ ⟨u, rfl⟩
  clear c0 c1 c2 HU1 HU2
  have V1 := hide (UU.out u)
  clear UU
  generalize u.1 = w1 at *
  obtain ⟨c0, c1, c2, c3, c4, c5, c6, c7, c8, c9, c10, c11, c12, c13, f1⟩ := bk14 V1.out.b1
  obtain ⟨k0, k1, k2, -⟩ := bk3 V1.out.b3
  go_wp2_with fail
  clear c0 c1 c2 c3 c4 c5 c6 c7 c8 c9 c10 c11 c12 c13 f1 k0 k1 k2
  have U9 := fun (u : Up w1) => V1.out.next u.2
  have c0 := fun u => (bk14 (U9 u).b1).1
  have c1 := fun u => (bk14 (U9 u).b1).2.1
  have c2 := fun u => (bk14 (U9 u).b1).2.2.1
  have c3 := fun u => (bk14 (U9 u).b1).2.2.2.1
  have c4 := fun u => (bk14 (U9 u).b1).2.2.2.2.1
  have c5 := fun u => (bk14 (U9 u).b1).2.2.2.2.2.1
  have c6 := fun u => (bk14 (U9 u).b1).2.2.2.2.2.2.1
  have c7 := fun u => (bk14 (U9 u).b1).2.2.2.2.2.2.2.1
  have c8 := fun u => (bk14 (U9 u).b1).2.2.2.2.2.2.2.2.1
  have c9 := fun u => (bk14 (U9 u).b1).2.2.2.2.2.2.2.2.2.1
  have c10 := fun u => (bk14 (U9 u).b1).2.2.2.2.2.2.2.2.2.2.1
  have c11 := fun u => (bk14 (U9 u).b1).2.2.2.2.2.2.2.2.2.2.2.1
  have c12 := fun u => (bk14 (U9 u).b1).2.2.2.2.2.2.2.2.2.2.2.2.1
  have c13 := fun u => (bk14 (U9 u).b1).2.2.2.2.2.2.2.2.2.2.2.2.2.1
  have k0 := fun u => (bk3 (U9 u).b3).1
  have k1 := fun u => (bk3 (U9 u).b3).2.1
  have k2 := fun u => (bk3 (U9 u).b3).2.2.1
  have UU := hide U9
  clear U9
  refine wp_region_up_tail 7 (by kernel_rfl) (by kernel_rfl) ?_
  simp only [List.take_succ_cons, List.take_zero, List.drop_succ_cons, List.drop_zero]
  repeat (go_big_quiet_step (first
    | (go_at_call 86; exact up_same (rnext_any _ _ _))
    | (go_at_call 91; exact up_call (access_any _ _ _ _ _))))
  refine wpQuiet_nil ?_
  intro u
  clear c0 c1 c2 c3 c4 c5 c6 c7 c8 c9 c10 c11 c12 c13 k0 k1 k2
  have V9 := hide (UU.out u)
  clear UU
  generalize u.1 = w9 at *
  have HT := hide (V9.out.b2.there (n := 5) rfl)
  go_wp2_with ((with_reducible show wpList _ _ _ _ _ _); refine wpList_store_res (by rfl) 69 _ _ (by rfl) (w.heap.size + 1) (Acc.cells ⟨3, p + 1, h, nx h 1⟩) (by rfl) (by rfl) HT.out Try.ac_inf (ac_one _) ?_; intro wz HZ)
  obtain ⟨fs, hfs⟩ := Try.ac_und
  exact ret_stored HZ Try.results50 rfl HT.out hfs rfl Try.ac_inf rfl ⟨rfl, below_stored HZ V9.out.bel (by omega)⟩

set_option maxHeartbeats 2000000 in
set_option maxRecDepth 100000 in
theorem mnext_46 (w : World) (A : Option Addr) (n c : Nat) (B : Option Addr) (m d : Nat) (t : Int) (ch th : Nat) (ix kd v tt h ok ov : Int) (l : List Int) (hcf : Cf w A n l) (p : Int) (hp : tlN l ch = p) (hch : ch < n) (s : Int) (hs : slN l ch (h) = s) (hs0 : 0 ≤ h) (hs1 : h ≤ 18446744073709551615) :
    Calls Try.prog 50 #[.agg (Mc.cells A n c B m d t ⟨4, 6, ch, th, ix, kd, v, tt, h, ok, ov⟩)] w fun e w' => e = .returned (.agg (Acc.cells ⟨5, s + 1, 0, 0⟩)) ∧ Below w.heap.size w w' := by
  have Htail := hide (show ∀ W, Below w.heap.size w W → Calls Try.prog 63 #[.agg #[.slice A n c, .slice B m d, .int .i64 t], .int .i64 ch] W fun e w' => e = .returned (.int .i64 p) ∧ Below W.heap.size W w' from fun W hW => by have := rtl_any W A n c l B m d t (hcf.below hW) ch (by omega); rwa [hp] at this)
  have Hhead := hide (show ∀ W, Below w.heap.size w W → Calls Try.prog 64 #[.agg #[.slice A n c, .slice B m d, .int .i64 t], .int .i64 ch] W fun e w' => e = .returned (.int .i64 (p + 1)) ∧ Below W.heap.size W w' from fun W hW => by have := rhead_any W A n c l B m d t (hcf.below hW) ch (by omega); rwa [hp] at this)
  have Hslotv := hide (show ∀ W, Below w.heap.size w W → Calls Try.prog 94 #[.agg #[.slice A n c, .slice B m d, .int .i64 t], .int .i64 ch, .int .u64 (h)] W fun e w' => e = .returned (.int .i64 (s + 1)) ∧ Below W.heap.size W w' from fun W hW => by rw [← hs]; exact rslotvalue_any W A n c l B m d t (hcf.below hW) ch hch (h) hs0 hs1)
  clear hcf hp hs
  rw [Mc.cells]
  go_enter Try.func50, Try.ntmps50
  go_wp2
  go_region
  go_wp2
  have U0 := fun (u : Up ((((w.alloc (.cells #[.int .i64 4, .int .i64 6, .slice A n c, .slice B m d, .int .i64 t, .int .i64 (ch : Nat), .int .i64 (th : Nat), .int .i64 ix, .int .i64 kd, .int .u64 v, .int .u64 tt, .int .u64 h, .int .i64 ok, .int .u64 ov] 58)).alloc (.cells #[.int .i64 0, .int .i64 0, .int .u64 0, .int .u64 0, .int .i64 0] 69)).alloc (.cells #[.slice A n c, .slice B m d, .int .i64 t] 36)).drew)) => E3.ofd u.2
  have c0 := fun u => (bk3 (U0 u).b3).1
  have c1 := fun u => (bk3 (U0 u).b3).2.1
  have c2 := fun u => (bk3 (U0 u).b3).2.2.1
  have HU1 := hide (fun u => Htail.out u.1 (U0 u).bel)
  have HU2 := hide (fun u => Hhead.out u.1 (U0 u).bel)
  have UU := hide U0
  clear U0
  refine wp_region_up (by kernel_rfl) (by kernel_rfl) ?_
  repeat (go_big_quiet_step (first
    | (go_at_call 63; exact up_call (HU1.out _))
    | (go_at_call 64; exact up_call (HU2.out _))))
  refine wpQuiet_nil ?_
  rintro _ ⟨u, rfl⟩
  clear c0 c1 c2 HU1 HU2
  have V1 := hide (UU.out u)
  clear UU
  generalize u.1 = w1 at *
  obtain ⟨c0, c1, c2, c3, c4, c5, c6, c7, c8, c9, c10, c11, c12, c13, f1⟩ := bk14 V1.out.b1
  obtain ⟨k0, k1, k2, -⟩ := bk3 V1.out.b3
  go_wp2_with fail
  refine (Hslotv.out _ V1.out.bel).mono ?_
  rintro e w2 ⟨rfl, hb⟩
  have V2 := hide (V1.out.next hb)
  clear hb c0 c1 c2 c3 c4 c5 c6 c7 c8 c9 c10 c11 c12 c13 f1 k0 k1 k2
  obtain ⟨c0, c1, c2, c3, c4, c5, c6, c7, c8, c9, c10, c11, c12, c13, f1⟩ := bk14 V2.out.b1
  obtain ⟨k0, k1, k2, -⟩ := bk3 V2.out.b3
  go_wp2_with fail
  refine (access_any _ _ _ _ _).mono ?_
  rintro e w9 ⟨rfl, hb⟩
  have V9 := hide (V2.out.next hb)
  clear hb c0 c1 c2 c3 c4 c5 c6 c7 c8 c9 c10 c11 c12 c13 f1 k0 k1 k2
  have HT := hide (V9.out.b2.there (n := 5) rfl)
  go_wp2_with ((with_reducible show wpList _ _ _ _ _ _); refine wpList_store_res (by rfl) 69 _ _ (by rfl) (w.heap.size + 1) (Acc.cells ⟨5, s + 1, 0, 0⟩) (by rfl) (by rfl) HT.out Try.ac_inf (ac_one _) ?_; intro wz HZ)
  obtain ⟨fs, hfs⟩ := Try.ac_und
  exact ret_stored HZ Try.results50 rfl HT.out hfs rfl Try.ac_inf rfl ⟨rfl, below_stored HZ V9.out.bel (by omega)⟩

set_option maxHeartbeats 2000000 in
set_option maxRecDepth 100000 in
theorem mnext_47 (w : World) (A : Option Addr) (n c : Nat) (B : Option Addr) (m d : Nat) (t : Int) (ch th : Nat) (ix kd v tt h ok ov : Int) (l : List Int) (hcf : Cf w A n l) (p : Int) (hp : tlN l ch = p) (hch : ch < n) (s : Int) (hs : slN l ch (h) = s) (hs0 : 0 ≤ h) (hs1 : h ≤ 18446744073709551615) :
    Calls Try.prog 50 #[.agg (Mc.cells A n c B m d t ⟨4, 7, ch, th, ix, kd, v, tt, h, ok, ov⟩)] w fun e w' => e = .returned (.agg (Acc.cells ⟨2, s, 0, nx h (sz (l.getD ch 0))⟩)) ∧ Below w.heap.size w w' := by
  have Htail := hide (show ∀ W, Below w.heap.size w W → Calls Try.prog 63 #[.agg #[.slice A n c, .slice B m d, .int .i64 t], .int .i64 ch] W fun e w' => e = .returned (.int .i64 p) ∧ Below W.heap.size W w' from fun W hW => by have := rtl_any W A n c l B m d t (hcf.below hW) ch (by omega); rwa [hp] at this)
  have Hhead := hide (show ∀ W, Below w.heap.size w W → Calls Try.prog 64 #[.agg #[.slice A n c, .slice B m d, .int .i64 t], .int .i64 ch] W fun e w' => e = .returned (.int .i64 (p + 1)) ∧ Below W.heap.size W w' from fun W hW => by have := rhead_any W A n c l B m d t (hcf.below hW) ch (by omega); rwa [hp] at this)
  have Hslot := hide (show ∀ W, Below w.heap.size w W → Calls Try.prog 87 #[.agg #[.slice A n c, .slice B m d, .int .i64 t], .int .i64 ch, .int .u64 (h)] W fun e w' => e = .returned (.int .i64 s) ∧ Below W.heap.size W w' from fun W hW => by rw [← hs]; exact rslotseq_any W A n c l B m d t (hcf.below hW) ch hch (h) hs0 hs1)
  have Hsize := hide (show ∀ W, Below w.heap.size w W → Calls Try.prog 85 #[.agg #[.slice A n c, .slice B m d, .int .i64 t], .int .i64 ch] W fun e w' => e = .returned (.int .i64 (sz (l.getD ch 0))) ∧ Below W.heap.size W w' from fun W hW => rsz_any W A n c l B m d t (hcf.below hW) ch hch)
  clear hcf hp hs
  rw [Mc.cells]
  go_enter Try.func50, Try.ntmps50
  go_wp2
  go_region
  go_wp2
  have U0 := fun (u : Up ((((w.alloc (.cells #[.int .i64 4, .int .i64 7, .slice A n c, .slice B m d, .int .i64 t, .int .i64 (ch : Nat), .int .i64 (th : Nat), .int .i64 ix, .int .i64 kd, .int .u64 v, .int .u64 tt, .int .u64 h, .int .i64 ok, .int .u64 ov] 58)).alloc (.cells #[.int .i64 0, .int .i64 0, .int .u64 0, .int .u64 0, .int .i64 0] 69)).alloc (.cells #[.slice A n c, .slice B m d, .int .i64 t] 36)).drew)) => E3.ofd u.2
  have c0 := fun u => (bk3 (U0 u).b3).1
  have c1 := fun u => (bk3 (U0 u).b3).2.1
  have c2 := fun u => (bk3 (U0 u).b3).2.2.1
  have HU1 := hide (fun u => Htail.out u.1 (U0 u).bel)
  have HU2 := hide (fun u => Hhead.out u.1 (U0 u).bel)
  have UU := hide U0
  clear U0
  refine wp_region_up (by kernel_rfl) (by kernel_rfl) ?_
  repeat (go_big_quiet_step (first
    | (go_at_call 63; exact up_call (HU1.out _))
    | (go_at_call 64; exact up_call (HU2.out _))))
  refine wpQuiet_nil ?_
  rintro _ ⟨u, rfl⟩
  clear c0 c1 c2 HU1 HU2
  have V1 := hide (UU.out u)
  clear UU
  generalize u.1 = w1 at *
  obtain ⟨c0, c1, c2, c3, c4, c5, c6, c7, c8, c9, c10, c11, c12, c13, f1⟩ := bk14 V1.out.b1
  obtain ⟨k0, k1, k2, -⟩ := bk3 V1.out.b3
  go_wp2_with fail
  clear c0 c1 c2 c3 c4 c5 c6 c7 c8 c9 c10 c11 c12 c13 f1 k0 k1 k2
  have U9 := fun (u : Up w1) => V1.out.next u.2
  have c0 := fun u => (bk14 (U9 u).b1).1
  have c1 := fun u => (bk14 (U9 u).b1).2.1
  have c2 := fun u => (bk14 (U9 u).b1).2.2.1
  have c3 := fun u => (bk14 (U9 u).b1).2.2.2.1
  have c4 := fun u => (bk14 (U9 u).b1).2.2.2.2.1
  have c5 := fun u => (bk14 (U9 u).b1).2.2.2.2.2.1
  have c6 := fun u => (bk14 (U9 u).b1).2.2.2.2.2.2.1
  have c7 := fun u => (bk14 (U9 u).b1).2.2.2.2.2.2.2.1
  have c8 := fun u => (bk14 (U9 u).b1).2.2.2.2.2.2.2.2.1
  have c9 := fun u => (bk14 (U9 u).b1).2.2.2.2.2.2.2.2.2.1
  have c10 := fun u => (bk14 (U9 u).b1).2.2.2.2.2.2.2.2.2.2.1
  have c11 := fun u => (bk14 (U9 u).b1).2.2.2.2.2.2.2.2.2.2.2.1
  have c12 := fun u => (bk14 (U9 u).b1).2.2.2.2.2.2.2.2.2.2.2.2.1
  have c13 := fun u => (bk14 (U9 u).b1).2.2.2.2.2.2.2.2.2.2.2.2.2.1
  have k0 := fun u => (bk3 (U9 u).b3).1
  have k1 := fun u => (bk3 (U9 u).b3).2.1
  have k2 := fun u => (bk3 (U9 u).b3).2.2.1
  have Gslot := hide (fun u => Hslot.out u.1 (U9 u).bel)
  have Gsize := hide (fun u => Hsize.out u.1 (U9 u).bel)
  have UU := hide U9
  clear U9
  refine wp_region_up_tail 12 (by kernel_rfl) (by kernel_rfl) ?_
  simp only [List.take_succ_cons, List.take_zero, List.drop_succ_cons, List.drop_zero]
  repeat (go_big_quiet_step (first
    | (go_at_call 87; exact up_call (Gslot.out _))
    | (go_at_call 85; exact up_call (Gsize.out _))
    | (go_at_call 86; exact up_same (rnext_any _ _ _))
    | (go_at_call 91; exact up_call (access_any _ _ _ _ _))))
  refine wpQuiet_nil ?_
  intro u
  clear c0 c1 c2 c3 c4 c5 c6 c7 c8 c9 c10 c11 c12 c13 k0 k1 k2
  have V9 := hide (UU.out u)
  clear UU
  generalize u.1 = w9 at *
  have HT := hide (V9.out.b2.there (n := 5) rfl)
  go_wp2_with ((with_reducible show wpList _ _ _ _ _ _); refine wpList_store_res (by rfl) 69 _ _ (by rfl) (w.heap.size + 1) (Acc.cells ⟨2, s, 0, nx h (sz (l.getD ch 0))⟩) (by rfl) (by rfl) HT.out Try.ac_inf (ac_one _) ?_; intro wz HZ)
  obtain ⟨fs, hfs⟩ := Try.ac_und
  exact ret_stored HZ Try.results50 rfl HT.out hfs rfl Try.ac_inf rfl ⟨rfl, below_stored HZ V9.out.bel (by omega)⟩
end Go.Proofs.Ytepngbdjobckbaa
