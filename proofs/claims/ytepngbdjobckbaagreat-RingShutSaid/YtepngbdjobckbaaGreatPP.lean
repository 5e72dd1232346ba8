/- Several texts in one. -/
import Derived.Test.YtepngbdjobckbaaGreatN
import Derived.RegionTactic
import Derived.BigRegion
section
namespace Go.Proofs.YtepngbdjobckbaaGreat
open Go.RowKit
set_option linter.unusedVariables false
attribute [local irreducible] Go.bits

theorem E3.ofd {w w2 : World} {t1 t2 t3 : TypeId} {c1 c2 c3 : Array Value} (hb : Below (((w.alloc (.cells c1 t1)).alloc (.cells c2 t2)).alloc (.cells c3 t3)).drew.heap.size (((w.alloc (.cells c1 t1)).alloc (.cells c2 t2)).alloc (.cells c3 t3)).drew w2) : E3 w w2 t1 t2 t3 c1 c2 c3 :=
  E3.of (w := w) ⟨hb.os, hb.tape, hb.output, hb.size, hb.block⟩
theorem Tryz.ac_und : ∃ fs, Tryz.prog.underlying 56 = some (.struct fs) := ⟨_, Tryz.underlying56⟩
theorem Tryz.ac_inf : (Tryz.prog.info? 56).map (·.size) = some 5 := by kernel_rfl
theorem ac_one (x : Acc) : (Acc.cells x).all (·.oneCell') = true := by
  refine all_oneCell_toArray (cs := [_, _, _, _, _]) fun v hv => ?_
  simp only [List.mem_cons, List.not_mem_nil, or_false] at hv
  rcases hv with rfl | rfl | rfl | rfl | rfl <;> rfl
theorem bk3 {w : World} {g : Nat} {t : TypeId} {a0 a1 a2 : Value} (h : Bk w g t #[a0, a1, a2]) :
    w.cell? ⟨g, 0, none⟩ = some a0 ∧ w.cell? ⟨g, 1, none⟩ = some a1 ∧ w.cell? ⟨g, 2, none⟩ = some a2 ∧ ∀ i, w.frozen? ⟨g, i, none⟩ = false :=
  ⟨h.cell 0, h.cell 1, h.cell 2, h.frozen⟩
set_option maxHeartbeats 2000000 in
set_option maxRecDepth 100000 in
theorem mnext_1 (w : World) (A : Option Addr) (n c : Nat) (B : Option Addr) (m d : Nat) (t : Int) (ch th : Nat) (ix kd v tt h ok ov : Int) (l : List Int) (hcf : Cf w A n l) (p : Int) (hp : tlN l ch = p) (hch : ch < n) :
    Calls Tryz.prog 53 #[.agg (Mc.cells A n c B m d t ⟨1, 1, ch, th, ix, kd, v, tt, h, ok, ov⟩)] w fun e w' => e = .returned (.agg (Acc.cells ⟨3, p + 2, 0, 1⟩)) ∧ Below w.heap.size w w' := by
  have Htail := hide (show ∀ W, Below w.heap.size w W → Calls Tryz.prog 7 #[.agg #[.slice A n c, .slice B m d, .int .i64 t], .int .i64 ch] W fun e w' => e = .returned (.int .i64 p) ∧ Below W.heap.size W w' from fun W hW => by have := rtl_any W A n c l B m d t (hcf.below hW) ch (by omega); rwa [hp] at this)
  have Hhead := hide (show ∀ W, Below w.heap.size w W → Calls Tryz.prog 8 #[.agg #[.slice A n c, .slice B m d, .int .i64 t], .int .i64 ch] W fun e w' => e = .returned (.int .i64 (p + 1)) ∧ Below W.heap.size W w' from fun W hW => by have := rhead_any W A n c l B m d t (hcf.below hW) ch (by omega); rwa [hp] at this)
  have Hlock := hide (show ∀ W, Below w.heap.size w W → Calls Tryz.prog 79 #[.agg #[.slice A n c, .slice B m d, .int .i64 t], .int .i64 ch] W fun e w' => e = .returned (.int .i64 (p + 2)) ∧ Below W.heap.size W w' from fun W hW => by have := rlock_any W A n c l B m d t (hcf.below hW) ch (by omega); rwa [hp] at this)
  clear hcf hp
  rw [Mc.cells]
  go_enter Tryz.func53, Tryz.ntmps53
  go_wp2
  go_region
  go_wp2
  have U0 := fun (u : Up ((((w.alloc (.cells #[.int .i64 1, .int .i64 1, .slice A n c, .slice B m d, .int .i64 t, .int .i64 (ch : Nat), .int .i64 (th : Nat), .int .i64 ix, .int .i64 kd, .int .u64 v, .int .u64 tt, .int .u64 h, .int .i64 ok, .int .u64 ov] 81)).alloc (.cells #[.int .i64 0, .int .i64 0, .int .u64 0, .int .u64 0, .int .i64 0] 56)).alloc (.cells #[.slice A n c, .slice B m d, .int .i64 t] 30)).drew)) => E3.ofd u.2
  have c0 := fun u => (bk3 (U0 u).b3).1
  have c1 := fun u => (bk3 (U0 u).b3).2.1
  have c2 := fun u => (bk3 (U0 u).b3).2.2.1
  have HU1 := hide (fun u => Htail.out u.1 (U0 u).bel)
  have HU2 := hide (fun u => Hhead.out u.1 (U0 u).bel)
  have UU := hide U0
  clear U0
  refine wp_region_up (by kernel_rfl) (by kernel_rfl) ?_
  repeat (go_big_quiet_step (first
    | (go_at_call 7; exact up_call (HU1.out _))
    | (go_at_call 8; exact up_call (HU2.out _))))
  refine wpQuiet_nil ?_
  rintro _ ⟨u, rfl⟩
  clear c0 c1 c2 HU1 HU2
  have V1 := hide (UU.out u)
  clear UU
  generalize u.1 = w1 at *
  obtain ⟨c0, c1, c2, c3, c4, c5, c6, c7, c8, c9, c10, c11, c12, c13, f1⟩ := bk14 V1.out.b1
  obtain ⟨k0, k1, k2, -⟩ := bk3 V1.out.b3
  go_wp2_with fail
  refine (Hlock.out _ V1.out.bel).mono ?_
  rintro e w2 ⟨rfl, hb⟩
  have V2 := hide (V1.out.next hb)
  clear hb c0 c1 c2 c3 c4 c5 c6 c7 c8 c9 c10 c11 c12 c13 f1 k0 k1 k2
  obtain ⟨c0, c1, c2, c3, c4, c5, c6, c7, c8, c9, c10, c11, c12, c13, f1⟩ := bk14 V2.out.b1
  obtain ⟨k0, k1, k2, -⟩ := bk3 V2.out.b3
  go_wp2_with fail
  refine (access_any _ _ _ _ _).mono ?_
  rintro e w9 ⟨rfl, hb⟩
  have V9 := hide (V2.out.next hb)
  clear hb c0 c1 c2 c3 c4 c5 c6 c7 c8 c9 c10 c11 c12 c13 f1 k0 k1 k2
  have HT := hide (V9.out.b2.there (n := 5) rfl)
  go_wp2_with ((with_reducible show wpList _ _ _ _ _ _); refine wpList_store_res (by rfl) 56 _ _ (by rfl) (w.heap.size + 1) (Acc.cells ⟨3, p + 2, 0, 1⟩) (by rfl) (by rfl) HT.out Tryz.ac_inf (ac_one _) ?_; intro wz HZ)
  obtain ⟨fs, hfs⟩ := Tryz.ac_und
  exact ret_stored HZ Tryz.results53 rfl HT.out hfs rfl Tryz.ac_inf rfl ⟨rfl, below_stored HZ V9.out.bel (by omega)⟩

set_option maxHeartbeats 2000000 in
set_option maxRecDepth 100000 in
theorem mnext_2 (w : World) (A : Option Addr) (n c : Nat) (B : Option Addr) (m d : Nat) (t : Int) (ch th : Nat) (ix kd v tt h ok ov : Int) (l : List Int) (hcf : Cf w A n l) (p : Int) (hp : tlN l ch = p) (hch : ch < n) :
    Calls Tryz.prog 53 #[.agg (Mc.cells A n c B m d t ⟨2, 1, ch, th, ix, kd, v, tt, h, ok, ov⟩)] w fun e w' => e = .returned (.agg (Acc.cells ⟨2, p + 2, 0, 0⟩)) ∧ Below w.heap.size w w' := by
  have Htail := hide (show ∀ W, Below w.heap.size w W → Calls Tryz.prog 7 #[.agg #[.slice A n c, .slice B m d, .int .i64 t], .int .i64 ch] W fun e w' => e = .returned (.int .i64 p) ∧ Below W.heap.size W w' from fun W hW => by have := rtl_any W A n c l B m d t (hcf.below hW) ch (by omega); rwa [hp] at this)
  have Hhead := hide (show ∀ W, Below w.heap.size w W → Calls Tryz.prog 8 #[.agg #[.slice A n c, .slice B m d, .int .i64 t], .int .i64 ch] W fun e w' => e = .returned (.int .i64 (p + 1)) ∧ Below W.heap.size W w' from fun W hW => by have := rhead_any W A n c l B m d t (hcf.below hW) ch (by omega); rwa [hp] at this)
  have Hlock := hide (show ∀ W, Below w.heap.size w W → Calls Tryz.prog 79 #[.agg #[.slice A n c, .slice B m d, .int .i64 t], .int .i64 ch] W fun e w' => e = .returned (.int .i64 (p + 2)) ∧ Below W.heap.size W w' from fun W hW => by have := rlock_any W A n c l B m d t (hcf.below hW) ch (by omega); rwa [hp] at this)
  clear hcf hp
  rw [Mc.cells]
  go_enter Tryz.func53, Tryz.ntmps53
  go_wp2
  go_region
  go_wp2
  have U0 := fun (u : Up ((((w.alloc (.cells #[.int .i64 2, .int .i64 1, .slice A n c, .slice B m d, .int .i64 t, .int .i64 (ch : Nat), .int .i64 (th : Nat), .int .i64 ix, .int .i64 kd, .int .u64 v, .int .u64 tt, .int .u64 h, .int .i64 ok, .int .u64 ov] 81)).alloc (.cells #[.int .i64 0, .int .i64 0, .int .u64 0, .int .u64 0, .int .i64 0] 56)).alloc (.cells #[.slice A n c, .slice B m d, .int .i64 t] 30)).drew)) => E3.ofd u.2
  have c0 := fun u => (bk3 (U0 u).b3).1
  have c1 := fun u => (bk3 (U0 u).b3).2.1
  have c2 := fun u => (bk3 (U0 u).b3).2.2.1
  have HU1 := hide (fun u => Htail.out u.1 (U0 u).bel)
  have HU2 := hide (fun u => Hhead.out u.1 (U0 u).bel)
  have UU := hide U0
  clear U0
  refine wp_region_up (by kernel_rfl) (by kernel_rfl) ?_
  repeat (go_big_quiet_step (first
    | (go_at_call 7; exact up_call (HU1.out _))
    | (go_at_call 8; exact up_call (HU2.out _))))
  refine wpQuiet_nil ?_
  rintro _ ⟨u, rfl⟩
  clear c0 c1 c2 HU1 HU2
  have V1 := hide (UU.out u)
  clear UU
  generalize u.1 = w1 at *
  obtain ⟨c0, c1, c2, c3, c4, c5, c6, c7, c8, c9, c10, c11, c12, c13, f1⟩ := bk14 V1.out.b1
  obtain ⟨k0, k1, k2, -⟩ := bk3 V1.out.b3
  go_wp2_with fail
  refine (Hlock.out _ V1.out.bel).mono ?_
  rintro e w2 ⟨rfl, hb⟩
  have V2 := hide (V1.out.next hb)
  clear hb c0 c1 c2 c3 c4 c5 c6 c7 c8 c9 c10 c11 c12 c13 f1 k0 k1 k2
  obtain ⟨c0, c1, c2, c3, c4, c5, c6, c7, c8, c9, c10, c11, c12, c13, f1⟩ := bk14 V2.out.b1
  obtain ⟨k0, k1, k2, -⟩ := bk3 V2.out.b3
  go_wp2_with fail
  refine (access_any _ _ _ _ _).mono ?_
  rintro e w9 ⟨rfl, hb⟩
  have V9 := hide (V2.out.next hb)
  clear hb c0 c1 c2 c3 c4 c5 c6 c7 c8 c9 c10 c11 c12 c13 f1 k0 k1 k2
  have HT := hide (V9.out.b2.there (n := 5) rfl)
  go_wp2_with ((with_reducible show wpList _ _ _ _ _ _); refine wpList_store_res (by rfl) 56 _ _ (by rfl) (w.heap.size + 1) (Acc.cells ⟨2, p + 2, 0, 0⟩) (by rfl) (by rfl) HT.out Tryz.ac_inf (ac_one _) ?_; intro wz HZ)
  obtain ⟨fs, hfs⟩ := Tryz.ac_und
  exact ret_stored HZ Tryz.results53 rfl HT.out hfs rfl Tryz.ac_inf rfl ⟨rfl, below_stored HZ V9.out.bel (by omega)⟩
end Go.Proofs.YtepngbdjobckbaaGreat
end
section
namespace Go.Proofs.YtepngbdjobckbaaGreat
open Go.RowKit
set_option linter.unusedVariables false
attribute [local irreducible] Go.bits

set_option maxHeartbeats 2000000 in
set_option maxRecDepth 100000 in
theorem mnext_31 (w : World) (A : Option Addr) (n c : Nat) (B : Option Addr) (m d : Nat) (t : Int) (ch th : Nat) (ix kd v tt h ok ov : Int) (l : List Int) (hcf : Cf w A n l) (p : Int) (hp : tlN l ch = p) (hch : ch < n) :
    Calls Tryz.prog 53 #[.agg (Mc.cells A n c B m d t ⟨3, 1, ch, th, ix, kd, v, tt, h, ok, ov⟩)] w fun e w' => e = .returned (.agg (Acc.cells ⟨1, p, 0, 0⟩)) ∧ Below w.heap.size w w' := by
  have Htail := hide (show ∀ W, Below w.heap.size w W → Calls Tryz.prog 7 #[.agg #[.slice A n c, .slice B m d, .int .i64 t], .int .i64 ch] W fun e w' => e = .returned (.int .i64 p) ∧ Below W.heap.size W w' from fun W hW => by have := rtl_any W A n c l B m d t (hcf.below hW) ch (by omega); rwa [hp] at this)
  have Hhead := hide (show ∀ W, Below w.heap.size w W → Calls Tryz.prog 8 #[.agg #[.slice A n c, .slice B m d, .int .i64 t], .int .i64 ch] W fun e w' => e = .returned (.int .i64 (p + 1)) ∧ Below W.heap.size W w' from fun W hW => by have := rhead_any W A n c l B m d t (hcf.below hW) ch (by omega); rwa [hp] at this)
  clear hcf hp
  rw [Mc.cells]
  go_enter Tryz.func53, Tryz.ntmps53
  go_wp2
  go_region
  go_wp2
  have U0 := fun (u : Up ((((w.alloc (.cells #[.int .i64 3, .int .i64 1, .slice A n c, .slice B m d, .int .i64 t, .int .i64 (ch : Nat), .int .i64 (th : Nat), .int .i64 ix, .int .i64 kd, .int .u64 v, .int .u64 tt, .int .u64 h, .int .i64 ok, .int .u64 ov] 81)).alloc (.cells #[.int .i64 0, .int .i64 0, .int .u64 0, .int .u64 0, .int .i64 0] 56)).alloc (.cells #[.slice A n c, .slice B m d, .int .i64 t] 30)).drew)) => E3.ofd u.2
  have c0 := fun u => (bk3 (U0 u).b3).1
  have c1 := fun u => (bk3 (U0 u).b3).2.1
  have c2 := fun u => (bk3 (U0 u).b3).2.2.1
  have HU1 := hide (fun u => Htail.out u.1 (U0 u).bel)
  have HU2 := hide (fun u => Hhead.out u.1 (U0 u).bel)
  have UU := hide U0
  clear U0
  refine wp_region_up (by kernel_rfl) (by kernel_rfl) ?_
  repeat (go_big_quiet_step (first
    | (go_at_call 7; exact up_call (HU1.out _))
    | (go_at_call 8; exact up_call (HU2.out _))))
  refine wpQuiet_nil ?_
  rintro _ ⟨u, rfl⟩
  clear c0 c1 c2 HU1 HU2
  have V1 := hide (UU.out u)
  clear UU
  generalize u.1 = w1 at *
  obtain ⟨c0, c1, c2, c3, c4, c5, c6, c7, c8, c9, c10, c11, c12, c13, f1⟩ := bk14 V1.out.b1
  obtain ⟨k0, k1, k2, -⟩ := bk3 V1.out.b3
  go_wp2_with fail
  refine (access_any _ _ _ _ _).mono ?_
  rintro e w9 ⟨rfl, hb⟩
  have V9 := hide (V1.out.next hb)
  clear hb c0 c1 c2 c3 c4 c5 c6 c7 c8 c9 c10 c11 c12 c13 f1 k0 k1 k2
  have HT := hide (V9.out.b2.there (n := 5) rfl)
  go_wp2_with ((with_reducible show wpList _ _ _ _ _ _); refine wpList_store_res (by rfl) 56 _ _ (by rfl) (w.heap.size + 1) (Acc.cells ⟨1, p, 0, 0⟩) (by rfl) (by rfl) HT.out Tryz.ac_inf (ac_one _) ?_; intro wz HZ)
  obtain ⟨fs, hfs⟩ := Tryz.ac_und
  exact ret_stored HZ Tryz.results53 rfl HT.out hfs rfl Tryz.ac_inf rfl ⟨rfl, below_stored HZ V9.out.bel (by omega)⟩

set_option maxHeartbeats 2000000 in
set_option maxRecDepth 100000 in
theorem mnext_33 (w : World) (A : Option Addr) (n c : Nat) (B : Option Addr) (m d : Nat) (t : Int) (ch th : Nat) (ix kd v tt h ok ov : Int) (l : List Int) (hcf : Cf w A n l) (p : Int) (hp : tlN l ch = p) (hch : ch < n) :
    Calls Tryz.prog 53 #[.agg (Mc.cells A n c B m d t ⟨3, 3, ch, th, ix, kd, v, tt, h, ok, ov⟩)] w fun e w' => e = .returned (.agg (Acc.cells ⟨1, p, 0, 0⟩)) ∧ Below w.heap.size w w' := by
  have Htail := hide (show ∀ W, Below w.heap.size w W → Calls Tryz.prog 7 #[.agg #[.slice A n c, .slice B m d, .int .i64 t], .int .i64 ch] W fun e w' => e = .returned (.int .i64 p) ∧ Below W.heap.size W w' from fun W hW => by have := rtl_any W A n c l B m d t (hcf.below hW) ch (by omega); rwa [hp] at this)
  have Hhead := hide (show ∀ W, Below w.heap.size w W → Calls Tryz.prog 8 #[.agg #[.slice A n c, .slice B m d, .int .i64 t], .int .i64 ch] W fun e w' => e = .returned (.int .i64 (p + 1)) ∧ Below W.heap.size W w' from fun W hW => by have := rhead_any W A n c l B m d t (hcf.below hW) ch (by omega); rwa [hp] at this)
  clear hcf hp
  rw [Mc.cells]
  go_enter Tryz.func53, Tryz.ntmps53
  go_wp2
  go_region
  go_wp2
  have U0 := fun (u : Up ((((w.alloc (.cells #[.int .i64 3, .int .i64 3, .slice A n c, .slice B m d, .int .i64 t, .int .i64 (ch : Nat), .int .i64 (th : Nat), .int .i64 ix, .int .i64 kd, .int .u64 v, .int .u64 tt, .int .u64 h, .int .i64 ok, .int .u64 ov] 81)).alloc (.cells #[.int .i64 0, .int .i64 0, .int .u64 0, .int .u64 0, .int .i64 0] 56)).alloc (.cells #[.slice A n c, .slice B m d, .int .i64 t] 30)).drew)) => E3.ofd u.2
  have c0 := fun u => (bk3 (U0 u).b3).1
  have c1 := fun u => (bk3 (U0 u).b3).2.1
  have c2 := fun u => (bk3 (U0 u).b3).2.2.1
  have HU1 := hide (fun u => Htail.out u.1 (U0 u).bel)
  have HU2 := hide (fun u => Hhead.out u.1 (U0 u).bel)
  have UU := hide U0
  clear U0
  refine wp_region_up (by kernel_rfl) (by kernel_rfl) ?_
  repeat (go_big_quiet_step (first
    | (go_at_call 7; exact up_call (HU1.out _))
    | (go_at_call 8; exact up_call (HU2.out _))))
  refine wpQuiet_nil ?_
  rintro _ ⟨u, rfl⟩
  clear c0 c1 c2 HU1 HU2
  have V1 := hide (UU.out u)
  clear UU
  generalize u.1 = w1 at *
  obtain ⟨c0, c1, c2, c3, c4, c5, c6, c7, c8, c9, c10, c11, c12, c13, f1⟩ := bk14 V1.out.b1
  obtain ⟨k0, k1, k2, -⟩ := bk3 V1.out.b3
  go_wp2_with fail
  refine (access_any _ _ _ _ _).mono ?_
  rintro e w9 ⟨rfl, hb⟩
  have V9 := hide (V1.out.next hb)
  clear hb c0 c1 c2 c3 c4 c5 c6 c7 c8 c9 c10 c11 c12 c13 f1 k0 k1 k2
  have HT := hide (V9.out.b2.there (n := 5) rfl)
  go_wp2_with ((with_reducible show wpList _ _ _ _ _ _); refine wpList_store_res (by rfl) 56 _ _ (by rfl) (w.heap.size + 1) (Acc.cells ⟨1, p, 0, 0⟩) (by rfl) (by rfl) HT.out Tryz.ac_inf (ac_one _) ?_; intro wz HZ)
  obtain ⟨fs, hfs⟩ := Tryz.ac_und
  exact ret_stored HZ Tryz.results53 rfl HT.out hfs rfl Tryz.ac_inf rfl ⟨rfl, below_stored HZ V9.out.bel (by omega)⟩

set_option maxHeartbeats 2000000 in
set_option maxRecDepth 100000 in
theorem mnext_32 (w : World) (A : Option Addr) (n c : Nat) (B : Option Addr) (m d : Nat) (t : Int) (ch th : Nat) (ix kd v tt h ok ov : Int) (l : List Int) (hcf : Cf w A n l) (p : Int) (hp : tlN l ch = p) (hch : ch < n) :
    Calls Tryz.prog 53 #[.agg (Mc.cells A n c B m d t ⟨3, 2, ch, th, ix, kd, v, tt, h, ok, ov⟩)] w fun e w' => e = .returned (.agg (Acc.cells ⟨1, p + 1, 0, 0⟩)) ∧ Below w.heap.size w w' := by
  have Htail := hide (show ∀ W, Below w.heap.size w W → Calls Tryz.prog 7 #[.agg #[.slice A n c, .slice B m d, .int .i64 t], .int .i64 ch] W fun e w' => e = .returned (.int .i64 p) ∧ Below W.heap.size W w' from fun W hW => by have := rtl_any W A n c l B m d t (hcf.below hW) ch (by omega); rwa [hp] at this)
  have Hhead := hide (show ∀ W, Below w.heap.size w W → Calls Tryz.prog 8 #[.agg #[.slice A n c, .slice B m d, .int .i64 t], .int .i64 ch] W fun e w' => e = .returned (.int .i64 (p + 1)) ∧ Below W.heap.size W w' from fun W hW => by have := rhead_any W A n c l B m d t (hcf.below hW) ch (by omega); rwa [hp] at this)
  clear hcf hp
  rw [Mc.cells]
  go_enter Tryz.func53, Tryz.ntmps53
  go_wp2
  go_region
  go_wp2
  have U0 := fun (u : Up ((((w.alloc (.cells #[.int .i64 3, .int .i64 2, .slice A n c, .slice B m d, .int .i64 t, .int .i64 (ch : Nat), .int .i64 (th : Nat), .int .i64 ix, .int .i64 kd, .int .u64 v, .int .u64 tt, .int .u64 h, .int .i64 ok, .int .u64 ov] 81)).alloc (.cells #[.int .i64 0, .int .i64 0, .int .u64 0, .int .u64 0, .int .i64 0] 56)).alloc (.cells #[.slice A n c, .slice B m d, .int .i64 t] 30)).drew)) => E3.ofd u.2
  have c0 := fun u => (bk3 (U0 u).b3).1
  have c1 := fun u => (bk3 (U0 u).b3).2.1
  have c2 := fun u => (bk3 (U0 u).b3).2.2.1
  have HU1 := hide (fun u => Htail.out u.1 (U0 u).bel)
  have HU2 := hide (fun u => Hhead.out u.1 (U0 u).bel)
  have UU := hide U0
  clear U0
  refine wp_region_up (by kernel_rfl) (by kernel_rfl) ?_
  repeat (go_big_quiet_step (first
    | (go_at_call 7; exact up_call (HU1.out _))
    | (go_at_call 8; exact up_call (HU2.out _))))
  refine wpQuiet_nil ?_
  rintro _ ⟨u, rfl⟩
  clear c0 c1 c2 HU1 HU2
  have V1 := hide (UU.out u)
  clear UU
  generalize u.1 = w1 at *
  obtain ⟨c0, c1, c2, c3, c4, c5, c6, c7, c8, c9, c10, c11, c12, c13, f1⟩ := bk14 V1.out.b1
  obtain ⟨k0, k1, k2, -⟩ := bk3 V1.out.b3
  go_wp2_with fail
  refine (access_any _ _ _ _ _).mono ?_
  rintro e w9 ⟨rfl, hb⟩
  have V9 := hide (V1.out.next hb)
  clear hb c0 c1 c2 c3 c4 c5 c6 c7 c8 c9 c10 c11 c12 c13 f1 k0 k1 k2
  have HT := hide (V9.out.b2.there (n := 5) rfl)
  go_wp2_with ((with_reducible show wpList _ _ _ _ _ _); refine wpList_store_res (by rfl) 56 _ _ (by rfl) (w.heap.size + 1) (Acc.cells ⟨1, p + 1, 0, 0⟩) (by rfl) (by rfl) HT.out Tryz.ac_inf (ac_one _) ?_; intro wz HZ)
  obtain ⟨fs, hfs⟩ := Tryz.ac_und
  exact ret_stored HZ Tryz.results53 rfl HT.out hfs rfl Tryz.ac_inf rfl ⟨rfl, below_stored HZ V9.out.bel (by omega)⟩

set_option maxHeartbeats 2000000 in
set_option maxRecDepth 100000 in
theorem mnext_34 (w : World) (A : Option Addr) (n c : Nat) (B : Option Addr) (m d : Nat) (t : Int) (ch th : Nat) (ix kd v tt h ok ov : Int) (l : List Int) (hcf : Cf w A n l) (p : Int) (hp : tlN l ch = p) (hch : ch < n) (s : Int) (hs : slN l ch (tt / 2) = s) (hs0 : 0 ≤ tt / 2) (hs1 : tt / 2 ≤ 18446744073709551615) :
    Calls Tryz.prog 53 #[.agg (Mc.cells A n c B m d t ⟨3, 4, ch, th, ix, kd, v, tt, h, ok, ov⟩)] w fun e w' => e = .returned (.agg (Acc.cells ⟨1, s, 0, 0⟩)) ∧ Below w.heap.size w w' := by
  have Htail := hide (show ∀ W, Below w.heap.size w W → Calls Tryz.prog 7 #[.agg #[.slice A n c, .slice B m d, .int .i64 t], .int .i64 ch] W fun e w' => e = .returned (.int .i64 p) ∧ Below W.heap.size W w' from fun W hW => by have := rtl_any W A n c l B m d t (hcf.below hW) ch (by omega); rwa [hp] at this)
  have Hhead := hide (show ∀ W, Below w.heap.size w W → Calls Tryz.prog 8 #[.agg #[.slice A n c, .slice B m d, .int .i64 t], .int .i64 ch] W fun e w' => e = .returned (.int .i64 (p + 1)) ∧ Below W.heap.size W w' from fun W hW => by have := rhead_any W A n c l B m d t (hcf.below hW) ch (by omega); rwa [hp] at this)
  have Hslot := hide (show ∀ W, Below w.heap.size w W → Calls Tryz.prog 42 #[.agg #[.slice A n c, .slice B m d, .int .i64 t], .int .i64 ch, .int .u64 (tt / 2)] W fun e w' => e = .returned (.int .i64 s) ∧ Below W.heap.size W w' from fun W hW => by rw [← hs]; exact rslotseq_any W A n c l B m d t (hcf.below hW) ch hch (tt / 2) hs0 hs1)
  clear hcf hp hs
  rw [Mc.cells]
  go_enter Tryz.func53, Tryz.ntmps53
  go_wp2
  go_region
  go_wp2
  have U0 := fun (u : Up ((((w.alloc (.cells #[.int .i64 3, .int .i64 4, .slice A n c, .slice B m d, .int .i64 t, .int .i64 (ch : Nat), .int .i64 (th : Nat), .int .i64 ix, .int .i64 kd, .int .u64 v, .int .u64 tt, .int .u64 h, .int .i64 ok, .int .u64 ov] 81)).alloc (.cells #[.int .i64 0, .int .i64 0, .int .u64 0, .int .u64 0, .int .i64 0] 56)).alloc (.cells #[.slice A n c, .slice B m d, .int .i64 t] 30)).drew)) => E3.ofd u.2
  have c0 := fun u => (bk3 (U0 u).b3).1
  have c1 := fun u => (bk3 (U0 u).b3).2.1
  have c2 := fun u => (bk3 (U0 u).b3).2.2.1
  have HU1 := hide (fun u => Htail.out u.1 (U0 u).bel)
  have HU2 := hide (fun u => Hhead.out u.1 (U0 u).bel)
  have UU := hide U0
  clear U0
  refine wp_region_up (by kernel_rfl) (by kernel_rfl) ?_
  repeat (go_big_quiet_step (first
    | (go_at_call 7; exact up_call (HU1.out _))
    | (go_at_call 8; exact up_call (HU2.out _))))
  refine wpQuiet_nil ?_
  rintro _ ⟨u, rfl⟩
  clear c0 c1 c2 HU1 HU2
  have V1 := hide (UU.out u)
  clear UU
  generalize u.1 = w1 at *
  obtain ⟨c0, c1, c2, c3, c4, c5, c6, c7, c8, c9, c10, c11, c12, c13, f1⟩ := bk14 V1.out.b1
  obtain ⟨k0, k1, k2, -⟩ := bk3 V1.out.b3
  go_wp2_with fail
  clear c0 c1 c2 c3 c4 c5 c6 c7 c8 c9 c10 c11 c12 c13 f1 k0 k1 k2
  have U9 := fun (u : Up w1) => V1.out.next u.2
  have c0 := fun u => (bk14 (U9 u).b1).1
  have c1 := fun u => (bk14 (U9 u).b1).2.1
  have c2 := fun u => (bk14 (U9 u).b1).2.2.1
  have c3 := fun u => (bk14 (U9 u).b1).2.2.2.1
  have c4 := fun u => (bk14 (U9 u).b1).2.2.2.2.1
  have c5 := fun u => (bk14 (U9 u).b1).2.2.2.2.2.1
  have c6 := fun u => (bk14 (U9 u).b1).2.2.2.2.2.2.1
  have c7 := fun u => (bk14 (U9 u).b1).2.2.2.2.2.2.2.1
  have c8 := fun u => (bk14 (U9 u).b1).2.2.2.2.2.2.2.2.1
  have c9 := fun u => (bk14 (U9 u).b1).2.2.2.2.2.2.2.2.2.1
  have c10 := fun u => (bk14 (U9 u).b1).2.2.2.2.2.2.2.2.2.2.1
  have c11 := fun u => (bk14 (U9 u).b1).2.2.2.2.2.2.2.2.2.2.2.1
  have c12 := fun u => (bk14 (U9 u).b1).2.2.2.2.2.2.2.2.2.2.2.2.1
  have c13 := fun u => (bk14 (U9 u).b1).2.2.2.2.2.2.2.2.2.2.2.2.2.1
  have k0 := fun u => (bk3 (U9 u).b3).1
  have k1 := fun u => (bk3 (U9 u).b3).2.1
  have k2 := fun u => (bk3 (U9 u).b3).2.2.1
  have Gslot := hide (fun u => Hslot.out u.1 (U9 u).bel)
  have UU := hide U9
  clear U9
  refine wp_region_up_tail 6 (by kernel_rfl) (by kernel_rfl) ?_
  simp only [List.take_succ_cons, List.take_zero, List.drop_succ_cons, List.drop_zero]
  repeat (go_big_quiet_step (first
    | (go_at_call 80; exact up_call (mseq_any _ A n c B m d t ⟨3, 4, ch, th, ix, kd, v, tt, h, ok, ov⟩))
    | (go_at_call 42; exact up_call (Gslot.out _))
    | (go_at_call 78; exact up_call (access_any _ _ _ _ _))))
  refine wpQuiet_nil ?_
  intro u
  clear c0 c1 c2 c3 c4 c5 c6 c7 c8 c9 c10 c11 c12 c13 k0 k1 k2
  have V9 := hide (UU.out u)
  clear UU
  generalize u.1 = w9 at *
  have HT := hide (V9.out.b2.there (n := 5) rfl)
  go_wp2_with ((with_reducible show wpList _ _ _ _ _ _); refine wpList_store_res (by rfl) 56 _ _ (by rfl) (w.heap.size + 1) (Acc.cells ⟨1, s, 0, 0⟩) (by rfl) (by rfl) HT.out Tryz.ac_inf (ac_one _) ?_; intro wz HZ)
  obtain ⟨fs, hfs⟩ := Tryz.ac_und
  exact ret_stored HZ Tryz.results53 rfl HT.out hfs rfl Tryz.ac_inf rfl ⟨rfl, below_stored HZ V9.out.bel (by omega)⟩

set_option maxHeartbeats 2000000 in
set_option maxRecDepth 100000 in
theorem mnext_35 (w : World) (A : Option Addr) (n c : Nat) (B : Option Addr) (m d : Nat) (t : Int) (ch th : Nat) (ix kd v tt h ok ov : Int) (l : List Int) (hcf : Cf w A n l) (p : Int) (hp : tlN l ch = p) (hch : ch < n) :
    Calls Tryz.prog 53 #[.agg (Mc.cells A n c B m d t ⟨3, 5, ch, th, ix, kd, v, tt, h, ok, ov⟩)] w fun e w' => e = .returned (.agg (Acc.cells ⟨3, p, tt, pk (nx (tt / 2) 1) false⟩)) ∧ Below w.heap.size w w' := by
  have Htail := hide (show ∀ W, Below w.heap.size w W → Calls Tryz.prog 7 #[.agg #[.slice A n c, .slice B m d, .int .i64 t], .int .i64 ch] W fun e w' => e = .returned (.int .i64 p) ∧ Below W.heap.size W w' from fun W hW => by have := rtl_any W A n c l B m d t (hcf.below hW) ch (by omega); rwa [hp] at this)
  have Hhead := hide (show ∀ W, Below w.heap.size w W → Calls Tryz.prog 8 #[.agg #[.slice A n c, .slice B m d, .int .i64 t], .int .i64 ch] W fun e w' => e = .returned (.int .i64 (p + 1)) ∧ Below W.heap.size W w' from fun W hW => by have := rhead_any W A n c l B m d t (hcf.below hW) ch (by omega); rwa [hp] at this)
  clear hcf hp
  rw [Mc.cells]
  go_enter Tryz.func53, Tryz.ntmps53
  go_wp2
  go_region
  go_wp2
  have U0 := fun (u : Up ((((w.alloc (.cells #[.int .i64 3, .int .i64 5, .slice A n c, .slice B m d, .int .i64 t, .int .i64 (ch : Nat), .int .i64 (th : Nat), .int .i64 ix, .int .i64 kd, .int .u64 v, .int .u64 tt, .int .u64 h, .int .i64 ok, .int .u64 ov] 81)).alloc (.cells #[.int .i64 0, .int .i64 0, .int .u64 0, .int .u64 0, .int .i64 0] 56)).alloc (.cells #[.slice A n c, .slice B m d, .int .i64 t] 30)).drew)) => E3.ofd u.2
  have c0 := fun u => (bk3 (U0 u).b3).1
  have c1 := fun u => (bk3 (U0 u).b3).2.1
  have c2 := fun u => (bk3 (U0 u).b3).2.2.1
  have HU1 := hide (fun u => Htail.out u.1 (U0 u).bel)
  have HU2 := hide (fun u => Hhead.out u.1 (U0 u).bel)
  have UU := hide U0
  clear U0
  refine wp_region_up (by kernel_rfl) (by kernel_rfl) ?_
  repeat (go_big_quiet_step (first
    | (go_at_call 7; exact up_call (HU1.out _))
    | (go_at_call 8; exact up_call (HU2.out _))))
  refine wpQuiet_nil ?_
  rintro _ ⟨u, rfl⟩
  clear c0 c1 c2 HU1 HU2
  have V1 := hide (UU.out u)
  clear UU
  generalize u.1 = w1 at *
  obtain ⟨c0, c1, c2, c3, c4, c5, c6, c7, c8, c9, c10, c11, c12, c13, f1⟩ := bk14 V1.out.b1
  obtain ⟨k0, k1, k2, -⟩ := bk3 V1.out.b3
  go_wp2_with fail
  clear c0 c1 c2 c3 c4 c5 c6 c7 c8 c9 c10 c11 c12 c13 f1 k0 k1 k2
  have U9 := fun (u : Up w1) => V1.out.next u.2
  have c0 := fun u => (bk14 (U9 u).b1).1
  have c1 := fun u => (bk14 (U9 u).b1).2.1
  have c2 := fun u => (bk14 (U9 u).b1).2.2.1
  have c3 := fun u => (bk14 (U9 u).b1).2.2.2.1
  have c4 := fun u => (bk14 (U9 u).b1).2.2.2.2.1
  have c5 := fun u => (bk14 (U9 u).b1).2.2.2.2.2.1
  have c6 := fun u => (bk14 (U9 u).b1).2.2.2.2.2.2.1
  have c7 := fun u => (bk14 (U9 u).b1).2.2.2.2.2.2.2.1
  have c8 := fun u => (bk14 (U9 u).b1).2.2.2.2.2.2.2.2.1
  have c9 := fun u => (bk14 (U9 u).b1).2.2.2.2.2.2.2.2.2.1
  have c10 := fun u => (bk14 (U9 u).b1).2.2.2.2.2.2.2.2.2.2.1
  have c11 := fun u => (bk14 (U9 u).b1).2.2.2.2.2.2.2.2.2.2.2.1
  have c12 := fun u => (bk14 (U9 u).b1).2.2.2.2.2.2.2.2.2.2.2.2.1
  have c13 := fun u => (bk14 (U9 u).b1).2.2.2.2.2.2.2.2.2.2.2.2.2.1
  have k0 := fun u => (bk3 (U9 u).b3).1
  have k1 := fun u => (bk3 (U9 u).b3).2.1
  have k2 := fun u => (bk3 (U9 u).b3).2.2.1
  have UU := hide U9
  clear U9
  refine wp_region_up_tail 8 (by kernel_rfl) (by kernel_rfl) ?_
  simp only [List.take_succ_cons, List.take_zero, List.drop_succ_cons, List.drop_zero]
  repeat (go_big_quiet_step (first
    | (go_at_call 80; exact up_call (mseq_any _ A n c B m d t ⟨3, 5, ch, th, ix, kd, v, tt, h, ok, ov⟩))
    | (go_at_call 41; exact up_same (rnext_any _ _ _))
    | (go_at_call 40; exact up_same (rpack_any _ _ _))
    | (go_at_call 78; exact up_call (access_any _ _ _ _ _))))
  refine wpQuiet_nil ?_
  intro u
  clear c0 c1 c2 c3 c4 c5 c6 c7 c8 c9 c10 c11 c12 c13 k0 k1 k2
  have V9 := hide (UU.out u)
  clear UU
  generalize u.1 = w9 at *
  have HT := hide (V9.out.b2.there (n := 5) rfl)
  go_wp2_with ((with_reducible show wpList _ _ _ _ _ _); refine wpList_store_res (by rfl) 56 _ _ (by rfl) (w.heap.size + 1) (Acc.cells ⟨3, p, tt, pk (nx (tt / 2) 1) false⟩) (by rfl) (by rfl) HT.out Tryz.ac_inf (ac_one _) ?_; intro wz HZ)
  obtain ⟨fs, hfs⟩ := Tryz.ac_und
  exact ret_stored HZ Tryz.results53 rfl HT.out hfs rfl Tryz.ac_inf rfl ⟨rfl, below_stored HZ V9.out.bel (by omega)⟩

set_option maxHeartbeats 2000000 in
set_option maxRecDepth 100000 in
theorem mnext_36 (w : World) (A : Option Addr) (n c : Nat) (B : Option Addr) (m d : Nat) (t : Int) (ch th : Nat) (ix kd v tt h ok ov : Int) (l : List Int) (hcf : Cf w A n l) (p : Int) (hp : tlN l ch = p) (hch : ch < n) (s : Int) (hs : slN l ch (tt / 2) = s) (hs0 : 0 ≤ tt / 2) (hs1 : tt / 2 ≤ 18446744073709551615) :
    Calls Tryz.prog 53 #[.agg (Mc.cells A n c B m d t ⟨3, 6, ch, th, ix, kd, v, tt, h, ok, ov⟩)] w fun e w' => e = .returned (.agg (Acc.cells ⟨6, s + 1, 0, v⟩)) ∧ Below w.heap.size w w' := by
  have Htail := hide (show ∀ W, Below w.heap.size w W → Calls Tryz.prog 7 #[.agg #[.slice A n c, .slice B m d, .int .i64 t], .int .i64 ch] W fun e w' => e = .returned (.int .i64 p) ∧ Below W.heap.size W w' from fun W hW => by have := rtl_any W A n c l B m d t (hcf.below hW) ch (by omega); rwa [hp] at this)
  have Hhead := hide (show ∀ W, Below w.heap.size w W → Calls Tryz.prog 8 #[.agg #[.slice A n c, .slice B m d, .int .i64 t], .int .i64 ch] W fun e w' => e = .returned (.int .i64 (p + 1)) ∧ Below W.heap.size W w' from fun W hW => by have := rhead_any W A n c l B m d t (hcf.below hW) ch (by omega); rwa [hp] at this)
  have Hslotv := hide (show ∀ W, Below w.heap.size w W → Calls Tryz.prog 81 #[.agg #[.slice A n c, .slice B m d, .int .i64 t], .int .i64 ch, .int .u64 (tt / 2)] W fun e w' => e = .returned (.int .i64 (s + 1)) ∧ Below W.heap.size W w' from fun W hW => by rw [← hs]; exact rslotvalue_any W A n c l B m d t (hcf.below hW) ch hch (tt / 2) hs0 hs1)
  clear hcf hp hs
  rw [Mc.cells]
  go_enter Tryz.func53, Tryz.ntmps53
  go_wp2
  go_region
  go_wp2
  have U0 := fun (u : Up ((((w.alloc (.cells #[.int .i64 3, .int .i64 6, .slice A n c, .slice B m d, .int .i64 t, .int .i64 (ch : Nat), .int .i64 (th : Nat), .int .i64 ix, .int .i64 kd, .int .u64 v, .int .u64 tt, .int .u64 h, .int .i64 ok, .int .u64 ov] 81)).alloc (.cells #[.int .i64 0, .int .i64 0, .int .u64 0, .int .u64 0, .int .i64 0] 56)).alloc (.cells #[.slice A n c, .slice B m d, .int .i64 t] 30)).drew)) => E3.ofd u.2
  have c0 := fun u => (bk3 (U0 u).b3).1
  have c1 := fun u => (bk3 (U0 u).b3).2.1
  have c2 := fun u => (bk3 (U0 u).b3).2.2.1
  have HU1 := hide (fun u => Htail.out u.1 (U0 u).bel)
  have HU2 := hide (fun u => Hhead.out u.1 (U0 u).bel)
  have UU := hide U0
  clear U0
  refine wp_region_up (by kernel_rfl) (by kernel_rfl) ?_
  repeat (go_big_quiet_step (first
    | (go_at_call 7; exact up_call (HU1.out _))
    | (go_at_call 8; exact up_call (HU2.out _))))
  refine wpQuiet_nil ?_
  rintro _ ⟨u, rfl⟩
  clear c0 c1 c2 HU1 HU2
  have V1 := hide (UU.out u)
  clear UU
  generalize u.1 = w1 at *
  obtain ⟨c0, c1, c2, c3, c4, c5, c6, c7, c8, c9, c10, c11, c12, c13, f1⟩ := bk14 V1.out.b1
  obtain ⟨k0, k1, k2, -⟩ := bk3 V1.out.b3
  go_wp2_with fail
  clear c0 c1 c2 c3 c4 c5 c6 c7 c8 c9 c10 c11 c12 c13 f1 k0 k1 k2
  have U9 := fun (u : Up w1) => V1.out.next u.2
  have c0 := fun u => (bk14 (U9 u).b1).1
  have c1 := fun u => (bk14 (U9 u).b1).2.1
  have c2 := fun u => (bk14 (U9 u).b1).2.2.1
  have c3 := fun u => (bk14 (U9 u).b1).2.2.2.1
  have c4 := fun u => (bk14 (U9 u).b1).2.2.2.2.1
  have c5 := fun u => (bk14 (U9 u).b1).2.2.2.2.2.1
  have c6 := fun u => (bk14 (U9 u).b1).2.2.2.2.2.2.1
  have c7 := fun u => (bk14 (U9 u).b1).2.2.2.2.2.2.2.1
  have c8 := fun u => (bk14 (U9 u).b1).2.2.2.2.2.2.2.2.1
  have c9 := fun u => (bk14 (U9 u).b1).2.2.2.2.2.2.2.2.2.1
  have c10 := fun u => (bk14 (U9 u).b1).2.2.2.2.2.2.2.2.2.2.1
  have c11 := fun u => (bk14 (U9 u).b1).2.2.2.2.2.2.2.2.2.2.2.1
  have c12 := fun u => (bk14 (U9 u).b1).2.2.2.2.2.2.2.2.2.2.2.2.1
  have c13 := fun u => (bk14 (U9 u).b1).2.2.2.2.2.2.2.2.2.2.2.2.2.1
  have k0 := fun u => (bk3 (U9 u).b3).1
  have k1 := fun u => (bk3 (U9 u).b3).2.1
  have k2 := fun u => (bk3 (U9 u).b3).2.2.1
  have Gslotv := hide (fun u => Hslotv.out u.1 (U9 u).bel)
  have UU := hide U9
  clear U9
  refine wp_region_up_tail 8 (by kernel_rfl) (by kernel_rfl) ?_
  simp only [List.take_succ_cons, List.take_zero, List.drop_succ_cons, List.drop_zero]
  repeat (go_big_quiet_step (first
    | (go_at_call 80; exact up_call (mseq_any _ A n c B m d t ⟨3, 6, ch, th, ix, kd, v, tt, h, ok, ov⟩))
    | (go_at_call 81; exact up_call (Gslotv.out _))
    | (go_at_call 78; exact up_call (access_any _ _ _ _ _))))
  refine wpQuiet_nil ?_
  intro u
  clear c0 c1 c2 c3 c4 c5 c6 c7 c8 c9 c10 c11 c12 c13 k0 k1 k2
  have V9 := hide (UU.out u)
  clear UU
  generalize u.1 = w9 at *
  have HT := hide (V9.out.b2.there (n := 5) rfl)
  go_wp2_with ((with_reducible show wpList _ _ _ _ _ _); refine wpList_store_res (by rfl) 56 _ _ (by rfl) (w.heap.size + 1) (Acc.cells ⟨6, s + 1, 0, v⟩) (by rfl) (by rfl) HT.out Tryz.ac_inf (ac_one _) ?_; intro wz HZ)
  obtain ⟨fs, hfs⟩ := Tryz.ac_und
  exact ret_stored HZ Tryz.results53 rfl HT.out hfs rfl Tryz.ac_inf rfl ⟨rfl, below_stored HZ V9.out.bel (by omega)⟩

set_option maxHeartbeats 2000000 in
set_option maxRecDepth 100000 in
theorem mnext_37 (w : World) (A : Option Addr) (n c : Nat) (B : Option Addr) (m d : Nat) (t : Int) (ch th : Nat) (ix kd v tt h ok ov : Int) (l : List Int) (hcf : Cf w A n l) (p : Int) (hp : tlN l ch = p) (hch : ch < n) (s : Int) (hs : slN l ch (tt / 2) = s) (hs0 : 0 ≤ tt / 2) (hs1 : tt / 2 ≤ 18446744073709551615) :
    Calls Tryz.prog 53 #[.agg (Mc.cells A n c B m d t ⟨3, 7, ch, th, ix, kd, v, tt, h, ok, ov⟩)] w fun e w' => e = .returned (.agg (Acc.cells ⟨2, s, 0, nx (tt / 2) 1⟩)) ∧ Below w.heap.size w w' := by
  have Htail := hide (show ∀ W, Below w.heap.size w W → Calls Tryz.prog 7 #[.agg #[.slice A n c, .slice B m d, .int .i64 t], .int .i64 ch] W fun e w' => e = .returned (.int .i64 p) ∧ Below W.heap.size W w' from fun W hW => by have := rtl_any W A n c l B m d t (hcf.below hW) ch (by omega); rwa [hp] at this)
  have Hhead := hide (show ∀ W, Below w.heap.size w W → Calls Tryz.prog 8 #[.agg #[.slice A n c, .slice B m d, .int .i64 t], .int .i64 ch] W fun e w' => e = .returned (.int .i64 (p + 1)) ∧ Below W.heap.size W w' from fun W hW => by have := rhead_any W A n c l B m d t (hcf.below hW) ch (by omega); rwa [hp] at this)
  have Hslot := hide (show ∀ W, Below w.heap.size w W → Calls Tryz.prog 42 #[.agg #[.slice A n c, .slice B m d, .int .i64 t], .int .i64 ch, .int .u64 (tt / 2)] W fun e w' => e = .returned (.int .i64 s) ∧ Below W.heap.size W w' from fun W hW => by rw [← hs]; exact rslotseq_any W A n c l B m d t (hcf.below hW) ch hch (tt / 2) hs0 hs1)
  clear hcf hp hs
  rw [Mc.cells]
  go_enter Tryz.func53, Tryz.ntmps53
  go_wp2
  go_region
  go_wp2
  have U0 := fun (u : Up ((((w.alloc (.cells #[.int .i64 3, .int .i64 7, .slice A n c, .slice B m d, .int .i64 t, .int .i64 (ch : Nat), .int .i64 (th : Nat), .int .i64 ix, .int .i64 kd, .int .u64 v, .int .u64 tt, .int .u64 h, .int .i64 ok, .int .u64 ov] 81)).alloc (.cells #[.int .i64 0, .int .i64 0, .int .u64 0, .int .u64 0, .int .i64 0] 56)).alloc (.cells #[.slice A n c, .slice B m d, .int .i64 t] 30)).drew)) => E3.ofd u.2
  have c0 := fun u => (bk3 (U0 u).b3).1
  have c1 := fun u => (bk3 (U0 u).b3).2.1
  have c2 := fun u => (bk3 (U0 u).b3).2.2.1
  have HU1 := hide (fun u => Htail.out u.1 (U0 u).bel)
  have HU2 := hide (fun u => Hhead.out u.1 (U0 u).bel)
  have UU := hide U0
  clear U0
  refine wp_region_up (by kernel_rfl) (by kernel_rfl) ?_
  repeat (go_big_quiet_step (first
    | (go_at_call 7; exact up_call (HU1.out _))
    | (go_at_call 8; exact up_call (HU2.out _))))
  refine wpQuiet_nil ?_
  rintro _ ⟨u, rfl⟩
  clear c0 c1 c2 HU1 HU2
  have V1 := hide (UU.out u)
  clear UU
  generalize u.1 = w1 at *
  obtain ⟨c0, c1, c2, c3, c4, c5, c6, c7, c8, c9, c10, c11, c12, c13, f1⟩ := bk14 V1.out.b1
  obtain ⟨k0, k1, k2, -⟩ := bk3 V1.out.b3
  go_wp2_with fail
  clear c0 c1 c2 c3 c4 c5 c6 c7 c8 c9 c10 c11 c12 c13 f1 k0 k1 k2
  have U9 := fun (u : Up w1) => V1.out.next u.2
  have c0 := fun u => (bk14 (U9 u).b1).1
  have c1 := fun u => (bk14 (U9 u).b1).2.1
  have c2 := fun u => (bk14 (U9 u).b1).2.2.1
  have c3 := fun u => (bk14 (U9 u).b1).2.2.2.1
  have c4 := fun u => (bk14 (U9 u).b1).2.2.2.2.1
  have c5 := fun u => (bk14 (U9 u).b1).2.2.2.2.2.1
  have c6 := fun u => (bk14 (U9 u).b1).2.2.2.2.2.2.1
  have c7 := fun u => (bk14 (U9 u).b1).2.2.2.2.2.2.2.1
  have c8 := fun u => (bk14 (U9 u).b1).2.2.2.2.2.2.2.2.1
  have c9 := fun u => (bk14 (U9 u).b1).2.2.2.2.2.2.2.2.2.1
  have c10 := fun u => (bk14 (U9 u).b1).2.2.2.2.2.2.2.2.2.2.1
  have c11 := fun u => (bk14 (U9 u).b1).2.2.2.2.2.2.2.2.2.2.2.1
  have c12 := fun u => (bk14 (U9 u).b1).2.2.2.2.2.2.2.2.2.2.2.2.1
  have c13 := fun u => (bk14 (U9 u).b1).2.2.2.2.2.2.2.2.2.2.2.2.2.1
  have k0 := fun u => (bk3 (U9 u).b3).1
  have k1 := fun u => (bk3 (U9 u).b3).2.1
  have k2 := fun u => (bk3 (U9 u).b3).2.2.1
  have Gslot := hide (fun u => Hslot.out u.1 (U9 u).bel)
  have UU := hide U9
  clear U9
  refine wp_region_up_tail 9 (by kernel_rfl) (by kernel_rfl) ?_
  simp only [List.take_succ_cons, List.take_zero, List.drop_succ_cons, List.drop_zero]
  repeat (go_big_quiet_step (first
    | (go_at_call 80; exact up_call (mseq_any _ A n c B m d t ⟨3, 7, ch, th, ix, kd, v, tt, h, ok, ov⟩))
    | (go_at_call 42; exact up_call (Gslot.out _))
    | (go_at_call 41; exact up_same (rnext_any _ _ _))
    | (go_at_call 78; exact up_call (access_any _ _ _ _ _))))
  refine wpQuiet_nil ?_
  intro u
  clear c0 c1 c2 c3 c4 c5 c6 c7 c8 c9 c10 c11 c12 c13 k0 k1 k2
  have V9 := hide (UU.out u)
  clear UU
  generalize u.1 = w9 at *
  have HT := hide (V9.out.b2.there (n := 5) rfl)
  go_wp2_with ((with_reducible show wpList _ _ _ _ _ _); refine wpList_store_res (by rfl) 56 _ _ (by rfl) (w.heap.size + 1) (Acc.cells ⟨2, s, 0, nx (tt / 2) 1⟩) (by rfl) (by rfl) HT.out Tryz.ac_inf (ac_one _) ?_; intro wz HZ)
  obtain ⟨fs, hfs⟩ := Tryz.ac_und
  exact ret_stored HZ Tryz.results53 rfl HT.out hfs rfl Tryz.ac_inf rfl ⟨rfl, below_stored HZ V9.out.bel (by omega)⟩
end Go.Proofs.YtepngbdjobckbaaGreat
end
section
namespace Go.Proofs.YtepngbdjobckbaaGreat
open Go.RowKit
set_option linter.unusedVariables false
attribute [local irreducible] Go.bits

set_option maxHeartbeats 2000000 in
set_option maxRecDepth 100000 in
theorem mnext_41 (w : World) (A : Option Addr) (n c : Nat) (B : Option Addr) (m d : Nat) (t : Int) (ch th : Nat) (ix kd v tt h ok ov : Int) (l : List Int) (hcf : Cf w A n l) (p : Int) (hp : tlN l ch = p) (hch : ch < n) :
    Calls Tryz.prog 53 #[.agg (Mc.cells A n c B m d t ⟨4, 1, ch, th, ix, kd, v, tt, h, ok, ov⟩)] w fun e w' => e = .returned (.agg (Acc.cells ⟨1, p + 1, 0, 0⟩)) ∧ Below w.heap.size w w' := by
  have Htail := hide (show ∀ W, Below w.heap.size w W → Calls Tryz.prog 7 #[.agg #[.slice A n c, .slice B m d, .int .i64 t], .int .i64 ch] W fun e w' => e = .returned (.int .i64 p) ∧ Below W.heap.size W w' from fun W hW => by have := rtl_any W A n c l B m d t (hcf.below hW) ch (by omega); rwa [hp] at this)
  have Hhead := hide (show ∀ W, Below w.heap.size w W → Calls Tryz.prog 8 #[.agg #[.slice A n c, .slice B m d, .int .i64 t], .int .i64 ch] W fun e w' => e = .returned (.int .i64 (p + 1)) ∧ Below W.heap.size W w' from fun W hW => by have := rhead_any W A n c l B m d t (hcf.below hW) ch (by omega); rwa [hp] at this)
  clear hcf hp
  rw [Mc.cells]
  go_enter Tryz.func53, Tryz.ntmps53
  go_wp2
  go_region
  go_wp2
  have U0 := fun (u : Up ((((w.alloc (.cells #[.int .i64 4, .int .i64 1, .slice A n c, .slice B m d, .int .i64 t, .int .i64 (ch : Nat), .int .i64 (th : Nat), .int .i64 ix, .int .i64 kd, .int .u64 v, .int .u64 tt, .int .u64 h, .int .i64 ok, .int .u64 ov] 81)).alloc (.cells #[.int .i64 0, .int .i64 0, .int .u64 0, .int .u64 0, .int .i64 0] 56)).alloc (.cells #[.slice A n c, .slice B m d, .int .i64 t] 30)).drew)) => E3.ofd u.2
  have c0 := fun u => (bk3 (U0 u).b3).1
  have c1 := fun u => (bk3 (U0 u).b3).2.1
  have c2 := fun u => (bk3 (U0 u).b3).2.2.1
  have HU1 := hide (fun u => Htail.out u.1 (U0 u).bel)
  have HU2 := hide (fun u => Hhead.out u.1 (U0 u).bel)
  have UU := hide U0
  clear U0
  refine wp_region_up (by kernel_rfl) (by kernel_rfl) ?_
  repeat (go_big_quiet_step (first
    | (go_at_call 7; exact up_call (HU1.out _))
    | (go_at_call 8; exact up_call (HU2.out _))))
  refine wpQuiet_nil ?_
  rintro _ ⟨u, rfl⟩
  clear c0 c1 c2 HU1 HU2
  have V1 := hide (UU.out u)
  clear UU
  generalize u.1 = w1 at *
  obtain ⟨c0, c1, c2, c3, c4, c5, c6, c7, c8, c9, c10, c11, c12, c13, f1⟩ := bk14 V1.out.b1
  obtain ⟨k0, k1, k2, -⟩ := bk3 V1.out.b3
  go_wp2_with fail
  refine (access_any _ _ _ _ _).mono ?_
  rintro e w9 ⟨rfl, hb⟩
  have V9 := hide (V1.out.next hb)
  clear hb c0 c1 c2 c3 c4 c5 c6 c7 c8 c9 c10 c11 c12 c13 f1 k0 k1 k2
  have HT := hide (V9.out.b2.there (n := 5) rfl)
  go_wp2_with ((with_reducible show wpList _ _ _ _ _ _); refine wpList_store_res (by rfl) 56 _ _ (by rfl) (w.heap.size + 1) (Acc.cells ⟨1, p + 1, 0, 0⟩) (by rfl) (by rfl) HT.out Tryz.ac_inf (ac_one _) ?_; intro wz HZ)
  obtain ⟨fs, hfs⟩ := Tryz.ac_und
  exact ret_stored HZ Tryz.results53 rfl HT.out hfs rfl Tryz.ac_inf rfl ⟨rfl, below_stored HZ V9.out.bel (by omega)⟩

set_option maxHeartbeats 2000000 in
set_option maxRecDepth 100000 in
theorem mnext_43 (w : World) (A : Option Addr) (n c : Nat) (B : Option Addr) (m d : Nat) (t : Int) (ch th : Nat) (ix kd v tt h ok ov : Int) (l : List Int) (hcf : Cf w A n l) (p : Int) (hp : tlN l ch = p) (hch : ch < n) :
    Calls Tryz.prog 53 #[.agg (Mc.cells A n c B m d t ⟨4, 3, ch, th, ix, kd, v, tt, h, ok, ov⟩)] w fun e w' => e = .returned (.agg (Acc.cells ⟨1, p + 1, 0, 0⟩)) ∧ Below w.heap.size w w' := by
  have Htail := hide (show ∀ W, Below w.heap.size w W → Calls Tryz.prog 7 #[.agg #[.slice A n c, .slice B m d, .int .i64 t], .int .i64 ch] W fun e w' => e = .returned (.int .i64 p) ∧ Below W.heap.size W w' from fun W hW => by have := rtl_any W A n c l B m d t (hcf.below hW) ch (by omega); rwa [hp] at this)
  have Hhead := hide (show ∀ W, Below w.heap.size w W → Calls Tryz.prog 8 #[.agg #[.slice A n c, .slice B m d, .int .i64 t], .int .i64 ch] W fun e w' => e = .returned (.int .i64 (p + 1)) ∧ Below W.heap.size W w' from fun W hW => by have := rhead_any W A n c l B m d t (hcf.below hW) ch (by omega); rwa [hp] at this)
  clear hcf hp
  rw [Mc.cells]
  go_enter Tryz.func53, Tryz.ntmps53
  go_wp2
  go_region
  go_wp2
  have U0 := fun (u : Up ((((w.alloc (.cells #[.int .i64 4, .int .i64 3, .slice A n c, .slice B m d, .int .i64 t, .int .i64 (ch : Nat), .int .i64 (th : Nat), .int .i64 ix, .int .i64 kd, .int .u64 v, .int .u64 tt, .int .u64 h, .int .i64 ok, .int .u64 ov] 81)).alloc (.cells #[.int .i64 0, .int .i64 0, .int .u64 0, .int .u64 0, .int .i64 0] 56)).alloc (.cells #[.slice A n c, .slice B m d, .int .i64 t] 30)).drew)) => E3.ofd u.2
  have c0 := fun u => (bk3 (U0 u).b3).1
  have c1 := fun u => (bk3 (U0 u).b3).2.1
  have c2 := fun u => (bk3 (U0 u).b3).2.2.1
  have HU1 := hide (fun u => Htail.out u.1 (U0 u).bel)
  have HU2 := hide (fun u => Hhead.out u.1 (U0 u).bel)
  have UU := hide U0
  clear U0
  refine wp_region_up (by kernel_rfl) (by kernel_rfl) ?_
  repeat (go_big_quiet_step (first
    | (go_at_call 7; exact up_call (HU1.out _))
    | (go_at_call 8; exact up_call (HU2.out _))))
  refine wpQuiet_nil ?_
  rintro _ ⟨u, rfl⟩
  clear c0 c1 c2 HU1 HU2
  have V1 := hide (UU.out u)
  clear UU
  generalize u.1 = w1 at *
  obtain ⟨c0, c1, c2, c3, c4, c5, c6, c7, c8, c9, c10, c11, c12, c13, f1⟩ := bk14 V1.out.b1
  obtain ⟨k0, k1, k2, -⟩ := bk3 V1.out.b3
  go_wp2_with fail
  refine (access_any _ _ _ _ _).mono ?_
  rintro e w9 ⟨rfl, hb⟩
  have V9 := hide (V1.out.next hb)
  clear hb c0 c1 c2 c3 c4 c5 c6 c7 c8 c9 c10 c11 c12 c13 f1 k0 k1 k2
  have HT := hide (V9.out.b2.there (n := 5) rfl)
  go_wp2_with ((with_reducible show wpList _ _ _ _ _ _); refine wpList_store_res (by rfl) 56 _ _ (by rfl) (w.heap.size + 1) (Acc.cells ⟨1, p + 1, 0, 0⟩) (by rfl) (by rfl) HT.out Tryz.ac_inf (ac_one _) ?_; intro wz HZ)
  obtain ⟨fs, hfs⟩ := Tryz.ac_und
  exact ret_stored HZ Tryz.results53 rfl HT.out hfs rfl Tryz.ac_inf rfl ⟨rfl, below_stored HZ V9.out.bel (by omega)⟩

set_option maxHeartbeats 2000000 in
set_option maxRecDepth 100000 in
theorem mnext_42 (w : World) (A : Option Addr) (n c : Nat) (B : Option Addr) (m d : Nat) (t : Int) (ch th : Nat) (ix kd v tt h ok ov : Int) (l : List Int) (hcf : Cf w A n l) (p : Int) (hp : tlN l ch = p) (hch : ch < n) :
    Calls Tryz.prog 53 #[.agg (Mc.cells A n c B m d t ⟨4, 2, ch, th, ix, kd, v, tt, h, ok, ov⟩)] w fun e w' => e = .returned (.agg (Acc.cells ⟨1, p, 0, 0⟩)) ∧ Below w.heap.size w w' := by
  have Htail := hide (show ∀ W, Below w.heap.size w W → Calls Tryz.prog 7 #[.agg #[.slice A n c, .slice B m d, .int .i64 t], .int .i64 ch] W fun e w' => e = .returned (.int .i64 p) ∧ Below W.heap.size W w' from fun W hW => by have := rtl_any W A n c l B m d t (hcf.below hW) ch (by omega); rwa [hp] at this)
  have Hhead := hide (show ∀ W, Below w.heap.size w W → Calls Tryz.prog 8 #[.agg #[.slice A n c, .slice B m d, .int .i64 t], .int .i64 ch] W fun e w' => e = .returned (.int .i64 (p + 1)) ∧ Below W.heap.size W w' from fun W hW => by have := rhead_any W A n c l B m d t (hcf.below hW) ch (by omega); rwa [hp] at this)
  clear hcf hp
  rw [Mc.cells]
  go_enter Tryz.func53, Tryz.ntmps53
  go_wp2
  go_region
  go_wp2
  have U0 := fun (u : Up ((((w.alloc (.cells #[.int .i64 4, .int .i64 2, .slice A n c, .slice B m d, .int .i64 t, .int .i64 (ch : Nat), .int .i64 (th : Nat), .int .i64 ix, .int .i64 kd, .int .u64 v, .int .u64 tt, .int .u64 h, .int .i64 ok, .int .u64 ov] 81)).alloc (.cells #[.int .i64 0, .int .i64 0, .int .u64 0, .int .u64 0, .int .i64 0] 56)).alloc (.cells #[.slice A n c, .slice B m d, .int .i64 t] 30)).drew)) => E3.ofd u.2
  have c0 := fun u => (bk3 (U0 u).b3).1
  have c1 := fun u => (bk3 (U0 u).b3).2.1
  have c2 := fun u => (bk3 (U0 u).b3).2.2.1
  have HU1 := hide (fun u => Htail.out u.1 (U0 u).bel)
  have HU2 := hide (fun u => Hhead.out u.1 (U0 u).bel)
  have UU := hide U0
  clear U0
  refine wp_region_up (by kernel_rfl) (by kernel_rfl) ?_
  repeat (go_big_quiet_step (first
    | (go_at_call 7; exact up_call (HU1.out _))
    | (go_at_call 8; exact up_call (HU2.out _))))
  refine wpQuiet_nil ?_
  rintro _ ⟨u, rfl⟩
  clear c0 c1 c2 HU1 HU2
  have V1 := hide (UU.out u)
  clear UU
  generalize u.1 = w1 at *
  obtain ⟨c0, c1, c2, c3, c4, c5, c6, c7, c8, c9, c10, c11, c12, c13, f1⟩ := bk14 V1.out.b1
  obtain ⟨k0, k1, k2, -⟩ := bk3 V1.out.b3
  go_wp2_with fail
  refine (access_any _ _ _ _ _).mono ?_
  rintro e w9 ⟨rfl, hb⟩
  have V9 := hide (V1.out.next hb)
  clear hb c0 c1 c2 c3 c4 c5 c6 c7 c8 c9 c10 c11 c12 c13 f1 k0 k1 k2
  have HT := hide (V9.out.b2.there (n := 5) rfl)
  go_wp2_with ((with_reducible show wpList _ _ _ _ _ _); refine wpList_store_res (by rfl) 56 _ _ (by rfl) (w.heap.size + 1) (Acc.cells ⟨1, p, 0, 0⟩) (by rfl) (by rfl) HT.out Tryz.ac_inf (ac_one _) ?_; intro wz HZ)
  obtain ⟨fs, hfs⟩ := Tryz.ac_und
  exact ret_stored HZ Tryz.results53 rfl HT.out hfs rfl Tryz.ac_inf rfl ⟨rfl, below_stored HZ V9.out.bel (by omega)⟩

set_option maxHeartbeats 2000000 in
set_option maxRecDepth 100000 in
theorem mnext_44 (w : World) (A : Option Addr) (n c : Nat) (B : Option Addr) (m d : Nat) (t : Int) (ch th : Nat) (ix kd v tt h ok ov : Int) (l : List Int) (hcf : Cf w A n l) (p : Int) (hp : tlN l ch = p) (hch : ch < n) (s : Int) (hs : slN l ch (h) = s) (hs0 : 0 ≤ h) (hs1 : h ≤ 18446744073709551615) :
    Calls Tryz.prog 53 #[.agg (Mc.cells A n c B m d t ⟨4, 4, ch, th, ix, kd, v, tt, h, ok, ov⟩)] w fun e w' => e = .returned (.agg (Acc.cells ⟨1, s, 0, 0⟩)) ∧ Below w.heap.size w w' := by
  have Htail := hide (show ∀ W, Below w.heap.size w W → Calls Tryz.prog 7 #[.agg #[.slice A n c, .slice B m d, .int .i64 t], .int .i64 ch] W fun e w' => e = .returned (.int .i64 p) ∧ Below W.heap.size W w' from fun W hW => by have := rtl_any W A n c l B m d t (hcf.below hW) ch (by omega); rwa [hp] at this)
  have Hhead := hide (show ∀ W, Below w.heap.size w W → Calls Tryz.prog 8 #[.agg #[.slice A n c, .slice B m d, .int .i64 t], .int .i64 ch] W fun e w' => e = .returned (.int .i64 (p + 1)) ∧ Below W.heap.size W w' from fun W hW => by have := rhead_any W A n c l B m d t (hcf.below hW) ch (by omega); rwa [hp] at this)
  have Hslot := hide (show ∀ W, Below w.heap.size w W → Calls Tryz.prog 42 #[.agg #[.slice A n c, .slice B m d, .int .i64 t], .int .i64 ch, .int .u64 (h)] W fun e w' => e = .returned (.int .i64 s) ∧ Below W.heap.size W w' from fun W hW => by rw [← hs]; exact rslotseq_any W A n c l B m d t (hcf.below hW) ch hch (h) hs0 hs1)
  clear hcf hp hs
  rw [Mc.cells]
  go_enter Tryz.func53, Tryz.ntmps53
  go_wp2
  go_region
  go_wp2
  have U0 := fun (u : Up ((((w.alloc (.cells #[.int .i64 4, .int .i64 4, .slice A n c, .slice B m d, .int .i64 t, .int .i64 (ch : Nat), .int .i64 (th : Nat), .int .i64 ix, .int .i64 kd, .int .u64 v, .int .u64 tt, .int .u64 h, .int .i64 ok, .int .u64 ov] 81)).alloc (.cells #[.int .i64 0, .int .i64 0, .int .u64 0, .int .u64 0, .int .i64 0] 56)).alloc (.cells #[.slice A n c, .slice B m d, .int .i64 t] 30)).drew)) => E3.ofd u.2
  have c0 := fun u => (bk3 (U0 u).b3).1
  have c1 := fun u => (bk3 (U0 u).b3).2.1
  have c2 := fun u => (bk3 (U0 u).b3).2.2.1
  have HU1 := hide (fun u => Htail.out u.1 (U0 u).bel)
  have HU2 := hide (fun u => Hhead.out u.1 (U0 u).bel)
  have UU := hide U0
  clear U0
  refine wp_region_up (by kernel_rfl) (by kernel_rfl) ?_
  repeat (go_big_quiet_step (first
    | (go_at_call 7; exact up_call (HU1.out _))
    | (go_at_call 8; exact up_call (HU2.out _))))
  refine wpQuiet_nil ?_
  rintro _ ⟨u, rfl⟩
  clear c0 c1 c2 HU1 HU2
  have V1 := hide (UU.out u)
  clear UU
  generalize u.1 = w1 at *
  obtain ⟨c0, c1, c2, c3, c4, c5, c6, c7, c8, c9, c10, c11, c12, c13, f1⟩ := bk14 V1.out.b1
  obtain ⟨k0, k1, k2, -⟩ := bk3 V1.out.b3
  go_wp2_with fail
  refine (Hslot.out _ V1.out.bel).mono ?_
  rintro e w2 ⟨rfl, hb⟩
  have V2 := hide (V1.out.next hb)
  clear hb c0 c1 c2 c3 c4 c5 c6 c7 c8 c9 c10 c11 c12 c13 f1 k0 k1 k2
  obtain ⟨c0, c1, c2, c3, c4, c5, c6, c7, c8, c9, c10, c11, c12, c13, f1⟩ := bk14 V2.out.b1
  obtain ⟨k0, k1, k2, -⟩ := bk3 V2.out.b3
  go_wp2_with fail
  refine (access_any _ _ _ _ _).mono ?_
  rintro e w9 ⟨rfl, hb⟩
  have V9 := hide (V2.out.next hb)
  clear hb c0 c1 c2 c3 c4 c5 c6 c7 c8 c9 c10 c11 c12 c13 f1 k0 k1 k2
  have HT := hide (V9.out.b2.there (n := 5) rfl)
  go_wp2_with ((with_reducible show wpList _ _ _ _ _ _); refine wpList_store_res (by rfl) 56 _ _ (by rfl) (w.heap.size + 1) (Acc.cells ⟨1, s, 0, 0⟩) (by rfl) (by rfl) HT.out Tryz.ac_inf (ac_one _) ?_; intro wz HZ)
  obtain ⟨fs, hfs⟩ := Tryz.ac_und
  exact ret_stored HZ Tryz.results53 rfl HT.out hfs rfl Tryz.ac_inf rfl ⟨rfl, below_stored HZ V9.out.bel (by omega)⟩

set_option maxHeartbeats 2000000 in
set_option maxRecDepth 100000 in
theorem mnext_45 (w : World) (A : Option Addr) (n c : Nat) (B : Option Addr) (m d : Nat) (t : Int) (ch th : Nat) (ix kd v tt h ok ov : Int) (l : List Int) (hcf : Cf w A n l) (p : Int) (hp : tlN l ch = p) (hch : ch < n) :
    Calls Tryz.prog 53 #[.agg (Mc.cells A n c B m d t ⟨4, 5, ch, th, ix, kd, v, tt, h, ok, ov⟩)] w fun e w' => e = .returned (.agg (Acc.cells ⟨3, p + 1, h, nx h 1⟩)) ∧ Below w.heap.size w w' := by
  have Htail := hide (show ∀ W, Below w.heap.size w W → Calls Tryz.prog 7 #[.agg #[.slice A n c, .slice B m d, .int .i64 t], .int .i64 ch] W fun e w' => e = .returned (.int .i64 p) ∧ Below W.heap.size W w' from fun W hW => by have := rtl_any W A n c l B m d t (hcf.below hW) ch (by omega); rwa [hp] at this)
  have Hhead := hide (show ∀ W, Below w.heap.size w W → Calls Tryz.prog 8 #[.agg #[.slice A n c, .slice B m d, .int .i64 t], .int .i64 ch] W fun e w' => e = .returned (.int .i64 (p + 1)) ∧ Below W.heap.size W w' from fun W hW => by have := rhead_any W A n c l B m d t (hcf.below hW) ch (by omega); rwa [hp] at this)
  clear hcf hp
  rw [Mc.cells]
  go_enter Tryz.func53, Tryz.ntmps53
  go_wp2
  go_region
  go_wp2
  have U0 := fun (u : Up ((((w.alloc (.cells #[.int .i64 4, .int .i64 5, .slice A n c, .slice B m d, .int .i64 t, .int .i64 (ch : Nat), .int .i64 (th : Nat), .int .i64 ix, .int .i64 kd, .int .u64 v, .int .u64 tt, .int .u64 h, .int .i64 ok, .int .u64 ov] 81)).alloc (.cells #[.int .i64 0, .int .i64 0, .int .u64 0, .int .u64 0, .int .i64 0] 56)).alloc (.cells #[.slice A n c, .slice B m d, .int .i64 t] 30)).drew)) => E3.ofd u.2
  have c0 := fun u => (bk3 (U0 u).b3).1
  have c1 := fun u => (bk3 (U0 u).b3).2.1
  have c2 := fun u => (bk3 (U0 u).b3).2.2.1
  have HU1 := hide (fun u => Htail.out u.1 (U0 u).bel)
  have HU2 := hide (fun u => Hhead.out u.1 (U0 u).bel)
  have UU := hide U0
  clear U0
  refine wp_region_up (by kernel_rfl) (by kernel_rfl) ?_
  repeat (go_big_quiet_step (first
    | (go_at_call 7; exact up_call (HU1.out _))
    | (go_at_call 8; exact up_call (HU2.out _))))
  refine wpQuiet_nil ?_
  rintro _ ⟨u, rfl⟩
  clear c0 c1 c2 HU1 HU2
  have V1 := hide (UU.out u)
  clear UU
  generalize u.1 = w1 at *
  obtain ⟨c0, c1, c2, c3, c4, c5, c6, c7, c8, c9, c10, c11, c12, c13, f1⟩ := bk14 V1.out.b1
  obtain ⟨k0, k1, k2, -⟩ := bk3 V1.out.b3
  go_wp2_with fail
  clear c0 c1 c2 c3 c4 c5 c6 c7 c8 c9 c10 c11 c12 c13 f1 k0 k1 k2
  have U9 := fun (u : Up w1) => V1.out.next u.2
  have c0 := fun u => (bk14 (U9 u).b1).1
  have c1 := fun u => (bk14 (U9 u).b1).2.1
  have c2 := fun u => (bk14 (U9 u).b1).2.2.1
  have c3 := fun u => (bk14 (U9 u).b1).2.2.2.1
  have c4 := fun u => (bk14 (U9 u).b1).2.2.2.2.1
  have c5 := fun u => (bk14 (U9 u).b1).2.2.2.2.2.1
  have c6 := fun u => (bk14 (U9 u).b1).2.2.2.2.2.2.1
  have c7 := fun u => (bk14 (U9 u).b1).2.2.2.2.2.2.2.1
  have c8 := fun u => (bk14 (U9 u).b1).2.2.2.2.2.2.2.2.1
  have c9 := fun u => (bk14 (U9 u).b1).2.2.2.2.2.2.2.2.2.1
  have c10 := fun u => (bk14 (U9 u).b1).2.2.2.2.2.2.2.2.2.2.1
  have c11 := fun u => (bk14 (U9 u).b1).2.2.2.2.2.2.2.2.2.2.2.1
  have c12 := fun u => (bk14 (U9 u).b1).2.2.2.2.2.2.2.2.2.2.2.2.1
  have c13 := fun u => (bk14 (U9 u).b1).2.2.2.2.2.2.2.2.2.2.2.2.2.1
  have k0 := fun u => (bk3 (U9 u).b3).1
  have k1 := fun u => (bk3 (U9 u).b3).2.1
  have k2 := fun u => (bk3 (U9 u).b3).2.2.1
  have UU := hide U9
  clear U9
  refine wp_region_up_tail 7 (by kernel_rfl) (by kernel_rfl) ?_
  simp only [List.take_succ_cons, List.take_zero, List.drop_succ_cons, List.drop_zero]
  repeat (go_big_quiet_step (first
    | (go_at_call 41; exact up_same (rnext_any _ _ _))
    | (go_at_call 78; exact up_call (access_any _ _ _ _ _))))
  refine wpQuiet_nil ?_
  intro u
  clear c0 c1 c2 c3 c4 c5 c6 c7 c8 c9 c10 c11 c12 c13 k0 k1 k2
  have V9 := hide (UU.out u)
  clear UU
  generalize u.1 = w9 at *
  have HT := hide (V9.out.b2.there (n := 5) rfl)
  go_wp2_with ((with_reducible show wpList _ _ _ _ _ _); refine wpList_store_res (by rfl) 56 _ _ (by rfl) (w.heap.size + 1) (Acc.cells ⟨3, p + 1, h, nx h 1⟩) (by rfl) (by rfl) HT.out Tryz.ac_inf (ac_one _) ?_; intro wz HZ)
  obtain ⟨fs, hfs⟩ := Tryz.ac_und
  exact ret_stored HZ Tryz.results53 rfl HT.out hfs rfl Tryz.ac_inf rfl ⟨rfl, below_stored HZ V9.out.bel (by omega)⟩

set_option maxHeartbeats 2000000 in
set_option maxRecDepth 100000 in
theorem mnext_46 (w : World) (A : Option Addr) (n c : Nat) (B : Option Addr) (m d : Nat) (t : Int) (ch th : Nat) (ix kd v tt h ok ov : Int) (l : List Int) (hcf : Cf w A n l) (p : Int) (hp : tlN l ch = p) (hch : ch < n) (s : Int) (hs : slN l ch (h) = s) (hs0 : 0 ≤ h) (hs1 : h ≤ 18446744073709551615) :
    Calls Tryz.prog 53 #[.agg (Mc.cells A n c B m d t ⟨4, 6, ch, th, ix, kd, v, tt, h, ok, ov⟩)] w fun e w' => e = .returned (.agg (Acc.cells ⟨5, s + 1, 0, 0⟩)) ∧ Below w.heap.size w w' := by
  have Htail := hide (show ∀ W, Below w.heap.size w W → Calls Tryz.prog 7 #[.agg #[.slice A n c, .slice B m d, .int .i64 t], .int .i64 ch] W fun e w' => e = .returned (.int .i64 p) ∧ Below W.heap.size W w' from fun W hW => by have := rtl_any W A n c l B m d t (hcf.below hW) ch (by omega); rwa [hp] at this)
  have Hhead := hide (show ∀ W, Below w.heap.size w W → Calls Tryz.prog 8 #[.agg #[.slice A n c, .slice B m d, .int .i64 t], .int .i64 ch] W fun e w' => e = .returned (.int .i64 (p + 1)) ∧ Below W.heap.size W w' from fun W hW => by have := rhead_any W A n c l B m d t (hcf.below hW) ch (by omega); rwa [hp] at this)
  have Hslotv := hide (show ∀ W, Below w.heap.size w W → Calls Tryz.prog 81 #[.agg #[.slice A n c, .slice B m d, .int .i64 t], .int .i64 ch, .int .u64 (h)] W fun e w' => e = .returned (.int .i64 (s + 1)) ∧ Below W.heap.size W w' from fun W hW => by rw [← hs]; exact rslotvalue_any W A n c l B m d t (hcf.below hW) ch hch (h) hs0 hs1)
  clear hcf hp hs
  rw [Mc.cells]
  go_enter Tryz.func53, Tryz.ntmps53
  go_wp2
  go_region
  go_wp2
  have U0 := fun (u : Up ((((w.alloc (.cells #[.int .i64 4, .int .i64 6, .slice A n c, .slice B m d, .int .i64 t, .int .i64 (ch : Nat), .int .i64 (th : Nat), .int .i64 ix, .int .i64 kd, .int .u64 v, .int .u64 tt, .int .u64 h, .int .i64 ok, .int .u64 ov] 81)).alloc (.cells #[.int .i64 0, .int .i64 0, .int .u64 0, .int .u64 0, .int .i64 0] 56)).alloc (.cells #[.slice A n c, .slice B m d, .int .i64 t] 30)).drew)) => E3.ofd u.2
  have c0 := fun u => (bk3 (U0 u).b3).1
  have c1 := fun u => (bk3 (U0 u).b3).2.1
  have c2 := fun u => (bk3 (U0 u).b3).2.2.1
  have HU1 := hide (fun u => Htail.out u.1 (U0 u).bel)
  have HU2 := hide (fun u => Hhead.out u.1 (U0 u).bel)
  have UU := hide U0
  clear U0
  refine wp_region_up (by kernel_rfl) (by kernel_rfl) ?_
  repeat (go_big_quiet_step (first
    | (go_at_call 7; exact up_call (HU1.out _))
    | (go_at_call 8; exact up_call (HU2.out _))))
  refine wpQuiet_nil ?_
  rintro _ ⟨u, rfl⟩
  clear c0 c1 c2 HU1 HU2
  have V1 := hide (UU.out u)
  clear UU
  generalize u.1 = w1 at *
  obtain ⟨c0, c1, c2, c3, c4, c5, c6, c7, c8, c9, c10, c11, c12, c13, f1⟩ := bk14 V1.out.b1
  obtain ⟨k0, k1, k2, -⟩ := bk3 V1.out.b3
  go_wp2_with fail
  refine (Hslotv.out _ V1.out.bel).mono ?_
  rintro e w2 ⟨rfl, hb⟩
  have V2 := hide (V1.out.next hb)
  clear hb c0 c1 c2 c3 c4 c5 c6 c7 c8 c9 c10 c11 c12 c13 f1 k0 k1 k2
  obtain ⟨c0, c1, c2, c3, c4, c5, c6, c7, c8, c9, c10, c11, c12, c13, f1⟩ := bk14 V2.out.b1
  obtain ⟨k0, k1, k2, -⟩ := bk3 V2.out.b3
  go_wp2_with fail
  refine (access_any _ _ _ _ _).mono ?_
  rintro e w9 ⟨rfl, hb⟩
  have V9 := hide (V2.out.next hb)
  clear hb c0 c1 c2 c3 c4 c5 c6 c7 c8 c9 c10 c11 c12 c13 f1 k0 k1 k2
  have HT := hide (V9.out.b2.there (n := 5) rfl)
  go_wp2_with ((with_reducible show wpList _ _ _ _ _ _); refine wpList_store_res (by rfl) 56 _ _ (by rfl) (w.heap.size + 1) (Acc.cells ⟨5, s + 1, 0, 0⟩) (by rfl) (by rfl) HT.out Tryz.ac_inf (ac_one _) ?_; intro wz HZ)
  obtain ⟨fs, hfs⟩ := Tryz.ac_und
  exact ret_stored HZ Tryz.results53 rfl HT.out hfs rfl Tryz.ac_inf rfl ⟨rfl, below_stored HZ V9.out.bel (by omega)⟩

set_option maxHeartbeats 2000000 in
set_option maxRecDepth 100000 in
theorem mnext_47 (w : World) (A : Option Addr) (n c : Nat) (B : Option Addr) (m d : Nat) (t : Int) (ch th : Nat) (ix kd v tt h ok ov : Int) (l : List Int) (hcf : Cf w A n l) (p : Int) (hp : tlN l ch = p) (hch : ch < n) (s : Int) (hs : slN l ch (h) = s) (hs0 : 0 ≤ h) (hs1 : h ≤ 18446744073709551615) :
    Calls Tryz.prog 53 #[.agg (Mc.cells A n c B m d t ⟨4, 7, ch, th, ix, kd, v, tt, h, ok, ov⟩)] w fun e w' => e = .returned (.agg (Acc.cells ⟨2, s, 0, nx h (sz (l.getD ch 0))⟩)) ∧ Below w.heap.size w w' := by
  have Htail := hide (show ∀ W, Below w.heap.size w W → Calls Tryz.prog 7 #[.agg #[.slice A n c, .slice B m d, .int .i64 t], .int .i64 ch] W fun e w' => e = .returned (.int .i64 p) ∧ Below W.heap.size W w' from fun W hW => by have := rtl_any W A n c l B m d t (hcf.below hW) ch (by omega); rwa [hp] at this)
  have Hhead := hide (show ∀ W, Below w.heap.size w W → Calls Tryz.prog 8 #[.agg #[.slice A n c, .slice B m d, .int .i64 t], .int .i64 ch] W fun e w' => e = .returned (.int .i64 (p + 1)) ∧ Below W.heap.size W w' from fun W hW => by have := rhead_any W A n c l B m d t (hcf.below hW) ch (by omega); rwa [hp] at this)
  have Hslot := hide (show ∀ W, Below w.heap.size w W → Calls Tryz.prog 42 #[.agg #[.slice A n c, .slice B m d, .int .i64 t], .int .i64 ch, .int .u64 (h)] W fun e w' => e = .returned (.int .i64 s) ∧ Below W.heap.size W w' from fun W hW => by rw [← hs]; exact rslotseq_any W A n c l B m d t (hcf.below hW) ch hch (h) hs0 hs1)
  have Hsize := hide (show ∀ W, Below w.heap.size w W → Calls Tryz.prog 26 #[.agg #[.slice A n c, .slice B m d, .int .i64 t], .int .i64 ch] W fun e w' => e = .returned (.int .i64 (sz (l.getD ch 0))) ∧ Below W.heap.size W w' from fun W hW => rsz_any W A n c l B m d t (hcf.below hW) ch hch)
  clear hcf hp hs
  rw [Mc.cells]
  go_enter Tryz.func53, Tryz.ntmps53
  go_wp2
  go_region
  go_wp2
  have U0 := fun (u : Up ((((w.alloc (.cells #[.int .i64 4, .int .i64 7, .slice A n c, .slice B m d, .int .i64 t, .int .i64 (ch : Nat), .int .i64 (th : Nat), .int .i64 ix, .int .i64 kd, .int .u64 v, .int .u64 tt, .int .u64 h, .int .i64 ok, .int .u64 ov] 81)).alloc (.cells #[.int .i64 0, .int .i64 0, .int .u64 0, .int .u64 0, .int .i64 0] 56)).alloc (.cells #[.slice A n c, .slice B m d, .int .i64 t] 30)).drew)) => E3.ofd u.2
  have c0 := fun u => (bk3 (U0 u).b3).1
  have c1 := fun u => (bk3 (U0 u).b3).2.1
  have c2 := fun u => (bk3 (U0 u).b3).2.2.1
  have HU1 := hide (fun u => Htail.out u.1 (U0 u).bel)
  have HU2 := hide (fun u => Hhead.out u.1 (U0 u).bel)
  have UU := hide U0
  clear U0
  refine wp_region_up (by kernel_rfl) (by kernel_rfl) ?_
  repeat (go_big_quiet_step (first
    | (go_at_call 7; exact up_call (HU1.out _))
    | (go_at_call 8; exact up_call (HU2.out _))))
  refine wpQuiet_nil ?_
  rintro _ ⟨u, rfl⟩
  clear c0 c1 c2 HU1 HU2
  have V1 := hide (UU.out u)
  clear UU
  generalize u.1 = w1 at *
  obtain ⟨c0, c1, c2, c3, c4, c5, c6, c7, c8, c9, c10, c11, c12, c13, f1⟩ := bk14 V1.out.b1
  obtain ⟨k0, k1, k2, -⟩ := bk3 V1.out.b3
  go_wp2_with fail
  clear c0 c1 c2 c3 c4 c5 c6 c7 c8 c9 c10 c11 c12 c13 f1 k0 k1 k2
  have U9 := fun (u : Up w1) => V1.out.next u.2
  have c0 := fun u => (bk14 (U9 u).b1).1
  have c1 := fun u => (bk14 (U9 u).b1).2.1
  have c2 := fun u => (bk14 (U9 u).b1).2.2.1
  have c3 := fun u => (bk14 (U9 u).b1).2.2.2.1
  have c4 := fun u => (bk14 (U9 u).b1).2.2.2.2.1
  have c5 := fun u => (bk14 (U9 u).b1).2.2.2.2.2.1
  have c6 := fun u => (bk14 (U9 u).b1).2.2.2.2.2.2.1
  have c7 := fun u => (bk14 (U9 u).b1).2.2.2.2.2.2.2.1
  have c8 := fun u => (bk14 (U9 u).b1).2.2.2.2.2.2.2.2.1
  have c9 := fun u => (bk14 (U9 u).b1).2.2.2.2.2.2.2.2.2.1
  have c10 := fun u => (bk14 (U9 u).b1).2.2.2.2.2.2.2.2.2.2.1
  have c11 := fun u => (bk14 (U9 u).b1).2.2.2.2.2.2.2.2.2.2.2.1
  have c12 := fun u => (bk14 (U9 u).b1).2.2.2.2.2.2.2.2.2.2.2.2.1
  have c13 := fun u => (bk14 (U9 u).b1).2.2.2.2.2.2.2.2.2.2.2.2.2.1
  have k0 := fun u => (bk3 (U9 u).b3).1
  have k1 := fun u => (bk3 (U9 u).b3).2.1
  have k2 := fun u => (bk3 (U9 u).b3).2.2.1
  have Gslot := hide (fun u => Hslot.out u.1 (U9 u).bel)
  have Gsize := hide (fun u => Hsize.out u.1 (U9 u).bel)
  have UU := hide U9
  clear U9
  refine wp_region_up_tail 12 (by kernel_rfl) (by kernel_rfl) ?_
  simp only [List.take_succ_cons, List.take_zero, List.drop_succ_cons, List.drop_zero]
  repeat (go_big_quiet_step (first
    | (go_at_call 42; exact up_call (Gslot.out _))
    | (go_at_call 26; exact up_call (Gsize.out _))
    | (go_at_call 41; exact up_same (rnext_any _ _ _))
    | (go_at_call 78; exact up_call (access_any _ _ _ _ _))))
  refine wpQuiet_nil ?_
  intro u
  clear c0 c1 c2 c3 c4 c5 c6 c7 c8 c9 c10 c11 c12 c13 k0 k1 k2
  have V9 := hide (UU.out u)
  clear UU
  generalize u.1 = w9 at *
  have HT := hide (V9.out.b2.there (n := 5) rfl)
  go_wp2_with ((with_reducible show wpList _ _ _ _ _ _); refine wpList_store_res (by rfl) 56 _ _ (by rfl) (w.heap.size + 1) (Acc.cells ⟨2, s, 0, nx h (sz (l.getD ch 0))⟩) (by rfl) (by rfl) HT.out Tryz.ac_inf (ac_one _) ?_; intro wz HZ)
  obtain ⟨fs, hfs⟩ := Tryz.ac_und
  exact ret_stored HZ Tryz.results53 rfl HT.out hfs rfl Tryz.ac_inf rfl ⟨rfl, below_stored HZ V9.out.bel (by omega)⟩
end Go.Proofs.YtepngbdjobckbaaGreat
end
section
namespace Go.Proofs.YtepngbdjobckbaaGreat
open Go.RowKit
set_option linter.unusedVariables false
attribute [local irreducible] Go.bits

set_option maxHeartbeats 2000000 in
set_option maxRecDepth 100000 in
theorem mnext_51 (w : World) (A : Option Addr) (n c : Nat) (B : Option Addr) (m d : Nat) (t : Int) (ch th : Nat) (ix kd v tt h ok ov : Int) (l : List Int) (hcf : Cf w A n l) (p : Int) (hp : tlN l ch = p) (hch : ch < n) :
    Calls Tryz.prog 53 #[.agg (Mc.cells A n c B m d t ⟨5, 1, ch, th, ix, kd, v, tt, h, ok, ov⟩)] w fun e w' => e = .returned (.agg (Acc.cells ⟨1, p, 0, 0⟩)) ∧ Below w.heap.size w w' := by
  have Htail := hide (show ∀ W, Below w.heap.size w W → Calls Tryz.prog 7 #[.agg #[.slice A n c, .slice B m d, .int .i64 t], .int .i64 ch] W fun e w' => e = .returned (.int .i64 p) ∧ Below W.heap.size W w' from fun W hW => by have := rtl_any W A n c l B m d t (hcf.below hW) ch (by omega); rwa [hp] at this)
  have Hhead := hide (show ∀ W, Below w.heap.size w W → Calls Tryz.prog 8 #[.agg #[.slice A n c, .slice B m d, .int .i64 t], .int .i64 ch] W fun e w' => e = .returned (.int .i64 (p + 1)) ∧ Below W.heap.size W w' from fun W hW => by have := rhead_any W A n c l B m d t (hcf.below hW) ch (by omega); rwa [hp] at this)
  clear hcf hp
  rw [Mc.cells]
  go_enter Tryz.func53, Tryz.ntmps53
  go_wp2
  go_region
  go_wp2
  have U0 := fun (u : Up ((((w.alloc (.cells #[.int .i64 5, .int .i64 1, .slice A n c, .slice B m d, .int .i64 t, .int .i64 (ch : Nat), .int .i64 (th : Nat), .int .i64 ix, .int .i64 kd, .int .u64 v, .int .u64 tt, .int .u64 h, .int .i64 ok, .int .u64 ov] 81)).alloc (.cells #[.int .i64 0, .int .i64 0, .int .u64 0, .int .u64 0, .int .i64 0] 56)).alloc (.cells #[.slice A n c, .slice B m d, .int .i64 t] 30)).drew)) => E3.ofd u.2
  have c0 := fun u => (bk3 (U0 u).b3).1
  have c1 := fun u => (bk3 (U0 u).b3).2.1
  have c2 := fun u => (bk3 (U0 u).b3).2.2.1
  have HU1 := hide (fun u => Htail.out u.1 (U0 u).bel)
  have HU2 := hide (fun u => Hhead.out u.1 (U0 u).bel)
  have UU := hide U0
  clear U0
  refine wp_region_up (by kernel_rfl) (by kernel_rfl) ?_
  repeat (go_big_quiet_step (first
    | (go_at_call 7; exact up_call (HU1.out _))
    | (go_at_call 8; exact up_call (HU2.out _))))
  refine wpQuiet_nil ?_
  rintro _ ⟨u, rfl⟩
  clear c0 c1 c2 HU1 HU2
  have V1 := hide (UU.out u)
  clear UU
  generalize u.1 = w1 at *
  obtain ⟨c0, c1, c2, c3, c4, c5, c6, c7, c8, c9, c10, c11, c12, c13, f1⟩ := bk14 V1.out.b1
  obtain ⟨k0, k1, k2, -⟩ := bk3 V1.out.b3
  go_wp2_with fail
  refine (access_any _ _ _ _ _).mono ?_
  rintro e w9 ⟨rfl, hb⟩
  have V9 := hide (V1.out.next hb)
  clear hb c0 c1 c2 c3 c4 c5 c6 c7 c8 c9 c10 c11 c12 c13 f1 k0 k1 k2
  have HT := hide (V9.out.b2.there (n := 5) rfl)
  go_wp2_with ((with_reducible show wpList _ _ _ _ _ _); refine wpList_store_res (by rfl) 56 _ _ (by rfl) (w.heap.size + 1) (Acc.cells ⟨1, p, 0, 0⟩) (by rfl) (by rfl) HT.out Tryz.ac_inf (ac_one _) ?_; intro wz HZ)
  obtain ⟨fs, hfs⟩ := Tryz.ac_und
  exact ret_stored HZ Tryz.results53 rfl HT.out hfs rfl Tryz.ac_inf rfl ⟨rfl, below_stored HZ V9.out.bel (by omega)⟩

set_option maxHeartbeats 2000000 in
set_option maxRecDepth 100000 in
theorem mnext_52 (w : World) (A : Option Addr) (n c : Nat) (B : Option Addr) (m d : Nat) (t : Int) (ch th : Nat) (ix kd v tt h ok ov : Int) (l : List Int) (hcf : Cf w A n l) (p : Int) (hp : tlN l ch = p) (hch : ch < n) :
    Calls Tryz.prog 53 #[.agg (Mc.cells A n c B m d t ⟨5, 2, ch, th, ix, kd, v, tt, h, ok, ov⟩)] w fun e w' => e = .returned (.agg (Acc.cells ⟨3, p, tt, pk (tt / 2) true⟩)) ∧ Below w.heap.size w w' := by
  have Htail := hide (show ∀ W, Below w.heap.size w W → Calls Tryz.prog 7 #[.agg #[.slice A n c, .slice B m d, .int .i64 t], .int .i64 ch] W fun e w' => e = .returned (.int .i64 p) ∧ Below W.heap.size W w' from fun W hW => by have := rtl_any W A n c l B m d t (hcf.below hW) ch (by omega); rwa [hp] at this)
  have Hhead := hide (show ∀ W, Below w.heap.size w W → Calls Tryz.prog 8 #[.agg #[.slice A n c, .slice B m d, .int .i64 t], .int .i64 ch] W fun e w' => e = .returned (.int .i64 (p + 1)) ∧ Below W.heap.size W w' from fun W hW => by have := rhead_any W A n c l B m d t (hcf.below hW) ch (by omega); rwa [hp] at this)
  clear hcf hp
  rw [Mc.cells]
  go_enter Tryz.func53, Tryz.ntmps53
  go_wp2
  go_region
  go_wp2
  have U0 := fun (u : Up ((((w.alloc (.cells #[.int .i64 5, .int .i64 2, .slice A n c, .slice B m d, .int .i64 t, .int .i64 (ch : Nat), .int .i64 (th : Nat), .int .i64 ix, .int .i64 kd, .int .u64 v, .int .u64 tt, .int .u64 h, .int .i64 ok, .int .u64 ov] 81)).alloc (.cells #[.int .i64 0, .int .i64 0, .int .u64 0, .int .u64 0, .int .i64 0] 56)).alloc (.cells #[.slice A n c, .slice B m d, .int .i64 t] 30)).drew)) => E3.ofd u.2
  have c0 := fun u => (bk3 (U0 u).b3).1
  have c1 := fun u => (bk3 (U0 u).b3).2.1
  have c2 := fun u => (bk3 (U0 u).b3).2.2.1
  have HU1 := hide (fun u => Htail.out u.1 (U0 u).bel)
  have HU2 := hide (fun u => Hhead.out u.1 (U0 u).bel)
  have UU := hide U0
  clear U0
  refine wp_region_up (by kernel_rfl) (by kernel_rfl) ?_
  repeat (go_big_quiet_step (first
    | (go_at_call 7; exact up_call (HU1.out _))
    | (go_at_call 8; exact up_call (HU2.out _))))
  refine wpQuiet_nil ?_
  rintro _ ⟨u, rfl⟩
  clear c0 c1 c2 HU1 HU2
  have V1 := hide (UU.out u)
  clear UU
  generalize u.1 = w1 at *
  obtain ⟨c0, c1, c2, c3, c4, c5, c6, c7, c8, c9, c10, c11, c12, c13, f1⟩ := bk14 V1.out.b1
  obtain ⟨k0, k1, k2, -⟩ := bk3 V1.out.b3
  go_wp2_with fail
  clear c0 c1 c2 c3 c4 c5 c6 c7 c8 c9 c10 c11 c12 c13 f1 k0 k1 k2
  have U9 := fun (u : Up w1) => V1.out.next u.2
  have c0 := fun u => (bk14 (U9 u).b1).1
  have c1 := fun u => (bk14 (U9 u).b1).2.1
  have c2 := fun u => (bk14 (U9 u).b1).2.2.1
  have c3 := fun u => (bk14 (U9 u).b1).2.2.2.1
  have c4 := fun u => (bk14 (U9 u).b1).2.2.2.2.1
  have c5 := fun u => (bk14 (U9 u).b1).2.2.2.2.2.1
  have c6 := fun u => (bk14 (U9 u).b1).2.2.2.2.2.2.1
  have c7 := fun u => (bk14 (U9 u).b1).2.2.2.2.2.2.2.1
  have c8 := fun u => (bk14 (U9 u).b1).2.2.2.2.2.2.2.2.1
  have c9 := fun u => (bk14 (U9 u).b1).2.2.2.2.2.2.2.2.2.1
  have c10 := fun u => (bk14 (U9 u).b1).2.2.2.2.2.2.2.2.2.2.1
  have c11 := fun u => (bk14 (U9 u).b1).2.2.2.2.2.2.2.2.2.2.2.1
  have c12 := fun u => (bk14 (U9 u).b1).2.2.2.2.2.2.2.2.2.2.2.2.1
  have c13 := fun u => (bk14 (U9 u).b1).2.2.2.2.2.2.2.2.2.2.2.2.2.1
  have k0 := fun u => (bk3 (U9 u).b3).1
  have k1 := fun u => (bk3 (U9 u).b3).2.1
  have k2 := fun u => (bk3 (U9 u).b3).2.2.1
  have UU := hide U9
  clear U9
  refine wp_region_up_tail 7 (by kernel_rfl) (by kernel_rfl) ?_
  simp only [List.take_succ_cons, List.take_zero, List.drop_succ_cons, List.drop_zero]
  repeat (go_big_quiet_step (first
    | (go_at_call 80; exact up_call (mseq_any _ A n c B m d t ⟨5, 2, ch, th, ix, kd, v, tt, h, ok, ov⟩))
    | (go_at_call 40; exact up_same (rpack_any _ _ _))
    | (go_at_call 78; exact up_call (access_any _ _ _ _ _))))
  refine wpQuiet_nil ?_
  intro u
  clear c0 c1 c2 c3 c4 c5 c6 c7 c8 c9 c10 c11 c12 c13 k0 k1 k2
  have V9 := hide (UU.out u)
  clear UU
  generalize u.1 = w9 at *
  have HT := hide (V9.out.b2.there (n := 5) rfl)
  go_wp2_with ((with_reducible show wpList _ _ _ _ _ _); refine wpList_store_res (by rfl) 56 _ _ (by rfl) (w.heap.size + 1) (Acc.cells ⟨3, p, tt, pk (tt / 2) true⟩) (by rfl) (by rfl) HT.out Tryz.ac_inf (ac_one _) ?_; intro wz HZ)
  obtain ⟨fs, hfs⟩ := Tryz.ac_und
  exact ret_stored HZ Tryz.results53 rfl HT.out hfs rfl Tryz.ac_inf rfl ⟨rfl, below_stored HZ V9.out.bel (by omega)⟩

set_option maxHeartbeats 2000000 in
set_option maxRecDepth 100000 in
theorem mnext_61 (w : World) (A : Option Addr) (n c : Nat) (B : Option Addr) (m d : Nat) (t : Int) (ch th : Nat) (ix kd v tt h ok ov : Int) (l : List Int) (hcf : Cf w A n l) (p : Int) (hp : tlN l ch = p) (hch : ch < n) :
    Calls Tryz.prog 53 #[.agg (Mc.cells A n c B m d t ⟨6, 1, ch, th, ix, kd, v, tt, h, ok, ov⟩)] w fun e w' => e = .returned (.agg (Acc.cells ⟨1, p, 0, 0⟩)) ∧ Below w.heap.size w w' := by
  have Htail := hide (show ∀ W, Below w.heap.size w W → Calls Tryz.prog 7 #[.agg #[.slice A n c, .slice B m d, .int .i64 t], .int .i64 ch] W fun e w' => e = .returned (.int .i64 p) ∧ Below W.heap.size W w' from fun W hW => by have := rtl_any W A n c l B m d t (hcf.below hW) ch (by omega); rwa [hp] at this)
  have Hhead := hide (show ∀ W, Below w.heap.size w W → Calls Tryz.prog 8 #[.agg #[.slice A n c, .slice B m d, .int .i64 t], .int .i64 ch] W fun e w' => e = .returned (.int .i64 (p + 1)) ∧ Below W.heap.size W w' from fun W hW => by have := rhead_any W A n c l B m d t (hcf.below hW) ch (by omega); rwa [hp] at this)
  clear hcf hp
  rw [Mc.cells]
  go_enter Tryz.func53, Tryz.ntmps53
  go_wp2
  go_region
  go_wp2
  have U0 := fun (u : Up ((((w.alloc (.cells #[.int .i64 6, .int .i64 1, .slice A n c, .slice B m d, .int .i64 t, .int .i64 (ch : Nat), .int .i64 (th : Nat), .int .i64 ix, .int .i64 kd, .int .u64 v, .int .u64 tt, .int .u64 h, .int .i64 ok, .int .u64 ov] 81)).alloc (.cells #[.int .i64 0, .int .i64 0, .int .u64 0, .int .u64 0, .int .i64 0] 56)).alloc (.cells #[.slice A n c, .slice B m d, .int .i64 t] 30)).drew)) => E3.ofd u.2
  have c0 := fun u => (bk3 (U0 u).b3).1
  have c1 := fun u => (bk3 (U0 u).b3).2.1
  have c2 := fun u => (bk3 (U0 u).b3).2.2.1
  have HU1 := hide (fun u => Htail.out u.1 (U0 u).bel)
  have HU2 := hide (fun u => Hhead.out u.1 (U0 u).bel)
  have UU := hide U0
  clear U0
  refine wp_region_up (by kernel_rfl) (by kernel_rfl) ?_
  repeat (go_big_quiet_step (first
    | (go_at_call 7; exact up_call (HU1.out _))
    | (go_at_call 8; exact up_call (HU2.out _))))
  refine wpQuiet_nil ?_
  rintro _ ⟨u, rfl⟩
  clear c0 c1 c2 HU1 HU2
  have V1 := hide (UU.out u)
  clear UU
  generalize u.1 = w1 at *
  obtain ⟨c0, c1, c2, c3, c4, c5, c6, c7, c8, c9, c10, c11, c12, c13, f1⟩ := bk14 V1.out.b1
  obtain ⟨k0, k1, k2, -⟩ := bk3 V1.out.b3
  go_wp2_with fail
  refine (access_any _ _ _ _ _).mono ?_
  rintro e w9 ⟨rfl, hb⟩
  have V9 := hide (V1.out.next hb)
  clear hb c0 c1 c2 c3 c4 c5 c6 c7 c8 c9 c10 c11 c12 c13 f1 k0 k1 k2
  have HT := hide (V9.out.b2.there (n := 5) rfl)
  go_wp2_with ((with_reducible show wpList _ _ _ _ _ _); refine wpList_store_res (by rfl) 56 _ _ (by rfl) (w.heap.size + 1) (Acc.cells ⟨1, p, 0, 0⟩) (by rfl) (by rfl) HT.out Tryz.ac_inf (ac_one _) ?_; intro wz HZ)
  obtain ⟨fs, hfs⟩ := Tryz.ac_und
  exact ret_stored HZ Tryz.results53 rfl HT.out hfs rfl Tryz.ac_inf rfl ⟨rfl, below_stored HZ V9.out.bel (by omega)⟩

set_option maxHeartbeats 2000000 in
set_option maxRecDepth 100000 in
theorem mnext_62 (w : World) (A : Option Addr) (n c : Nat) (B : Option Addr) (m d : Nat) (t : Int) (ch th : Nat) (ix kd v tt h ok ov : Int) (l : List Int) (hcf : Cf w A n l) (p : Int) (hp : tlN l ch = p) (hch : ch < n) :
    Calls Tryz.prog 53 #[.agg (Mc.cells A n c B m d t ⟨6, 2, ch, th, ix, kd, v, tt, h, ok, ov⟩)] w fun e w' => e = .returned (.agg (Acc.cells ⟨1, p + 1, 0, 0⟩)) ∧ Below w.heap.size w w' := by
  have Htail := hide (show ∀ W, Below w.heap.size w W → Calls Tryz.prog 7 #[.agg #[.slice A n c, .slice B m d, .int .i64 t], .int .i64 ch] W fun e w' => e = .returned (.int .i64 p) ∧ Below W.heap.size W w' from fun W hW => by have := rtl_any W A n c l B m d t (hcf.below hW) ch (by omega); rwa [hp] at this)
  have Hhead := hide (show ∀ W, Below w.heap.size w W → Calls Tryz.prog 8 #[.agg #[.slice A n c, .slice B m d, .int .i64 t], .int .i64 ch] W fun e w' => e = .returned (.int .i64 (p + 1)) ∧ Below W.heap.size W w' from fun W hW => by have := rhead_any W A n c l B m d t (hcf.below hW) ch (by omega); rwa [hp] at this)
  clear hcf hp
  rw [Mc.cells]
  go_enter Tryz.func53, Tryz.ntmps53
  go_wp2
  go_region
  go_wp2
  have U0 := fun (u : Up ((((w.alloc (.cells #[.int .i64 6, .int .i64 2, .slice A n c, .slice B m d, .int .i64 t, .int .i64 (ch : Nat), .int .i64 (th : Nat), .int .i64 ix, .int .i64 kd, .int .u64 v, .int .u64 tt, .int .u64 h, .int .i64 ok, .int .u64 ov] 81)).alloc (.cells #[.int .i64 0, .int .i64 0, .int .u64 0, .int .u64 0, .int .i64 0] 56)).alloc (.cells #[.slice A n c, .slice B m d, .int .i64 t] 30)).drew)) => E3.ofd u.2
  have c0 := fun u => (bk3 (U0 u).b3).1
  have c1 := fun u => (bk3 (U0 u).b3).2.1
  have c2 := fun u => (bk3 (U0 u).b3).2.2.1
  have HU1 := hide (fun u => Htail.out u.1 (U0 u).bel)
  have HU2 := hide (fun u => Hhead.out u.1 (U0 u).bel)
  have UU := hide U0
  clear U0
  refine wp_region_up (by kernel_rfl) (by kernel_rfl) ?_
  repeat (go_big_quiet_step (first
    | (go_at_call 7; exact up_call (HU1.out _))
    | (go_at_call 8; exact up_call (HU2.out _))))
  refine wpQuiet_nil ?_
  rintro _ ⟨u, rfl⟩
  clear c0 c1 c2 HU1 HU2
  have V1 := hide (UU.out u)
  clear UU
  generalize u.1 = w1 at *
  obtain ⟨c0, c1, c2, c3, c4, c5, c6, c7, c8, c9, c10, c11, c12, c13, f1⟩ := bk14 V1.out.b1
  obtain ⟨k0, k1, k2, -⟩ := bk3 V1.out.b3
  go_wp2_with fail
  refine (access_any _ _ _ _ _).mono ?_
  rintro e w9 ⟨rfl, hb⟩
  have V9 := hide (V1.out.next hb)
  clear hb c0 c1 c2 c3 c4 c5 c6 c7 c8 c9 c10 c11 c12 c13 f1 k0 k1 k2
  have HT := hide (V9.out.b2.there (n := 5) rfl)
  go_wp2_with ((with_reducible show wpList _ _ _ _ _ _); refine wpList_store_res (by rfl) 56 _ _ (by rfl) (w.heap.size + 1) (Acc.cells ⟨1, p + 1, 0, 0⟩) (by rfl) (by rfl) HT.out Tryz.ac_inf (ac_one _) ?_; intro wz HZ)
  obtain ⟨fs, hfs⟩ := Tryz.ac_und
  exact ret_stored HZ Tryz.results53 rfl HT.out hfs rfl Tryz.ac_inf rfl ⟨rfl, below_stored HZ V9.out.bel (by omega)⟩

set_option maxHeartbeats 2000000 in
set_option maxRecDepth 100000 in
theorem mnext_63 (w : World) (A : Option Addr) (n c : Nat) (B : Option Addr) (m d : Nat) (t : Int) (ch th : Nat) (ix kd v tt h ok ov : Int) (l : List Int) (hcf : Cf w A n l) (p : Int) (hp : tlN l ch = p) (hch : ch < n) :
    Calls Tryz.prog 53 #[.agg (Mc.cells A n c B m d t ⟨6, 3, ch, th, ix, kd, v, tt, h, ok, ov⟩)] w fun e w' => e = .returned (.agg (Acc.cells ⟨1, p, 0, 0⟩)) ∧ Below w.heap.size w w' := by
  have Htail := hide (show ∀ W, Below w.heap.size w W → Calls Tryz.prog 7 #[.agg #[.slice A n c, .slice B m d, .int .i64 t], .int .i64 ch] W fun e w' => e = .returned (.int .i64 p) ∧ Below W.heap.size W w' from fun W hW => by have := rtl_any W A n c l B m d t (hcf.below hW) ch (by omega); rwa [hp] at this)
  have Hhead := hide (show ∀ W, Below w.heap.size w W → Calls Tryz.prog 8 #[.agg #[.slice A n c, .slice B m d, .int .i64 t], .int .i64 ch] W fun e w' => e = .returned (.int .i64 (p + 1)) ∧ Below W.heap.size W w' from fun W hW => by have := rhead_any W A n c l B m d t (hcf.below hW) ch (by omega); rwa [hp] at this)
  clear hcf hp
  rw [Mc.cells]
  go_enter Tryz.func53, Tryz.ntmps53
  go_wp2
  go_region
  go_wp2
  have U0 := fun (u : Up ((((w.alloc (.cells #[.int .i64 6, .int .i64 3, .slice A n c, .slice B m d, .int .i64 t, .int .i64 (ch : Nat), .int .i64 (th : Nat), .int .i64 ix, .int .i64 kd, .int .u64 v, .int .u64 tt, .int .u64 h, .int .i64 ok, .int .u64 ov] 81)).alloc (.cells #[.int .i64 0, .int .i64 0, .int .u64 0, .int .u64 0, .int .i64 0] 56)).alloc (.cells #[.slice A n c, .slice B m d, .int .i64 t] 30)).drew)) => E3.ofd u.2
  have c0 := fun u => (bk3 (U0 u).b3).1
  have c1 := fun u => (bk3 (U0 u).b3).2.1
  have c2 := fun u => (bk3 (U0 u).b3).2.2.1
  have HU1 := hide (fun u => Htail.out u.1 (U0 u).bel)
  have HU2 := hide (fun u => Hhead.out u.1 (U0 u).bel)
  have UU := hide U0
  clear U0
  refine wp_region_up (by kernel_rfl) (by kernel_rfl) ?_
  repeat (go_big_quiet_step (first
    | (go_at_call 7; exact up_call (HU1.out _))
    | (go_at_call 8; exact up_call (HU2.out _))))
  refine wpQuiet_nil ?_
  rintro _ ⟨u, rfl⟩
  clear c0 c1 c2 HU1 HU2
  have V1 := hide (UU.out u)
  clear UU
  generalize u.1 = w1 at *
  obtain ⟨c0, c1, c2, c3, c4, c5, c6, c7, c8, c9, c10, c11, c12, c13, f1⟩ := bk14 V1.out.b1
  obtain ⟨k0, k1, k2, -⟩ := bk3 V1.out.b3
  go_wp2_with fail
  refine (access_any _ _ _ _ _).mono ?_
  rintro e w9 ⟨rfl, hb⟩
  have V9 := hide (V1.out.next hb)
  clear hb c0 c1 c2 c3 c4 c5 c6 c7 c8 c9 c10 c11 c12 c13 f1 k0 k1 k2
  have HT := hide (V9.out.b2.there (n := 5) rfl)
  go_wp2_with ((with_reducible show wpList _ _ _ _ _ _); refine wpList_store_res (by rfl) 56 _ _ (by rfl) (w.heap.size + 1) (Acc.cells ⟨1, p, 0, 0⟩) (by rfl) (by rfl) HT.out Tryz.ac_inf (ac_one _) ?_; intro wz HZ)
  obtain ⟨fs, hfs⟩ := Tryz.ac_und
  exact ret_stored HZ Tryz.results53 rfl HT.out hfs rfl Tryz.ac_inf rfl ⟨rfl, below_stored HZ V9.out.bel (by omega)⟩
end Go.Proofs.YtepngbdjobckbaaGreat
end
section
namespace Go.Proofs.YtepngbdjobckbaaGreat
open Go.RowKit
set_option linter.unusedVariables false
attribute [local irreducible] Go.bits

set_option maxHeartbeats 2000000 in
set_option maxRecDepth 100000 in
theorem mnext_7 (w : World) (A : Option Addr) (n c : Nat) (B : Option Addr) (m d : Nat) (t : Int) (ch th : Nat) (ix kd v tt h ok ov : Int) (l : List Int) (hcf : Cf w A n l) (p : Int) (hp : tlN l ch = p) (hch : ch ≤ n) (hth : th ≤ 8) (q : Int) (hq : tlN l n + (th : Int) * 11 = q) :
    Calls Tryz.prog 53 #[.agg (Mc.cells A n c B m d t ⟨7, 1, ch, th, ix, kd, v, tt, h, ok, ov⟩)] w fun e w' => e = .returned (.agg (Acc.cells ⟨3, q, 1, 2⟩)) ∧ Below w.heap.size w w' := by
  have Htail := hide (show ∀ W, Below w.heap.size w W → Calls Tryz.prog 7 #[.agg #[.slice A n c, .slice B m d, .int .i64 t], .int .i64 ch] W fun e w' => e = .returned (.int .i64 p) ∧ Below W.heap.size W w' from fun W hW => by have := rtl_any W A n c l B m d t (hcf.below hW) ch (by omega); rwa [hp] at this)
  have Hhead := hide (show ∀ W, Below w.heap.size w W → Calls Tryz.prog 8 #[.agg #[.slice A n c, .slice B m d, .int .i64 t], .int .i64 ch] W fun e w' => e = .returned (.int .i64 (p + 1)) ∧ Below W.heap.size W w' from fun W hW => by have := rhead_any W A n c l B m d t (hcf.below hW) ch (by omega); rwa [hp] at this)
  have Hclaim := hide (show ∀ W, Below w.heap.size w W → Calls Tryz.prog 60 #[.agg #[.slice A n c, .slice B m d, .int .i64 t], .int .i64 th] W fun e w' => e = .returned (.int .i64 q) ∧ Below W.heap.size W w' from fun W hW => by have := rclaim_any W A n c l B m d t (hcf.below hW) th hth; rwa [hq] at this)
  clear hcf hp hq
  rw [Mc.cells]
  go_enter Tryz.func53, Tryz.ntmps53
  go_wp2
  go_region
  go_wp2
  have U0 := fun (u : Up ((((w.alloc (.cells #[.int .i64 7, .int .i64 1, .slice A n c, .slice B m d, .int .i64 t, .int .i64 (ch : Nat), .int .i64 (th : Nat), .int .i64 ix, .int .i64 kd, .int .u64 v, .int .u64 tt, .int .u64 h, .int .i64 ok, .int .u64 ov] 81)).alloc (.cells #[.int .i64 0, .int .i64 0, .int .u64 0, .int .u64 0, .int .i64 0] 56)).alloc (.cells #[.slice A n c, .slice B m d, .int .i64 t] 30)).drew)) => E3.ofd u.2
  have c0 := fun u => (bk3 (U0 u).b3).1
  have c1 := fun u => (bk3 (U0 u).b3).2.1
  have c2 := fun u => (bk3 (U0 u).b3).2.2.1
  have HU1 := hide (fun u => Htail.out u.1 (U0 u).bel)
  have HU2 := hide (fun u => Hhead.out u.1 (U0 u).bel)
  have UU := hide U0
  clear U0
  refine wp_region_up (by kernel_rfl) (by kernel_rfl) ?_
  repeat (go_big_quiet_step (first
    | (go_at_call 7; exact up_call (HU1.out _))
    | (go_at_call 8; exact up_call (HU2.out _))))
  refine wpQuiet_nil ?_
  rintro _ ⟨u, rfl⟩
  clear c0 c1 c2 HU1 HU2
  have V1 := hide (UU.out u)
  clear UU
  generalize u.1 = w1 at *
  obtain ⟨c0, c1, c2, c3, c4, c5, c6, c7, c8, c9, c10, c11, c12, c13, f1⟩ := bk14 V1.out.b1
  obtain ⟨k0, k1, k2, -⟩ := bk3 V1.out.b3
  go_wp2_with fail
  refine (Hclaim.out _ V1.out.bel).mono ?_
  rintro e w2 ⟨rfl, hb⟩
  have V2 := hide (V1.out.next hb)
  clear hb c0 c1 c2 c3 c4 c5 c6 c7 c8 c9 c10 c11 c12 c13 f1 k0 k1 k2
  obtain ⟨c0, c1, c2, c3, c4, c5, c6, c7, c8, c9, c10, c11, c12, c13, f1⟩ := bk14 V2.out.b1
  obtain ⟨k0, k1, k2, -⟩ := bk3 V2.out.b3
  go_wp2_with fail
  refine (access_any _ _ _ _ _).mono ?_
  rintro e w9 ⟨rfl, hb⟩
  have V9 := hide (V2.out.next hb)
  clear hb c0 c1 c2 c3 c4 c5 c6 c7 c8 c9 c10 c11 c12 c13 f1 k0 k1 k2
  have HT := hide (V9.out.b2.there (n := 5) rfl)
  go_wp2_with ((with_reducible show wpList _ _ _ _ _ _); refine wpList_store_res (by rfl) 56 _ _ (by rfl) (w.heap.size + 1) (Acc.cells ⟨3, q, 1, 2⟩) (by rfl) (by rfl) HT.out Tryz.ac_inf (ac_one _) ?_; intro wz HZ)
  obtain ⟨fs, hfs⟩ := Tryz.ac_und
  exact ret_stored HZ Tryz.results53 rfl HT.out hfs rfl Tryz.ac_inf rfl ⟨rfl, below_stored HZ V9.out.bel (by omega)⟩

set_option maxHeartbeats 2000000 in
set_option maxRecDepth 100000 in
theorem mnext_8 (w : World) (A : Option Addr) (n c : Nat) (B : Option Addr) (m d : Nat) (t : Int) (ch th : Nat) (ix kd v tt h ok ov : Int) (l : List Int) (hcf : Cf w A n l) (p : Int) (hp : tlN l ch = p) (hch : ch ≤ n) (hth : th ≤ 8) (q : Int) (hq : tlN l n + (th : Int) * 11 = q) :
    Calls Tryz.prog 53 #[.agg (Mc.cells A n c B m d t ⟨8, 1, ch, th, ix, kd, v, tt, h, ok, ov⟩)] w fun e w' => e = .returned (.agg (Acc.cells ⟨2, q, 0, 1⟩)) ∧ Below w.heap.size w w' := by
  have Htail := hide (show ∀ W, Below w.heap.size w W → Calls Tryz.prog 7 #[.agg #[.slice A n c, .slice B m d, .int .i64 t], .int .i64 ch] W fun e w' => e = .returned (.int .i64 p) ∧ Below W.heap.size W w' from fun W hW => by have := rtl_any W A n c l B m d t (hcf.below hW) ch (by omega); rwa [hp] at this)
  have Hhead := hide (show ∀ W, Below w.heap.size w W → Calls Tryz.prog 8 #[.agg #[.slice A n c, .slice B m d, .int .i64 t], .int .i64 ch] W fun e w' => e = .returned (.int .i64 (p + 1)) ∧ Below W.heap.size W w' from fun W hW => by have := rhead_any W A n c l B m d t (hcf.below hW) ch (by omega); rwa [hp] at this)
  have Hclaim := hide (show ∀ W, Below w.heap.size w W → Calls Tryz.prog 60 #[.agg #[.slice A n c, .slice B m d, .int .i64 t], .int .i64 th] W fun e w' => e = .returned (.int .i64 q) ∧ Below W.heap.size W w' from fun W hW => by have := rclaim_any W A n c l B m d t (hcf.below hW) th hth; rwa [hq] at this)
  clear hcf hp hq
  rw [Mc.cells]
  go_enter Tryz.func53, Tryz.ntmps53
  go_wp2
  go_region
  go_wp2
  have U0 := fun (u : Up ((((w.alloc (.cells #[.int .i64 8, .int .i64 1, .slice A n c, .slice B m d, .int .i64 t, .int .i64 (ch : Nat), .int .i64 (th : Nat), .int .i64 ix, .int .i64 kd, .int .u64 v, .int .u64 tt, .int .u64 h, .int .i64 ok, .int .u64 ov] 81)).alloc (.cells #[.int .i64 0, .int .i64 0, .int .u64 0, .int .u64 0, .int .i64 0] 56)).alloc (.cells #[.slice A n c, .slice B m d, .int .i64 t] 30)).drew)) => E3.ofd u.2
  have c0 := fun u => (bk3 (U0 u).b3).1
  have c1 := fun u => (bk3 (U0 u).b3).2.1
  have c2 := fun u => (bk3 (U0 u).b3).2.2.1
  have HU1 := hide (fun u => Htail.out u.1 (U0 u).bel)
  have HU2 := hide (fun u => Hhead.out u.1 (U0 u).bel)
  have UU := hide U0
  clear U0
  refine wp_region_up (by kernel_rfl) (by kernel_rfl) ?_
  repeat (go_big_quiet_step (first
    | (go_at_call 7; exact up_call (HU1.out _))
    | (go_at_call 8; exact up_call (HU2.out _))))
  refine wpQuiet_nil ?_
  rintro _ ⟨u, rfl⟩
  clear c0 c1 c2 HU1 HU2
  have V1 := hide (UU.out u)
  clear UU
  generalize u.1 = w1 at *
  obtain ⟨c0, c1, c2, c3, c4, c5, c6, c7, c8, c9, c10, c11, c12, c13, f1⟩ := bk14 V1.out.b1
  obtain ⟨k0, k1, k2, -⟩ := bk3 V1.out.b3
  go_wp2_with fail
  refine (Hclaim.out _ V1.out.bel).mono ?_
  rintro e w2 ⟨rfl, hb⟩
  have V2 := hide (V1.out.next hb)
  clear hb c0 c1 c2 c3 c4 c5 c6 c7 c8 c9 c10 c11 c12 c13 f1 k0 k1 k2
  obtain ⟨c0, c1, c2, c3, c4, c5, c6, c7, c8, c9, c10, c11, c12, c13, f1⟩ := bk14 V2.out.b1
  obtain ⟨k0, k1, k2, -⟩ := bk3 V2.out.b3
  go_wp2_with fail
  refine (access_any _ _ _ _ _).mono ?_
  rintro e w9 ⟨rfl, hb⟩
  have V9 := hide (V2.out.next hb)
  clear hb c0 c1 c2 c3 c4 c5 c6 c7 c8 c9 c10 c11 c12 c13 f1 k0 k1 k2
  have HT := hide (V9.out.b2.there (n := 5) rfl)
  go_wp2_with ((with_reducible show wpList _ _ _ _ _ _); refine wpList_store_res (by rfl) 56 _ _ (by rfl) (w.heap.size + 1) (Acc.cells ⟨2, q, 0, 1⟩) (by rfl) (by rfl) HT.out Tryz.ac_inf (ac_one _) ?_; intro wz HZ)
  obtain ⟨fs, hfs⟩ := Tryz.ac_und
  exact ret_stored HZ Tryz.results53 rfl HT.out hfs rfl Tryz.ac_inf rfl ⟨rfl, below_stored HZ V9.out.bel (by omega)⟩

set_option maxHeartbeats 2000000 in
set_option maxRecDepth 100000 in
theorem mnext_11 (w : World) (A : Option Addr) (n c : Nat) (B : Option Addr) (m d : Nat) (t : Int) (ch th : Nat) (ix kd v tt h ok ov : Int) (l : List Int) (hcf : Cf w A n l) (p : Int) (hp : tlN l ch = p) (hch : ch ≤ n) (hth : th ≤ 8) (q : Int) (hq : tlN l n + (th : Int) * 11 = q) :
    Calls Tryz.prog 53 #[.agg (Mc.cells A n c B m d t ⟨11, 1, ch, th, ix, kd, v, tt, h, ok, ov⟩)] w fun e w' => e = .returned (.agg (Acc.cells ⟨2, q, 0, 0⟩)) ∧ Below w.heap.size w w' := by
  have Htail := hide (show ∀ W, Below w.heap.size w W → Calls Tryz.prog 7 #[.agg #[.slice A n c, .slice B m d, .int .i64 t], .int .i64 ch] W fun e w' => e = .returned (.int .i64 p) ∧ Below W.heap.size W w' from fun W hW => by have := rtl_any W A n c l B m d t (hcf.below hW) ch (by omega); rwa [hp] at this)
  have Hhead := hide (show ∀ W, Below w.heap.size w W → Calls Tryz.prog 8 #[.agg #[.slice A n c, .slice B m d, .int .i64 t], .int .i64 ch] W fun e w' => e = .returned (.int .i64 (p + 1)) ∧ Below W.heap.size W w' from fun W hW => by have := rhead_any W A n c l B m d t (hcf.below hW) ch (by omega); rwa [hp] at this)
  have Hclaim := hide (show ∀ W, Below w.heap.size w W → Calls Tryz.prog 60 #[.agg #[.slice A n c, .slice B m d, .int .i64 t], .int .i64 th] W fun e w' => e = .returned (.int .i64 q) ∧ Below W.heap.size W w' from fun W hW => by have := rclaim_any W A n c l B m d t (hcf.below hW) th hth; rwa [hq] at this)
  clear hcf hp hq
  rw [Mc.cells]
  go_enter Tryz.func53, Tryz.ntmps53
  go_wp2
  go_region
  go_wp2
  have U0 := fun (u : Up ((((w.alloc (.cells #[.int .i64 11, .int .i64 1, .slice A n c, .slice B m d, .int .i64 t, .int .i64 (ch : Nat), .int .i64 (th : Nat), .int .i64 ix, .int .i64 kd, .int .u64 v, .int .u64 tt, .int .u64 h, .int .i64 ok, .int .u64 ov] 81)).alloc (.cells #[.int .i64 0, .int .i64 0, .int .u64 0, .int .u64 0, .int .i64 0] 56)).alloc (.cells #[.slice A n c, .slice B m d, .int .i64 t] 30)).drew)) => E3.ofd u.2
  have c0 := fun u => (bk3 (U0 u).b3).1
  have c1 := fun u => (bk3 (U0 u).b3).2.1
  have c2 := fun u => (bk3 (U0 u).b3).2.2.1
  have HU1 := hide (fun u => Htail.out u.1 (U0 u).bel)
  have HU2 := hide (fun u => Hhead.out u.1 (U0 u).bel)
  have UU := hide U0
  clear U0
  refine wp_region_up (by kernel_rfl) (by kernel_rfl) ?_
  repeat (go_big_quiet_step (first
    | (go_at_call 7; exact up_call (HU1.out _))
    | (go_at_call 8; exact up_call (HU2.out _))))
  refine wpQuiet_nil ?_
  rintro _ ⟨u, rfl⟩
  clear c0 c1 c2 HU1 HU2
  have V1 := hide (UU.out u)
  clear UU
  generalize u.1 = w1 at *
  obtain ⟨c0, c1, c2, c3, c4, c5, c6, c7, c8, c9, c10, c11, c12, c13, f1⟩ := bk14 V1.out.b1
  obtain ⟨k0, k1, k2, -⟩ := bk3 V1.out.b3
  go_wp2_with fail
  refine (Hclaim.out _ V1.out.bel).mono ?_
  rintro e w2 ⟨rfl, hb⟩
  have V2 := hide (V1.out.next hb)
  clear hb c0 c1 c2 c3 c4 c5 c6 c7 c8 c9 c10 c11 c12 c13 f1 k0 k1 k2
  obtain ⟨c0, c1, c2, c3, c4, c5, c6, c7, c8, c9, c10, c11, c12, c13, f1⟩ := bk14 V2.out.b1
  obtain ⟨k0, k1, k2, -⟩ := bk3 V2.out.b3
  go_wp2_with fail
  refine (access_any _ _ _ _ _).mono ?_
  rintro e w9 ⟨rfl, hb⟩
  have V9 := hide (V2.out.next hb)
  clear hb c0 c1 c2 c3 c4 c5 c6 c7 c8 c9 c10 c11 c12 c13 f1 k0 k1 k2
  have HT := hide (V9.out.b2.there (n := 5) rfl)
  go_wp2_with ((with_reducible show wpList _ _ _ _ _ _); refine wpList_store_res (by rfl) 56 _ _ (by rfl) (w.heap.size + 1) (Acc.cells ⟨2, q, 0, 0⟩) (by rfl) (by rfl) HT.out Tryz.ac_inf (ac_one _) ?_; intro wz HZ)
  obtain ⟨fs, hfs⟩ := Tryz.ac_und
  exact ret_stored HZ Tryz.results53 rfl HT.out hfs rfl Tryz.ac_inf rfl ⟨rfl, below_stored HZ V9.out.bel (by omega)⟩

set_option maxHeartbeats 2000000 in
set_option maxRecDepth 100000 in
theorem mnext_10 (w : World) (A : Option Addr) (n c : Nat) (B : Option Addr) (m d : Nat) (t : Int) (ch th : Nat) (ix kd v tt h ok ov : Int) (l : List Int) (hcf : Cf w A n l) (p : Int) (hp : tlN l ch = p) (hch : ch ≤ n) (hth : th ≤ 8) (q : Int) (hq : tlN l n + (th : Int) * 11 = q) :
    Calls Tryz.prog 53 #[.agg (Mc.cells A n c B m d t ⟨10, 1, ch, th, ix, kd, v, tt, h, ok, ov⟩)] w fun e w' => e = .returned (.agg (Acc.cells ⟨3, q, 1, 4⟩)) ∧ Below w.heap.size w w' := by
  have Htail := hide (show ∀ W, Below w.heap.size w W → Calls Tryz.prog 7 #[.agg #[.slice A n c, .slice B m d, .int .i64 t], .int .i64 ch] W fun e w' => e = .returned (.int .i64 p) ∧ Below W.heap.size W w' from fun W hW => by have := rtl_any W A n c l B m d t (hcf.below hW) ch (by omega); rwa [hp] at this)
  have Hhead := hide (show ∀ W, Below w.heap.size w W → Calls Tryz.prog 8 #[.agg #[.slice A n c, .slice B m d, .int .i64 t], .int .i64 ch] W fun e w' => e = .returned (.int .i64 (p + 1)) ∧ Below W.heap.size W w' from fun W hW => by have := rhead_any W A n c l B m d t (hcf.below hW) ch (by omega); rwa [hp] at this)
  have Hclaim := hide (show ∀ W, Below w.heap.size w W → Calls Tryz.prog 60 #[.agg #[.slice A n c, .slice B m d, .int .i64 t], .int .i64 th] W fun e w' => e = .returned (.int .i64 q) ∧ Below W.heap.size W w' from fun W hW => by have := rclaim_any W A n c l B m d t (hcf.below hW) th hth; rwa [hq] at this)
  clear hcf hp hq
  rw [Mc.cells]
  go_enter Tryz.func53, Tryz.ntmps53
  go_wp2
  go_region
  go_wp2
  have U0 := fun (u : Up ((((w.alloc (.cells #[.int .i64 10, .int .i64 1, .slice A n c, .slice B m d, .int .i64 t, .int .i64 (ch : Nat), .int .i64 (th : Nat), .int .i64 ix, .int .i64 kd, .int .u64 v, .int .u64 tt, .int .u64 h, .int .i64 ok, .int .u64 ov] 81)).alloc (.cells #[.int .i64 0, .int .i64 0, .int .u64 0, .int .u64 0, .int .i64 0] 56)).alloc (.cells #[.slice A n c, .slice B m d, .int .i64 t] 30)).drew)) => E3.ofd u.2
  have c0 := fun u => (bk3 (U0 u).b3).1
  have c1 := fun u => (bk3 (U0 u).b3).2.1
  have c2 := fun u => (bk3 (U0 u).b3).2.2.1
  have HU1 := hide (fun u => Htail.out u.1 (U0 u).bel)
  have HU2 := hide (fun u => Hhead.out u.1 (U0 u).bel)
  have UU := hide U0
  clear U0
  refine wp_region_up (by kernel_rfl) (by kernel_rfl) ?_
  repeat (go_big_quiet_step (first
    | (go_at_call 7; exact up_call (HU1.out _))
    | (go_at_call 8; exact up_call (HU2.out _))))
  refine wpQuiet_nil ?_
  rintro _ ⟨u, rfl⟩
  clear c0 c1 c2 HU1 HU2
  have V1 := hide (UU.out u)
  clear UU
  generalize u.1 = w1 at *
  obtain ⟨c0, c1, c2, c3, c4, c5, c6, c7, c8, c9, c10, c11, c12, c13, f1⟩ := bk14 V1.out.b1
  obtain ⟨k0, k1, k2, -⟩ := bk3 V1.out.b3
  go_wp2_with fail
  refine (Hclaim.out _ V1.out.bel).mono ?_
  rintro e w2 ⟨rfl, hb⟩
  have V2 := hide (V1.out.next hb)
  clear hb c0 c1 c2 c3 c4 c5 c6 c7 c8 c9 c10 c11 c12 c13 f1 k0 k1 k2
  obtain ⟨c0, c1, c2, c3, c4, c5, c6, c7, c8, c9, c10, c11, c12, c13, f1⟩ := bk14 V2.out.b1
  obtain ⟨k0, k1, k2, -⟩ := bk3 V2.out.b3
  go_wp2_with fail
  refine (access_any _ _ _ _ _).mono ?_
  rintro e w9 ⟨rfl, hb⟩
  have V9 := hide (V2.out.next hb)
  clear hb c0 c1 c2 c3 c4 c5 c6 c7 c8 c9 c10 c11 c12 c13 f1 k0 k1 k2
  have HT := hide (V9.out.b2.there (n := 5) rfl)
  go_wp2_with ((with_reducible show wpList _ _ _ _ _ _); refine wpList_store_res (by rfl) 56 _ _ (by rfl) (w.heap.size + 1) (Acc.cells ⟨3, q, 1, 4⟩) (by rfl) (by rfl) HT.out Tryz.ac_inf (ac_one _) ?_; intro wz HZ)
  obtain ⟨fs, hfs⟩ := Tryz.ac_und
  exact ret_stored HZ Tryz.results53 rfl HT.out hfs rfl Tryz.ac_inf rfl ⟨rfl, below_stored HZ V9.out.bel (by omega)⟩

set_option maxHeartbeats 2000000 in
set_option maxRecDepth 100000 in
theorem mnext_91 (w : World) (A : Option Addr) (n c : Nat) (B : Option Addr) (m d : Nat) (t : Int) (ch th : Nat) (ix kd v tt h ok ov : Int) (l : List Int) (hcf : Cf w A n l) (p : Int) (hp : tlN l ch = p) (hch : ch ≤ n) (hth : th ≤ 8) (q : Int) (hq : tlN l n + (th : Int) * 11 = q) :
    Calls Tryz.prog 53 #[.agg (Mc.cells A n c B m d t ⟨9, 1, ch, th, ix, kd, v, tt, h, ok, ov⟩)] w fun e w' => e = .returned (.agg (Acc.cells ⟨6, q + 3, 0, IntKind.u64.wrap ix⟩)) ∧ Below w.heap.size w w' := by
  have Htail := hide (show ∀ W, Below w.heap.size w W → Calls Tryz.prog 7 #[.agg #[.slice A n c, .slice B m d, .int .i64 t], .int .i64 ch] W fun e w' => e = .returned (.int .i64 p) ∧ Below W.heap.size W w' from fun W hW => by have := rtl_any W A n c l B m d t (hcf.below hW) ch (by omega); rwa [hp] at this)
  have Hhead := hide (show ∀ W, Below w.heap.size w W → Calls Tryz.prog 8 #[.agg #[.slice A n c, .slice B m d, .int .i64 t], .int .i64 ch] W fun e w' => e = .returned (.int .i64 (p + 1)) ∧ Below W.heap.size W w' from fun W hW => by have := rhead_any W A n c l B m d t (hcf.below hW) ch (by omega); rwa [hp] at this)
  have Hclaim := hide (show ∀ W, Below w.heap.size w W → Calls Tryz.prog 60 #[.agg #[.slice A n c, .slice B m d, .int .i64 t], .int .i64 th] W fun e w' => e = .returned (.int .i64 q) ∧ Below W.heap.size W w' from fun W hW => by have := rclaim_any W A n c l B m d t (hcf.below hW) th hth; rwa [hq] at this)
  have Hcase := hide (show ∀ W, Below w.heap.size w W → Calls Tryz.prog 82 #[.agg #[.slice A n c, .slice B m d, .int .i64 t], .int .i64 th] W fun e w' => e = .returned (.int .i64 (q + 3)) ∧ Below W.heap.size W w' from fun W hW => by have := rcase_any W A n c l B m d t (hcf.below hW) th hth; rwa [hq] at this)
  clear hcf hp hq
  rw [Mc.cells]
  go_enter Tryz.func53, Tryz.ntmps53
  go_wp2
  go_region
  go_wp2
  have U0 := fun (u : Up ((((w.alloc (.cells #[.int .i64 9, .int .i64 1, .slice A n c, .slice B m d, .int .i64 t, .int .i64 (ch : Nat), .int .i64 (th : Nat), .int .i64 ix, .int .i64 kd, .int .u64 v, .int .u64 tt, .int .u64 h, .int .i64 ok, .int .u64 ov] 81)).alloc (.cells #[.int .i64 0, .int .i64 0, .int .u64 0, .int .u64 0, .int .i64 0] 56)).alloc (.cells #[.slice A n c, .slice B m d, .int .i64 t] 30)).drew)) => E3.ofd u.2
  have c0 := fun u => (bk3 (U0 u).b3).1
  have c1 := fun u => (bk3 (U0 u).b3).2.1
  have c2 := fun u => (bk3 (U0 u).b3).2.2.1
  have HU1 := hide (fun u => Htail.out u.1 (U0 u).bel)
  have HU2 := hide (fun u => Hhead.out u.1 (U0 u).bel)
  have UU := hide U0
  clear U0
  refine wp_region_up (by kernel_rfl) (by kernel_rfl) ?_
  repeat (go_big_quiet_step (first
    | (go_at_call 7; exact up_call (HU1.out _))
    | (go_at_call 8; exact up_call (HU2.out _))))
  refine wpQuiet_nil ?_
  rintro _ ⟨u, rfl⟩
  clear c0 c1 c2 HU1 HU2
  have V1 := hide (UU.out u)
  clear UU
  generalize u.1 = w1 at *
  obtain ⟨c0, c1, c2, c3, c4, c5, c6, c7, c8, c9, c10, c11, c12, c13, f1⟩ := bk14 V1.out.b1
  obtain ⟨k0, k1, k2, -⟩ := bk3 V1.out.b3
  go_wp2_with fail
  refine (Hclaim.out _ V1.out.bel).mono ?_
  rintro e w2 ⟨rfl, hb⟩
  have V2 := hide (V1.out.next hb)
  clear hb c0 c1 c2 c3 c4 c5 c6 c7 c8 c9 c10 c11 c12 c13 f1 k0 k1 k2
  obtain ⟨c0, c1, c2, c3, c4, c5, c6, c7, c8, c9, c10, c11, c12, c13, f1⟩ := bk14 V2.out.b1
  obtain ⟨k0, k1, k2, -⟩ := bk3 V2.out.b3
  go_wp2_with fail
  clear c0 c1 c2 c3 c4 c5 c6 c7 c8 c9 c10 c11 c12 c13 f1 k0 k1 k2
  have U9 := fun (u : Up w2) => V2.out.next u.2
  have c0 := fun u => (bk14 (U9 u).b1).1
  have c1 := fun u => (bk14 (U9 u).b1).2.1
  have c2 := fun u => (bk14 (U9 u).b1).2.2.1
  have c3 := fun u => (bk14 (U9 u).b1).2.2.2.1
  have c4 := fun u => (bk14 (U9 u).b1).2.2.2.2.1
  have c5 := fun u => (bk14 (U9 u).b1).2.2.2.2.2.1
  have c6 := fun u => (bk14 (U9 u).b1).2.2.2.2.2.2.1
  have c7 := fun u => (bk14 (U9 u).b1).2.2.2.2.2.2.2.1
  have c8 := fun u => (bk14 (U9 u).b1).2.2.2.2.2.2.2.2.1
  have c9 := fun u => (bk14 (U9 u).b1).2.2.2.2.2.2.2.2.2.1
  have c10 := fun u => (bk14 (U9 u).b1).2.2.2.2.2.2.2.2.2.2.1
  have c11 := fun u => (bk14 (U9 u).b1).2.2.2.2.2.2.2.2.2.2.2.1
  have c12 := fun u => (bk14 (U9 u).b1).2.2.2.2.2.2.2.2.2.2.2.2.1
  have c13 := fun u => (bk14 (U9 u).b1).2.2.2.2.2.2.2.2.2.2.2.2.2.1
  have k0 := fun u => (bk3 (U9 u).b3).1
  have k1 := fun u => (bk3 (U9 u).b3).2.1
  have k2 := fun u => (bk3 (U9 u).b3).2.2.1
  have Gcase := hide (fun u => Hcase.out u.1 (U9 u).bel)
  have UU := hide U9
  clear U9
  refine wp_region_up_tail 7 (by kernel_rfl) (by kernel_rfl) ?_
  simp only [List.take_succ_cons, List.take_zero, List.drop_succ_cons, List.drop_zero]
  repeat (go_big_quiet_step (first
    | (go_at_call 82; exact up_call (Gcase.out _))
    | (go_at_call 78; exact up_call (access_any _ _ _ _ _))))
  refine wpQuiet_nil ?_
  intro u
  clear c0 c1 c2 c3 c4 c5 c6 c7 c8 c9 c10 c11 c12 c13 k0 k1 k2
  have V9 := hide (UU.out u)
  clear UU
  generalize u.1 = w9 at *
  have HT := hide (V9.out.b2.there (n := 5) rfl)
  go_wp2_with ((with_reducible show wpList _ _ _ _ _ _); refine wpList_store_res (by rfl) 56 _ _ (by rfl) (w.heap.size + 1) (Acc.cells ⟨6, q + 3, 0, IntKind.u64.wrap ix⟩) (by rfl) (by rfl) HT.out Tryz.ac_inf (ac_one _) ?_; intro wz HZ)
  obtain ⟨fs, hfs⟩ := Tryz.ac_und
  exact ret_stored HZ Tryz.results53 rfl HT.out hfs rfl Tryz.ac_inf rfl ⟨rfl, below_stored HZ V9.out.bel (by omega)⟩

set_option maxHeartbeats 2000000 in
set_option maxRecDepth 100000 in
theorem mnext_92 (w : World) (A : Option Addr) (n c : Nat) (B : Option Addr) (m d : Nat) (t : Int) (ch th : Nat) (ix kd v tt h ok ov : Int) (l : List Int) (hcf : Cf w A n l) (p : Int) (hp : tlN l ch = p) (hch : ch ≤ n) (hth : th ≤ 8) (q : Int) (hq : tlN l n + (th : Int) * 11 = q) :
    Calls Tryz.prog 53 #[.agg (Mc.cells A n c B m d t ⟨9, 2, ch, th, ix, kd, v, tt, h, ok, ov⟩)] w fun e w' => e = .returned (.agg (Acc.cells ⟨6, q + 2, 0, IntKind.u64.wrap kd⟩)) ∧ Below w.heap.size w w' := by
  have Htail := hide (show ∀ W, Below w.heap.size w W → Calls Tryz.prog 7 #[.agg #[.slice A n c, .slice B m d, .int .i64 t], .int .i64 ch] W fun e w' => e = .returned (.int .i64 p) ∧ Below W.heap.size W w' from fun W hW => by have := rtl_any W A n c l B m d t (hcf.below hW) ch (by omega); rwa [hp] at this)
  have Hhead := hide (show ∀ W, Below w.heap.size w W → Calls Tryz.prog 8 #[.agg #[.slice A n c, .slice B m d, .int .i64 t], .int .i64 ch] W fun e w' => e = .returned (.int .i64 (p + 1)) ∧ Below W.heap.size W w' from fun W hW => by have := rhead_any W A n c l B m d t (hcf.below hW) ch (by omega); rwa [hp] at this)
  have Hclaim := hide (show ∀ W, Below w.heap.size w W → Calls Tryz.prog 60 #[.agg #[.slice A n c, .slice B m d, .int .i64 t], .int .i64 th] W fun e w' => e = .returned (.int .i64 q) ∧ Below W.heap.size W w' from fun W hW => by have := rclaim_any W A n c l B m d t (hcf.below hW) th hth; rwa [hq] at this)
  have Hkind := hide (show ∀ W, Below w.heap.size w W → Calls Tryz.prog 83 #[.agg #[.slice A n c, .slice B m d, .int .i64 t], .int .i64 th] W fun e w' => e = .returned (.int .i64 (q + 2)) ∧ Below W.heap.size W w' from fun W hW => by have := rkind_any W A n c l B m d t (hcf.below hW) th hth; rwa [hq] at this)
  clear hcf hp hq
  rw [Mc.cells]
  go_enter Tryz.func53, Tryz.ntmps53
  go_wp2
  go_region
  go_wp2
  have U0 := fun (u : Up ((((w.alloc (.cells #[.int .i64 9, .int .i64 2, .slice A n c, .slice B m d, .int .i64 t, .int .i64 (ch : Nat), .int .i64 (th : Nat), .int .i64 ix, .int .i64 kd, .int .u64 v, .int .u64 tt, .int .u64 h, .int .i64 ok, .int .u64 ov] 81)).alloc (.cells #[.int .i64 0, .int .i64 0, .int .u64 0, .int .u64 0, .int .i64 0] 56)).alloc (.cells #[.slice A n c, .slice B m d, .int .i64 t] 30)).drew)) => E3.ofd u.2
  have c0 := fun u => (bk3 (U0 u).b3).1
  have c1 := fun u => (bk3 (U0 u).b3).2.1
  have c2 := fun u => (bk3 (U0 u).b3).2.2.1
  have HU1 := hide (fun u => Htail.out u.1 (U0 u).bel)
  have HU2 := hide (fun u => Hhead.out u.1 (U0 u).bel)
  have UU := hide U0
  clear U0
  refine wp_region_up (by kernel_rfl) (by kernel_rfl) ?_
  repeat (go_big_quiet_step (first
    | (go_at_call 7; exact up_call (HU1.out _))
    | (go_at_call 8; exact up_call (HU2.out _))))
  refine wpQuiet_nil ?_
  rintro _ ⟨u, rfl⟩
  clear c0 c1 c2 HU1 HU2
  have V1 := hide (UU.out u)
  clear UU
  generalize u.1 = w1 at *
  obtain ⟨c0, c1, c2, c3, c4, c5, c6, c7, c8, c9, c10, c11, c12, c13, f1⟩ := bk14 V1.out.b1
  obtain ⟨k0, k1, k2, -⟩ := bk3 V1.out.b3
  go_wp2_with fail
  refine (Hclaim.out _ V1.out.bel).mono ?_
  rintro e w2 ⟨rfl, hb⟩
  have V2 := hide (V1.out.next hb)
  clear hb c0 c1 c2 c3 c4 c5 c6 c7 c8 c9 c10 c11 c12 c13 f1 k0 k1 k2
  obtain ⟨c0, c1, c2, c3, c4, c5, c6, c7, c8, c9, c10, c11, c12, c13, f1⟩ := bk14 V2.out.b1
  obtain ⟨k0, k1, k2, -⟩ := bk3 V2.out.b3
  go_wp2_with fail
  clear c0 c1 c2 c3 c4 c5 c6 c7 c8 c9 c10 c11 c12 c13 f1 k0 k1 k2
  have U9 := fun (u : Up w2) => V2.out.next u.2
  have c0 := fun u => (bk14 (U9 u).b1).1
  have c1 := fun u => (bk14 (U9 u).b1).2.1
  have c2 := fun u => (bk14 (U9 u).b1).2.2.1
  have c3 := fun u => (bk14 (U9 u).b1).2.2.2.1
  have c4 := fun u => (bk14 (U9 u).b1).2.2.2.2.1
  have c5 := fun u => (bk14 (U9 u).b1).2.2.2.2.2.1
  have c6 := fun u => (bk14 (U9 u).b1).2.2.2.2.2.2.1
  have c7 := fun u => (bk14 (U9 u).b1).2.2.2.2.2.2.2.1
  have c8 := fun u => (bk14 (U9 u).b1).2.2.2.2.2.2.2.2.1
  have c9 := fun u => (bk14 (U9 u).b1).2.2.2.2.2.2.2.2.2.1
  have c10 := fun u => (bk14 (U9 u).b1).2.2.2.2.2.2.2.2.2.2.1
  have c11 := fun u => (bk14 (U9 u).b1).2.2.2.2.2.2.2.2.2.2.2.1
  have c12 := fun u => (bk14 (U9 u).b1).2.2.2.2.2.2.2.2.2.2.2.2.1
  have c13 := fun u => (bk14 (U9 u).b1).2.2.2.2.2.2.2.2.2.2.2.2.2.1
  have k0 := fun u => (bk3 (U9 u).b3).1
  have k1 := fun u => (bk3 (U9 u).b3).2.1
  have k2 := fun u => (bk3 (U9 u).b3).2.2.1
  have Gkind := hide (fun u => Hkind.out u.1 (U9 u).bel)
  have UU := hide U9
  clear U9
  refine wp_region_up_tail 7 (by kernel_rfl) (by kernel_rfl) ?_
  simp only [List.take_succ_cons, List.take_zero, List.drop_succ_cons, List.drop_zero]
  repeat (go_big_quiet_step (first
    | (go_at_call 83; exact up_call (Gkind.out _))
    | (go_at_call 78; exact up_call (access_any _ _ _ _ _))))
  refine wpQuiet_nil ?_
  intro u
  clear c0 c1 c2 c3 c4 c5 c6 c7 c8 c9 c10 c11 c12 c13 k0 k1 k2
  have V9 := hide (UU.out u)
  clear UU
  generalize u.1 = w9 at *
  have HT := hide (V9.out.b2.there (n := 5) rfl)
  go_wp2_with ((with_reducible show wpList _ _ _ _ _ _); refine wpList_store_res (by rfl) 56 _ _ (by rfl) (w.heap.size + 1) (Acc.cells ⟨6, q + 2, 0, IntKind.u64.wrap kd⟩) (by rfl) (by rfl) HT.out Tryz.ac_inf (ac_one _) ?_; intro wz HZ)
  obtain ⟨fs, hfs⟩ := Tryz.ac_und
  exact ret_stored HZ Tryz.results53 rfl HT.out hfs rfl Tryz.ac_inf rfl ⟨rfl, below_stored HZ V9.out.bel (by omega)⟩

set_option maxHeartbeats 2000000 in
set_option maxRecDepth 100000 in
theorem mnext_93 (w : World) (A : Option Addr) (n c : Nat) (B : Option Addr) (m d : Nat) (t : Int) (ch th : Nat) (ix kd v tt h ok ov : Int) (l : List Int) (hcf : Cf w A n l) (p : Int) (hp : tlN l ch = p) (hch : ch ≤ n) (hth : th ≤ 8) (q : Int) (hq : tlN l n + (th : Int) * 11 = q) :
    Calls Tryz.prog 53 #[.agg (Mc.cells A n c B m d t ⟨9, 3, ch, th, ix, kd, v, tt, h, ok, ov⟩)] w fun e w' => e = .returned (.agg (Acc.cells ⟨6, q + 4, 0, v⟩)) ∧ Below w.heap.size w w' := by
  have Htail := hide (show ∀ W, Below w.heap.size w W → Calls Tryz.prog 7 #[.agg #[.slice A n c, .slice B m d, .int .i64 t], .int .i64 ch] W fun e w' => e = .returned (.int .i64 p) ∧ Below W.heap.size W w' from fun W hW => by have := rtl_any W A n c l B m d t (hcf.below hW) ch (by omega); rwa [hp] at this)
  have Hhead := hide (show ∀ W, Below w.heap.size w W → Calls Tryz.prog 8 #[.agg #[.slice A n c, .slice B m d, .int .i64 t], .int .i64 ch] W fun e w' => e = .returned (.int .i64 (p + 1)) ∧ Below W.heap.size W w' from fun W hW => by have := rhead_any W A n c l B m d t (hcf.below hW) ch (by omega); rwa [hp] at this)
  have Hclaim := hide (show ∀ W, Below w.heap.size w W → Calls Tryz.prog 60 #[.agg #[.slice A n c, .slice B m d, .int .i64 t], .int .i64 th] W fun e w' => e = .returned (.int .i64 q) ∧ Below W.heap.size W w' from fun W hW => by have := rclaim_any W A n c l B m d t (hcf.below hW) th hth; rwa [hq] at this)
  have Hvalue := hide (show ∀ W, Below w.heap.size w W → Calls Tryz.prog 84 #[.agg #[.slice A n c, .slice B m d, .int .i64 t], .int .i64 th] W fun e w' => e = .returned (.int .i64 (q + 4)) ∧ Below W.heap.size W w' from fun W hW => by have := rvalue_any W A n c l B m d t (hcf.below hW) th hth; rwa [hq] at this)
  clear hcf hp hq
  rw [Mc.cells]
  go_enter Tryz.func53, Tryz.ntmps53
  go_wp2
  go_region
  go_wp2
  have U0 := fun (u : Up ((((w.alloc (.cells #[.int .i64 9, .int .i64 3, .slice A n c, .slice B m d, .int .i64 t, .int .i64 (ch : Nat), .int .i64 (th : Nat), .int .i64 ix, .int .i64 kd, .int .u64 v, .int .u64 tt, .int .u64 h, .int .i64 ok, .int .u64 ov] 81)).alloc (.cells #[.int .i64 0, .int .i64 0, .int .u64 0, .int .u64 0, .int .i64 0] 56)).alloc (.cells #[.slice A n c, .slice B m d, .int .i64 t] 30)).drew)) => E3.ofd u.2
  have c0 := fun u => (bk3 (U0 u).b3).1
  have c1 := fun u => (bk3 (U0 u).b3).2.1
  have c2 := fun u => (bk3 (U0 u).b3).2.2.1
  have HU1 := hide (fun u => Htail.out u.1 (U0 u).bel)
  have HU2 := hide (fun u => Hhead.out u.1 (U0 u).bel)
  have UU := hide U0
  clear U0
  refine wp_region_up (by kernel_rfl) (by kernel_rfl) ?_
  repeat (go_big_quiet_step (first
    | (go_at_call 7; exact up_call (HU1.out _))
    | (go_at_call 8; exact up_call (HU2.out _))))
  refine wpQuiet_nil ?_
  rintro _ ⟨u, rfl⟩
  clear c0 c1 c2 HU1 HU2
  have V1 := hide (UU.out u)
  clear UU
  generalize u.1 = w1 at *
  obtain ⟨c0, c1, c2, c3, c4, c5, c6, c7, c8, c9, c10, c11, c12, c13, f1⟩ := bk14 V1.out.b1
  obtain ⟨k0, k1, k2, -⟩ := bk3 V1.out.b3
  go_wp2_with fail
  refine (Hclaim.out _ V1.out.bel).mono ?_
  rintro e w2 ⟨rfl, hb⟩
  have V2 := hide (V1.out.next hb)
  clear hb c0 c1 c2 c3 c4 c5 c6 c7 c8 c9 c10 c11 c12 c13 f1 k0 k1 k2
  obtain ⟨c0, c1, c2, c3, c4, c5, c6, c7, c8, c9, c10, c11, c12, c13, f1⟩ := bk14 V2.out.b1
  obtain ⟨k0, k1, k2, -⟩ := bk3 V2.out.b3
  go_wp2_with fail
  clear c0 c1 c2 c3 c4 c5 c6 c7 c8 c9 c10 c11 c12 c13 f1 k0 k1 k2
  have U9 := fun (u : Up w2) => V2.out.next u.2
  have c0 := fun u => (bk14 (U9 u).b1).1
  have c1 := fun u => (bk14 (U9 u).b1).2.1
  have c2 := fun u => (bk14 (U9 u).b1).2.2.1
  have c3 := fun u => (bk14 (U9 u).b1).2.2.2.1
  have c4 := fun u => (bk14 (U9 u).b1).2.2.2.2.1
  have c5 := fun u => (bk14 (U9 u).b1).2.2.2.2.2.1
  have c6 := fun u => (bk14 (U9 u).b1).2.2.2.2.2.2.1
  have c7 := fun u => (bk14 (U9 u).b1).2.2.2.2.2.2.2.1
  have c8 := fun u => (bk14 (U9 u).b1).2.2.2.2.2.2.2.2.1
  have c9 := fun u => (bk14 (U9 u).b1).2.2.2.2.2.2.2.2.2.1
  have c10 := fun u => (bk14 (U9 u).b1).2.2.2.2.2.2.2.2.2.2.1
  have c11 := fun u => (bk14 (U9 u).b1).2.2.2.2.2.2.2.2.2.2.2.1
  have c12 := fun u => (bk14 (U9 u).b1).2.2.2.2.2.2.2.2.2.2.2.2.1
  have c13 := fun u => (bk14 (U9 u).b1).2.2.2.2.2.2.2.2.2.2.2.2.2.1
  have k0 := fun u => (bk3 (U9 u).b3).1
  have k1 := fun u => (bk3 (U9 u).b3).2.1
  have k2 := fun u => (bk3 (U9 u).b3).2.2.1
  have Gvalue := hide (fun u => Hvalue.out u.1 (U9 u).bel)
  have UU := hide U9
  clear U9
  refine wp_region_up_tail 6 (by kernel_rfl) (by kernel_rfl) ?_
  simp only [List.take_succ_cons, List.take_zero, List.drop_succ_cons, List.drop_zero]
  repeat (go_big_quiet_step (first
    | (go_at_call 84; exact up_call (Gvalue.out _))
    | (go_at_call 78; exact up_call (access_any _ _ _ _ _))))
  refine wpQuiet_nil ?_
  intro u
  clear c0 c1 c2 c3 c4 c5 c6 c7 c8 c9 c10 c11 c12 c13 k0 k1 k2
  have V9 := hide (UU.out u)
  clear UU
  generalize u.1 = w9 at *
  have HT := hide (V9.out.b2.there (n := 5) rfl)
  go_wp2_with ((with_reducible show wpList _ _ _ _ _ _); refine wpList_store_res (by rfl) 56 _ _ (by rfl) (w.heap.size + 1) (Acc.cells ⟨6, q + 4, 0, v⟩) (by rfl) (by rfl) HT.out Tryz.ac_inf (ac_one _) ?_; intro wz HZ)
  obtain ⟨fs, hfs⟩ := Tryz.ac_und
  exact ret_stored HZ Tryz.results53 rfl HT.out hfs rfl Tryz.ac_inf rfl ⟨rfl, below_stored HZ V9.out.bel (by omega)⟩

set_option maxHeartbeats 2000000 in
set_option maxRecDepth 100000 in
theorem mnext_94 (w : World) (A : Option Addr) (n c : Nat) (B : Option Addr) (m d : Nat) (t : Int) (ch th : Nat) (ix kd v tt h ok ov : Int) (l : List Int) (hcf : Cf w A n l) (p : Int) (hp : tlN l ch = p) (hch : ch ≤ n) (hth : th ≤ 8) (q : Int) (hq : tlN l n + (th : Int) * 11 = q) :
    Calls Tryz.prog 53 #[.agg (Mc.cells A n c B m d t ⟨9, 4, ch, th, ix, kd, v, tt, h, ok, ov⟩)] w fun e w' => e = .returned (.agg (Acc.cells ⟨2, q, 0, 3⟩)) ∧ Below w.heap.size w w' := by
  have Htail := hide (show ∀ W, Below w.heap.size w W → Calls Tryz.prog 7 #[.agg #[.slice A n c, .slice B m d, .int .i64 t], .int .i64 ch] W fun e w' => e = .returned (.int .i64 p) ∧ Below W.heap.size W w' from fun W hW => by have := rtl_any W A n c l B m d t (hcf.below hW) ch (by omega); rwa [hp] at this)
  have Hhead := hide (show ∀ W, Below w.heap.size w W → Calls Tryz.prog 8 #[.agg #[.slice A n c, .slice B m d, .int .i64 t], .int .i64 ch] W fun e w' => e = .returned (.int .i64 (p + 1)) ∧ Below W.heap.size W w' from fun W hW => by have := rhead_any W A n c l B m d t (hcf.below hW) ch (by omega); rwa [hp] at this)
  have Hclaim := hide (show ∀ W, Below w.heap.size w W → Calls Tryz.prog 60 #[.agg #[.slice A n c, .slice B m d, .int .i64 t], .int .i64 th] W fun e w' => e = .returned (.int .i64 q) ∧ Below W.heap.size W w' from fun W hW => by have := rclaim_any W A n c l B m d t (hcf.below hW) th hth; rwa [hq] at this)
  clear hcf hp hq
  rw [Mc.cells]
  go_enter Tryz.func53, Tryz.ntmps53
  go_wp2
  go_region
  go_wp2
  have U0 := fun (u : Up ((((w.alloc (.cells #[.int .i64 9, .int .i64 4, .slice A n c, .slice B m d, .int .i64 t, .int .i64 (ch : Nat), .int .i64 (th : Nat), .int .i64 ix, .int .i64 kd, .int .u64 v, .int .u64 tt, .int .u64 h, .int .i64 ok, .int .u64 ov] 81)).alloc (.cells #[.int .i64 0, .int .i64 0, .int .u64 0, .int .u64 0, .int .i64 0] 56)).alloc (.cells #[.slice A n c, .slice B m d, .int .i64 t] 30)).drew)) => E3.ofd u.2
  have c0 := fun u => (bk3 (U0 u).b3).1
  have c1 := fun u => (bk3 (U0 u).b3).2.1
  have c2 := fun u => (bk3 (U0 u).b3).2.2.1
  have HU1 := hide (fun u => Htail.out u.1 (U0 u).bel)
  have HU2 := hide (fun u => Hhead.out u.1 (U0 u).bel)
  have UU := hide U0
  clear U0
  refine wp_region_up (by kernel_rfl) (by kernel_rfl) ?_
  repeat (go_big_quiet_step (first
    | (go_at_call 7; exact up_call (HU1.out _))
    | (go_at_call 8; exact up_call (HU2.out _))))
  refine wpQuiet_nil ?_
  rintro _ ⟨u, rfl⟩
  clear c0 c1 c2 HU1 HU2
  have V1 := hide (UU.out u)
  clear UU
  generalize u.1 = w1 at *
  obtain ⟨c0, c1, c2, c3, c4, c5, c6, c7, c8, c9, c10, c11, c12, c13, f1⟩ := bk14 V1.out.b1
  obtain ⟨k0, k1, k2, -⟩ := bk3 V1.out.b3
  go_wp2_with fail
  refine (Hclaim.out _ V1.out.bel).mono ?_
  rintro e w2 ⟨rfl, hb⟩
  have V2 := hide (V1.out.next hb)
  clear hb c0 c1 c2 c3 c4 c5 c6 c7 c8 c9 c10 c11 c12 c13 f1 k0 k1 k2
  obtain ⟨c0, c1, c2, c3, c4, c5, c6, c7, c8, c9, c10, c11, c12, c13, f1⟩ := bk14 V2.out.b1
  obtain ⟨k0, k1, k2, -⟩ := bk3 V2.out.b3
  go_wp2_with fail
  refine (access_any _ _ _ _ _).mono ?_
  rintro e w9 ⟨rfl, hb⟩
  have V9 := hide (V2.out.next hb)
  clear hb c0 c1 c2 c3 c4 c5 c6 c7 c8 c9 c10 c11 c12 c13 f1 k0 k1 k2
  have HT := hide (V9.out.b2.there (n := 5) rfl)
  go_wp2_with ((with_reducible show wpList _ _ _ _ _ _); refine wpList_store_res (by rfl) 56 _ _ (by rfl) (w.heap.size + 1) (Acc.cells ⟨2, q, 0, 3⟩) (by rfl) (by rfl) HT.out Tryz.ac_inf (ac_one _) ?_; intro wz HZ)
  obtain ⟨fs, hfs⟩ := Tryz.ac_und
  exact ret_stored HZ Tryz.results53 rfl HT.out hfs rfl Tryz.ac_inf rfl ⟨rfl, below_stored HZ V9.out.bel (by omega)⟩

set_option maxHeartbeats 2000000 in
set_option maxRecDepth 100000 in
theorem mnext_95 (w : World) (A : Option Addr) (n c : Nat) (B : Option Addr) (m d : Nat) (t : Int) (ch th : Nat) (ix kd v tt h ok ov : Int) (l : List Int) (hcf : Cf w A n l) (p : Int) (hp : tlN l ch = p) (hch : ch ≤ n) (hth : th ≤ 8) (q : Int) (hq : tlN l n + (th : Int) * 11 = q) :
    Calls Tryz.prog 53 #[.agg (Mc.cells A n c B m d t ⟨9, 5, ch, th, ix, kd, v, tt, h, ok, ov⟩)] w fun e w' => e = .returned (.agg (Acc.cells ⟨2, q + 1, 0, 1⟩)) ∧ Below w.heap.size w w' := by
  have Htail := hide (show ∀ W, Below w.heap.size w W → Calls Tryz.prog 7 #[.agg #[.slice A n c, .slice B m d, .int .i64 t], .int .i64 ch] W fun e w' => e = .returned (.int .i64 p) ∧ Below W.heap.size W w' from fun W hW => by have := rtl_any W A n c l B m d t (hcf.below hW) ch (by omega); rwa [hp] at this)
  have Hhead := hide (show ∀ W, Below w.heap.size w W → Calls Tryz.prog 8 #[.agg #[.slice A n c, .slice B m d, .int .i64 t], .int .i64 ch] W fun e w' => e = .returned (.int .i64 (p + 1)) ∧ Below W.heap.size W w' from fun W hW => by have := rhead_any W A n c l B m d t (hcf.below hW) ch (by omega); rwa [hp] at this)
  have Hclaim := hide (show ∀ W, Below w.heap.size w W → Calls Tryz.prog 60 #[.agg #[.slice A n c, .slice B m d, .int .i64 t], .int .i64 th] W fun e w' => e = .returned (.int .i64 q) ∧ Below W.heap.size W w' from fun W hW => by have := rclaim_any W A n c l B m d t (hcf.below hW) th hth; rwa [hq] at this)
  have Hflag := hide (show ∀ W, Below w.heap.size w W → Calls Tryz.prog 85 #[.agg #[.slice A n c, .slice B m d, .int .i64 t], .int .i64 th] W fun e w' => e = .returned (.int .i64 (q + 1)) ∧ Below W.heap.size W w' from fun W hW => by have := rflag_any W A n c l B m d t (hcf.below hW) th hth; rwa [hq] at this)
  clear hcf hp hq
  rw [Mc.cells]
  go_enter Tryz.func53, Tryz.ntmps53
  go_wp2
  go_region
  go_wp2
  have U0 := fun (u : Up ((((w.alloc (.cells #[.int .i64 9, .int .i64 5, .slice A n c, .slice B m d, .int .i64 t, .int .i64 (ch : Nat), .int .i64 (th : Nat), .int .i64 ix, .int .i64 kd, .int .u64 v, .int .u64 tt, .int .u64 h, .int .i64 ok, .int .u64 ov] 81)).alloc (.cells #[.int .i64 0, .int .i64 0, .int .u64 0, .int .u64 0, .int .i64 0] 56)).alloc (.cells #[.slice A n c, .slice B m d, .int .i64 t] 30)).drew)) => E3.ofd u.2
  have c0 := fun u => (bk3 (U0 u).b3).1
  have c1 := fun u => (bk3 (U0 u).b3).2.1
  have c2 := fun u => (bk3 (U0 u).b3).2.2.1
  have HU1 := hide (fun u => Htail.out u.1 (U0 u).bel)
  have HU2 := hide (fun u => Hhead.out u.1 (U0 u).bel)
  have UU := hide U0
  clear U0
  refine wp_region_up (by kernel_rfl) (by kernel_rfl) ?_
  repeat (go_big_quiet_step (first
    | (go_at_call 7; exact up_call (HU1.out _))
    | (go_at_call 8; exact up_call (HU2.out _))))
  refine wpQuiet_nil ?_
  rintro _ ⟨u, rfl⟩
  clear c0 c1 c2 HU1 HU2
  have V1 := hide (UU.out u)
  clear UU
  generalize u.1 = w1 at *
  obtain ⟨c0, c1, c2, c3, c4, c5, c6, c7, c8, c9, c10, c11, c12, c13, f1⟩ := bk14 V1.out.b1
  obtain ⟨k0, k1, k2, -⟩ := bk3 V1.out.b3
  go_wp2_with fail
  refine (Hclaim.out _ V1.out.bel).mono ?_
  rintro e w2 ⟨rfl, hb⟩
  have V2 := hide (V1.out.next hb)
  clear hb c0 c1 c2 c3 c4 c5 c6 c7 c8 c9 c10 c11 c12 c13 f1 k0 k1 k2
  obtain ⟨c0, c1, c2, c3, c4, c5, c6, c7, c8, c9, c10, c11, c12, c13, f1⟩ := bk14 V2.out.b1
  obtain ⟨k0, k1, k2, -⟩ := bk3 V2.out.b3
  go_wp2_with fail
  refine (Hflag.out _ V2.out.bel).mono ?_
  rintro e w3 ⟨rfl, hb⟩
  have V3 := hide (V2.out.next hb)
  clear hb c0 c1 c2 c3 c4 c5 c6 c7 c8 c9 c10 c11 c12 c13 f1 k0 k1 k2
  obtain ⟨c0, c1, c2, c3, c4, c5, c6, c7, c8, c9, c10, c11, c12, c13, f1⟩ := bk14 V3.out.b1
  obtain ⟨k0, k1, k2, -⟩ := bk3 V3.out.b3
  go_wp2_with fail
  refine (access_any _ _ _ _ _).mono ?_
  rintro e w9 ⟨rfl, hb⟩
  have V9 := hide (V3.out.next hb)
  clear hb c0 c1 c2 c3 c4 c5 c6 c7 c8 c9 c10 c11 c12 c13 f1 k0 k1 k2
  have HT := hide (V9.out.b2.there (n := 5) rfl)
  go_wp2_with ((with_reducible show wpList _ _ _ _ _ _); refine wpList_store_res (by rfl) 56 _ _ (by rfl) (w.heap.size + 1) (Acc.cells ⟨2, q + 1, 0, 1⟩) (by rfl) (by rfl) HT.out Tryz.ac_inf (ac_one _) ?_; intro wz HZ)
  obtain ⟨fs, hfs⟩ := Tryz.ac_und
  exact ret_stored HZ Tryz.results53 rfl HT.out hfs rfl Tryz.ac_inf rfl ⟨rfl, below_stored HZ V9.out.bel (by omega)⟩
end Go.Proofs.YtepngbdjobckbaaGreat
end
