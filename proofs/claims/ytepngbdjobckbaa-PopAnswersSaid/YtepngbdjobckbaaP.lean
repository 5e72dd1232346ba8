/- -/
import Derived.Test.YtepngbdjobckbaaN
import Derived.RegionTactic
import Derived.BigRegion
namespace Go.Proofs.Ytepngbdjobckbaa
open Go.RowKit
set_option linter.unusedVariables false
attribute [local irreducible] Go.bits

theorem E3.ofd {w w2 : World} {t1 t2 t3 : TypeId} {c1 c2 c3 : Array Value} (hb : Below (((w.alloc (.cells c1 t1)).alloc (.cells c2 t2)).alloc (.cells c3 t3)).drew.heap.size (((w.alloc (.cells c1 t1)).alloc (.cells c2 t2)).alloc (.cells c3 t3)).drew w2) : E3 w w2 t1 t2 t3 c1 c2 c3 :=
  E3.of (w := w) ⟨hb.os, hb.tape, hb.output, hb.size, hb.block⟩
theorem Try.ac_und : ∃ fs, Try.prog.underlying 69 = some (.struct fs) := ⟨_, Try.underlying69⟩
theorem Try.ac_inf : (Try.prog.info? 69).map (·.size) = some 5 := by kernel_rfl
theorem ac_one (x : Acc) : (Acc.cells x).all (·.oneCell') = true := by
  refine all_oneCell_toArray (cs := [_, _, _, _, _]) fun v hv => ?_
  simp only [List.mem_cons, List.not_mem_nil, or_false] at hv
  rcases hv with rfl | rfl | rfl | rfl | rfl <;> rfl
theorem bk3 {w : World} {g : Nat} {t : TypeId} {a0 a1 a2 : Value} (h : Bk w g t #[a0, a1, a2]) :
    w.cell? ⟨g, 0, none⟩ = some a0 ∧ w.cell? ⟨g, 1, none⟩ = some a1 ∧ w.cell? ⟨g, 2, none⟩ = some a2 ∧ ∀ i, w.frozen? ⟨g, i, none⟩ = false :=
  ⟨h.cell 0, h.cell 1, h.cell 2, h.frozen⟩
set_option maxHeartbeats 2000000 in
set_option maxRecDepth 100000 in
theorem mnext_1 (w : World) (A : Option Addr) (n c : Nat) (B : Option Addr) (m d : Nat) (t : Int) (ch th : Nat) (ix kd v tt h ok ov : Int) (l : List Int) (hcf : Cf w A n l) (p : Int) (hp : tlN l ch = p) (hch : ch < n) :
    Calls Try.prog 50 #[.agg (Mc.cells A n c B m d t ⟨1, 1, ch, th, ix, kd, v, tt, h, ok, ov⟩)] w fun e w' => e = .returned (.agg (Acc.cells ⟨3, p + 2, 0, 1⟩)) ∧ Below w.heap.size w w' := by
  have Htail := hide (show ∀ W, Below w.heap.size w W → Calls Try.prog 63 #[.agg #[.slice A n c, .slice B m d, .int .i64 t], .int .i64 ch] W fun e w' => e = .returned (.int .i64 p) ∧ Below W.heap.size W w' from fun W hW => by have := rtl_any W A n c l B m d t (hcf.below hW) ch (by omega); rwa [hp] at this)
  have Hhead := hide (show ∀ W, Below w.heap.size w W → Calls Try.prog 64 #[.agg #[.slice A n c, .slice B m d, .int .i64 t], .int .i64 ch] W fun e w' => e = .returned (.int .i64 (p + 1)) ∧ Below W.heap.size W w' from fun W hW => by have := rhead_any W A n c l B m d t (hcf.below hW) ch (by omega); rwa [hp] at this)
  have Hlock := hide (show ∀ W, Below w.heap.size w W → Calls Try.prog 92 #[.agg #[.slice A n c, .slice B m d, .int .i64 t], .int .i64 ch] W fun e w' => e = .returned (.int .i64 (p + 2)) ∧ Below W.heap.size W w' from fun W hW => by have := rlock_any W A n c l B m d t (hcf.below hW) ch (by omega); rwa [hp] at this)
  clear hcf hp
  rw [Mc.cells]
  go_enter Try.func50, Try.ntmps50
  go_wp2
  go_region
  go_wp2
  have U0 := fun (u : Up ((((w.alloc (.cells #[.int .i64 1, .int .i64 1, .slice A n c, .slice B m d, .int .i64 t, .int .i64 (ch : Nat), .int .i64 (th : Nat), .int .i64 ix, .int .i64 kd, .int .u64 v, .int .u64 tt, .int .u64 h, .int .i64 ok, .int .u64 ov] 58)).alloc (.cells #[.int .i64 0, .int .i64 0, .int .u64 0, .int .u64 0, .int .i64 0] 69)).alloc (.cells #[.slice A n c, .slice B m d, .int .i64 t] 36)).drew)) => E3.ofd u.2
  have c0 := fun u => (bk3 (U0 u).b3).1
  have c1 := fun u => (bk3 (U0 u).b3).2.1
  have c2 := fun u => (bk3 (U0 u).b3).2.2.1
  have HU1 := hide (fun u => Htail.out u.1 (U0 u).bel)
  have HU2 := hide (fun u => Hhead.out u.1 (U0 u).bel)
  have UU := hide U0
  clear U0
  refine wp_region_up (by kernel_rfl) (by kernel_rfl) ?_
  repeat (go_big_quiet_step (first
    | (go_at_call 63; exact up_call (HU1.out _))
    | (go_at_call 64; exact up_call (HU2.out _))))
  refine wpQuiet_nil ?_
  rintro _ ⟨u, rfl⟩
  clear c0 c1 c2 HU1 HU2
  have V1 := hide (UU.out u)
  clear UU
  generalize u.1 = w1 at *
  obtain ⟨c0, c1, c2, c3, c4, c5, c6, c7, c8, c9, c10, c11, c12, c13, f1⟩ := bk14 V1.out.b1
  obtain ⟨k0, k1, k2, -⟩ := bk3 V1.out.b3
  go_wp2_with fail
  refine (Hlock.out _ V1.out.bel).mono ?_
  rintro e w2 ⟨rfl, hb⟩
  have V2 := hide (V1.out.next hb)
  clear hb c0 c1 c2 c3 c4 c5 c6 c7 c8 c9 c10 c11 c12 c13 f1 k0 k1 k2
  obtain ⟨c0, c1, c2, c3, c4, c5, c6, c7, c8, c9, c10, c11, c12, c13, f1⟩ := bk14 V2.out.b1
  obtain ⟨k0, k1, k2, -⟩ := bk3 V2.out.b3
  go_wp2_with fail
  refine (access_any _ _ _ _ _).mono ?_
  rintro e w9 ⟨rfl, hb⟩
  have V9 := hide (V2.out.next hb)
  clear hb c0 c1 c2 c3 c4 c5 c6 c7 c8 c9 c10 c11 c12 c13 f1 k0 k1 k2
  have HT := hide (V9.out.b2.there (n := 5) rfl)
  go_wp2_with ((with_reducible show wpList _ _ _ _ _ _); refine wpList_store_res (by rfl) 69 _ _ (by rfl) (w.heap.size + 1) (Acc.cells ⟨3, p + 2, 0, 1⟩) (by rfl) (by rfl) HT.out Try.ac_inf (ac_one _) ?_; intro wz HZ)
  obtain ⟨fs, hfs⟩ := Try.ac_und
  exact ret_stored HZ Try.results50 rfl HT.out hfs rfl Try.ac_inf rfl ⟨rfl, below_stored HZ V9.out.bel (by omega)⟩

set_option maxHeartbeats 2000000 in
set_option maxRecDepth 100000 in
theorem mnext_2 (w : World) (A : Option Addr) (n c : Nat) (B : Option Addr) (m d : Nat) (t : Int) (ch th : Nat) (ix kd v tt h ok ov : Int) (l : List Int) (hcf : Cf w A n l) (p : Int) (hp : tlN l ch = p) (hch : ch < n) :
    Calls Try.prog 50 #[.agg (Mc.cells A n c B m d t ⟨2, 1, ch, th, ix, kd, v, tt, h, ok, ov⟩)] w fun e w' => e = .returned (.agg (Acc.cells ⟨2, p + 2, 0, 0⟩)) ∧ Below w.heap.size w w' := by
  have Htail := hide (show ∀ W, Below w.heap.size w W → Calls Try.prog 63 #[.agg #[.slice A n c, .slice B m d, .int .i64 t], .int .i64 ch] W fun e w' => e = .returned (.int .i64 p) ∧ Below W.heap.size W w' from fun W hW => by have := rtl_any W A n c l B m d t (hcf.below hW) ch (by omega); rwa [hp] at this)
  have Hhead := hide (show ∀ W, Below w.heap.size w W → Calls Try.prog 64 #[.agg #[.slice A n c, .slice B m d, .int .i64 t], .int .i64 ch] W fun e w' => e = .returned (.int .i64 (p + 1)) ∧ Below W.heap.size W w' from fun W hW => by have := rhead_any W A n c l B m d t (hcf.below hW) ch (by omega); rwa [hp] at this)
  have Hlock := hide (show ∀ W, Below w.heap.size w W → Calls Try.prog 92 #[.agg #[.slice A n c, .slice B m d, .int .i64 t], .int .i64 ch] W fun e w' => e = .returned (.int .i64 (p + 2)) ∧ Below W.heap.size W w' from fun W hW => by have := rlock_any W A n c l B m d t (hcf.below hW) ch (by omega); rwa [hp] at this)
  clear hcf hp
  rw [Mc.cells]
  go_enter Try.func50, Try.ntmps50
  go_wp2
  go_region
  go_wp2
  have U0 := fun (u : Up ((((w.alloc (.cells #[.int .i64 2, .int .i64 1, .slice A n c, .slice B m d, .int .i64 t, .int .i64 (ch : Nat), .int .i64 (th : Nat), .int .i64 ix, .int .i64 kd, .int .u64 v, .int .u64 tt, .int .u64 h, .int .i64 ok, .int .u64 ov] 58)).alloc (.cells #[.int .i64 0, .int .i64 0, .int .u64 0, .int .u64 0, .int .i64 0] 69)).alloc (.cells #[.slice A n c, .slice B m d, .int .i64 t] 36)).drew)) => E3.ofd u.2
  have c0 := fun u => (bk3 (U0 u).b3).1
  have c1 := fun u => (bk3 (U0 u).b3).2.1
  have c2 := fun u => (bk3 (U0 u).b3).2.2.1
  have HU1 := hide (fun u => Htail.out u.1 (U0 u).bel)
  have HU2 := hide (fun u => Hhead.out u.1 (U0 u).bel)
  have UU := hide U0
  clear U0
  refine wp_region_up (by kernel_rfl) (by kernel_rfl) ?_
  repeat (go_big_quiet_step (first
    | (go_at_call 63; exact up_call (HU1.out _))
    | (go_at_call 64; exact up_call (HU2.out _))))
  refine wpQuiet_nil ?_
  rintro _ ⟨u, rfl⟩
  clear c0 c1 c2 HU1 HU2
  have V1 := hide (UU.out u)
  clear UU
  generalize u.1 = w1 at *
  obtain ⟨c0, c1, c2, c3, c4, c5, c6, c7, c8, c9, c10, c11, c12, c13, f1⟩ := bk14 V1.out.b1
  obtain ⟨k0, k1, k2, -⟩ := bk3 V1.out.b3
  go_wp2_with fail
  refine (Hlock.out _ V1.out.bel).mono ?_
  rintro e w2 ⟨rfl, hb⟩
  have V2 := hide (V1.out.next hb)
  clear hb c0 c1 c2 c3 c4 c5 c6 c7 c8 c9 c10 c11 c12 c13 f1 k0 k1 k2
  obtain ⟨c0, c1, c2, c3, c4, c5, c6, c7, c8, c9, c10, c11, c12, c13, f1⟩ := bk14 V2.out.b1
  obtain ⟨k0, k1, k2, -⟩ := bk3 V2.out.b3
  go_wp2_with fail
  refine (access_any _ _ _ _ _).mono ?_
  rintro e w9 ⟨rfl, hb⟩
  have V9 := hide (V2.out.next hb)
  clear hb c0 c1 c2 c3 c4 c5 c6 c7 c8 c9 c10 c11 c12 c13 f1 k0 k1 k2
  have HT := hide (V9.out.b2.there (n := 5) rfl)
  go_wp2_with ((with_reducible show wpList _ _ _ _ _ _); refine wpList_store_res (by rfl) 69 _ _ (by rfl) (w.heap.size + 1) (Acc.cells ⟨2, p + 2, 0, 0⟩) (by rfl) (by rfl) HT.out Try.ac_inf (ac_one _) ?_; intro wz HZ)
  obtain ⟨fs, hfs⟩ := Try.ac_und
  exact ret_stored HZ Try.results50 rfl HT.out hfs rfl Try.ac_inf rfl ⟨rfl, below_stored HZ V9.out.bel (by omega)⟩
end Go.Proofs.Ytepngbdjobckbaa
