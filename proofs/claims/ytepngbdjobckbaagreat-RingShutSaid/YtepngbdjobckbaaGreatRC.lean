/- The ring's machine at its beginning. -/
import Derived.Test.YtepngbdjobckbaaGreatRB
namespace Go.Proofs.YtepngbdjobckbaaGreat
open Go.RowKit
set_option linter.unusedVariables false
set_option linter.unusedSimpArgs false
set_option maxHeartbeats 8000000 in
set_option maxRecDepth 100000 in
theorem mq_begin (w : World) (A : Option Addr) (n c : Nat) (l : List Int) (B : Option Addr) (m d : Nat) (t : Int) (h : Cf w A n l) (hn : 0 < n) (what : Nat) (hw3 : 3 ≤ what) (hw6 : what ≤ 6) (v : Int) (hv : u64 v) :
    Calls Tryz.prog 24 #[.agg #[.slice A n c, .slice B m d, .int .i64 t], .int .i64 what, .int .u64 v] w fun e w' => ∃ cs, e = .returned (.agg cs) ∧ Mq w' l cs (mc0 what 0 0 v) ∧ Below w.heap.size w w' := by
  have hw : what = 3 ∨ what = 4 ∨ what = 5 ∨ what = 6 := by omega
  rcases hw with rfl | rfl | rfl | rfl
  · have G1 := hide (fun (W : World) (hW : Below w.heap.size w W) => pushStart_any W A n c l B m d t (h.below hW) 0 hn v)
    have KC := hide (((Bk.new w 30 #[.slice A n c, .slice B m d, .int .i64 t]).alloc (.cells #[.int .i64 0, .int .u64 0, .int .i64 0, .int .i64 0, .slice none 0 0, .slice none 0 0, .slice none 0 0] 53)).alloc (.cells #[.int .i64 3, .int .u64 v, .int .i64 0, .int .i64 0, .slice none 0 0, .slice none 0 0, .slice none 0 0] 53))
    have KR : Hid (Bk (((w.alloc (.cells #[.slice A n c, .slice B m d, .int .i64 t] 30)).alloc (.cells #[.int .i64 0, .int .u64 0, .int .i64 0, .int .i64 0, .slice none 0 0, .slice none 0 0, .slice none 0 0] 53)).alloc (.cells #[.int .i64 3, .int .u64 v, .int .i64 0, .int .i64 0, .slice none 0 0, .slice none 0 0, .slice none 0 0] 53)) (w.heap.size + 1) 53 #[.int .i64 0, .int .u64 0, .int .i64 0, .int .i64 0, .slice none 0 0, .slice none 0 0, .slice none 0 0]) := hide (by simpa using (Bk.new (w.alloc (.cells #[.slice A n c, .slice B m d, .int .i64 t] 30)) 53 #[.int .i64 0, .int .u64 0, .int .i64 0, .int .i64 0, .slice none 0 0, .slice none 0 0, .slice none 0 0]).alloc (.cells #[.int .i64 3, .int .u64 v, .int .i64 0, .int .i64 0, .slice none 0 0, .slice none 0 0, .slice none 0 0] 53))
    have KM : Hid (Bk (((w.alloc (.cells #[.slice A n c, .slice B m d, .int .i64 t] 30)).alloc (.cells #[.int .i64 0, .int .u64 0, .int .i64 0, .int .i64 0, .slice none 0 0, .slice none 0 0, .slice none 0 0] 53)).alloc (.cells #[.int .i64 3, .int .u64 v, .int .i64 0, .int .i64 0, .slice none 0 0, .slice none 0 0, .slice none 0 0] 53)) (w.heap.size + 1 + 1) 53 #[.int .i64 3, .int .u64 v, .int .i64 0, .int .i64 0, .slice none 0 0, .slice none 0 0, .slice none 0 0]) := hide (by simpa using Bk.new ((w.alloc (.cells #[.slice A n c, .slice B m d, .int .i64 t] 30)).alloc (.cells #[.int .i64 0, .int .u64 0, .int .i64 0, .int .i64 0, .slice none 0 0, .slice none 0 0, .slice none 0 0] 53)) 53 #[.int .i64 3, .int .u64 v, .int .i64 0, .int .i64 0, .slice none 0 0, .slice none 0 0, .slice none 0 0])
    have HB := hide (below_next (below_next (below_new w (.cells #[.slice A n c, .slice B m d, .int .i64 t] 30)) (below_new _ (.cells #[.int .i64 0, .int .u64 0, .int .i64 0, .int .i64 0, .slice none 0 0, .slice none 0 0, .slice none 0 0] 53))) (below_new _ (.cells #[.int .i64 3, .int .u64 v, .int .i64 0, .int .i64 0, .slice none 0 0, .slice none 0 0, .slice none 0 0] 53)))
    clear h
    show Calls Tryz.prog 24 #[.agg #[.slice A n c, .slice B m d, .int .i64 t], .int .i64 3, .int .u64 v] w _
    go_enter Tryz.func24, Tryz.ntmps24
    go_upto_region 2 with fail
    generalize (((w.alloc (.cells #[.slice A n c, .slice B m d, .int .i64 t] 30)).alloc (.cells #[.int .i64 0, .int .u64 0, .int .i64 0, .int .i64 0, .slice none 0 0, .slice none 0 0, .slice none 0 0] 53)).alloc (.cells #[.int .i64 3, .int .u64 v, .int .i64 0, .int .i64 0, .slice none 0 0, .slice none 0 0, .slice none 0 0] 53)) = W at *
    obtain ⟨c0, c1, c2, cf⟩ := bkm3 KC.out
    go_wp2_with fail
    refine (G1.out _ HB.out).mono ?_
    rintro e W2 ⟨cs2, rfl, hf2, hb⟩
    obtain ⟨A2, n2, c2', B2, m2, d2, rfl, -⟩ := id hf2
    have L1 := hide (KM.out.below hb KM.out.lt)
    have L3 := hide (KR.out.below hb KR.out.lt)
    have HB2 := hide (HB.out.trans (hb.mono HB.out.size))
    have HF2 := hide hf2
    clear hb c0 c1 c2 cf G1 KC KR KM HB hf2
    have HT1 := hide (L1.out.thereO (o := 2) (n := 5) (Nat.le_refl 7))
    go_upto_region 10 with ((with_reducible show wpList _ _ _ _ _ _); refine wpList_store_resO (by rfl) 51 _ _ (by rfl) (w.heap.size + 1 + 1) 2 #[.int .i64 0, .int .i64 1, .slice A2 n2 c2', .slice B2 m2 d2, .slice none 0 0] (by rfl) (by rfl) HT1.out Tryz.fr_inf (fr_one _ _ _ _ _ _ _ _ _ _ _) ?_; intro wz HZ1)
    have M1 := hide (mq_box L1.out HZ1)
    have M3 : Hid (Bk wz (w.heap.size + 1) 53 #[.int .i64 0, .int .u64 0, .int .i64 0, .int .i64 0, .slice none 0 0, .slice none 0 0, .slice none 0 0]) := hide (by rw [HZ1.out]; exact L3.out.grown (grown_sets _ 2 W2) (by intro e; injection e with e; omega))
    have HT3 := hide (M3.out.there (n := 7) rfl)
    obtain ⟨u0, u1, u2, u3, u4, u5, u6, uf⟩ := bk7 M1.out
    go_wp2_with ((with_reducible show wpList _ _ _ _ _ _); refine wpList_store_res (by rfl) 53 _ _ (by rfl) (w.heap.size + 1) #[.int .i64 3, .int .u64 v, .int .i64 0, .int .i64 1, .slice A2 n2 c2', .slice B2 m2 d2, .slice none 0 0] (by rfl) (by rfl) HT3.out Tryz.mq_sz (mq_one _ _ _ _ _ _ _ _ _ _) ?_; intro wy HZ2)
    have kk : ∀ T, T ≠ 53 → Kp W2 wy T := fun T hT => by
      rw [HZ2.out]
      refine Kp.trans (w' := wz) ?_ (kp_sets hT _ 0 M3.out)
      rw [HZ1.out]
      exact kp_sets hT _ 2 L1.out
    have KF := hide (Fr.kp HF2.out (kk 42 (by decide)) (kk 3 (by decide)))
    obtain ⟨fs, hfs⟩ := Tryz.mq_und
    exact ret_stored HZ2 Tryz.results24 rfl HT3.out hfs rfl Tryz.mq_sz rfl ⟨_, rfl, ⟨v, 0, 1, A2, n2, c2', B2, m2, d2, ⟨0, 1, [0, v], rgL l 0⟩, rfl, KF.out, .inl ⟨rfl, Or.inr ⟨(by decide : (1 : Nat) ≠ 0), rfl, rfl, rfl⟩⟩⟩, below_stored HZ2 (below_stored' HZ1 HB2.out (by omega)) (by omega)⟩
  · have G1 := hide (fun (W : World) (hW : Below w.heap.size w W) => popStart_any W A n c l B m d t (h.below hW) 0 hn)
    have KC := hide (((Bk.new w 30 #[.slice A n c, .slice B m d, .int .i64 t]).alloc (.cells #[.int .i64 0, .int .u64 0, .int .i64 0, .int .i64 0, .slice none 0 0, .slice none 0 0, .slice none 0 0] 53)).alloc (.cells #[.int .i64 4, .int .u64 v, .int .i64 0, .int .i64 0, .slice none 0 0, .slice none 0 0, .slice none 0 0] 53))
    have KR : Hid (Bk (((w.alloc (.cells #[.slice A n c, .slice B m d, .int .i64 t] 30)).alloc (.cells #[.int .i64 0, .int .u64 0, .int .i64 0, .int .i64 0, .slice none 0 0, .slice none 0 0, .slice none 0 0] 53)).alloc (.cells #[.int .i64 4, .int .u64 v, .int .i64 0, .int .i64 0, .slice none 0 0, .slice none 0 0, .slice none 0 0] 53)) (w.heap.size + 1) 53 #[.int .i64 0, .int .u64 0, .int .i64 0, .int .i64 0, .slice none 0 0, .slice none 0 0, .slice none 0 0]) := hide (by simpa using (Bk.new (w.alloc (.cells #[.slice A n c, .slice B m d, .int .i64 t] 30)) 53 #[.int .i64 0, .int .u64 0, .int .i64 0, .int .i64 0, .slice none 0 0, .slice none 0 0, .slice none 0 0]).alloc (.cells #[.int .i64 4, .int .u64 v, .int .i64 0, .int .i64 0, .slice none 0 0, .slice none 0 0, .slice none 0 0] 53))
    have KM : Hid (Bk (((w.alloc (.cells #[.slice A n c, .slice B m d, .int .i64 t] 30)).alloc (.cells #[.int .i64 0, .int .u64 0, .int .i64 0, .int .i64 0, .slice none 0 0, .slice none 0 0, .slice none 0 0] 53)).alloc (.cells #[.int .i64 4, .int .u64 v, .int .i64 0, .int .i64 0, .slice none 0 0, .slice none 0 0, .slice none 0 0] 53)) (w.heap.size + 1 + 1) 53 #[.int .i64 4, .int .u64 v, .int .i64 0, .int .i64 0, .slice none 0 0, .slice none 0 0, .slice none 0 0]) := hide (by simpa using Bk.new ((w.alloc (.cells #[.slice A n c, .slice B m d, .int .i64 t] 30)).alloc (.cells #[.int .i64 0, .int .u64 0, .int .i64 0, .int .i64 0, .slice none 0 0, .slice none 0 0, .slice none 0 0] 53)) 53 #[.int .i64 4, .int .u64 v, .int .i64 0, .int .i64 0, .slice none 0 0, .slice none 0 0, .slice none 0 0])
    have HB := hide (below_next (below_next (below_new w (.cells #[.slice A n c, .slice B m d, .int .i64 t] 30)) (below_new _ (.cells #[.int .i64 0, .int .u64 0, .int .i64 0, .int .i64 0, .slice none 0 0, .slice none 0 0, .slice none 0 0] 53))) (below_new _ (.cells #[.int .i64 4, .int .u64 v, .int .i64 0, .int .i64 0, .slice none 0 0, .slice none 0 0, .slice none 0 0] 53)))
    clear h
    show Calls Tryz.prog 24 #[.agg #[.slice A n c, .slice B m d, .int .i64 t], .int .i64 4, .int .u64 v] w _
    go_enter Tryz.func24, Tryz.ntmps24
    go_upto_region 2 with fail
    generalize (((w.alloc (.cells #[.slice A n c, .slice B m d, .int .i64 t] 30)).alloc (.cells #[.int .i64 0, .int .u64 0, .int .i64 0, .int .i64 0, .slice none 0 0, .slice none 0 0, .slice none 0 0] 53)).alloc (.cells #[.int .i64 4, .int .u64 v, .int .i64 0, .int .i64 0, .slice none 0 0, .slice none 0 0, .slice none 0 0] 53)) = W at *
    obtain ⟨c0, c1, c2, cf⟩ := bkm3 KC.out
    go_wp2_with fail
    refine (G1.out _ HB.out).mono ?_
    rintro e W2 ⟨cs2, rfl, hf2, hb⟩
    obtain ⟨A2, n2, c2', B2, m2, d2, rfl, -⟩ := id hf2
    have L1 := hide (KM.out.below hb KM.out.lt)
    have L3 := hide (KR.out.below hb KR.out.lt)
    have HB2 := hide (HB.out.trans (hb.mono HB.out.size))
    have HF2 := hide hf2
    clear hb c0 c1 c2 cf G1 KC KR KM HB hf2
    have HT1 := hide (L1.out.thereO (o := 2) (n := 5) (Nat.le_refl 7))
    go_upto_region 10 with ((with_reducible show wpList _ _ _ _ _ _); refine wpList_store_resO (by rfl) 51 _ _ (by rfl) (w.heap.size + 1 + 1) 2 #[.int .i64 0, .int .i64 1, .slice A2 n2 c2', .slice B2 m2 d2, .slice none 0 0] (by rfl) (by rfl) HT1.out Tryz.fr_inf (fr_one _ _ _ _ _ _ _ _ _ _ _) ?_; intro wz HZ1)
    have M1 := hide (mq_box L1.out HZ1)
    have M3 : Hid (Bk wz (w.heap.size + 1) 53 #[.int .i64 0, .int .u64 0, .int .i64 0, .int .i64 0, .slice none 0 0, .slice none 0 0, .slice none 0 0]) := hide (by rw [HZ1.out]; exact L3.out.grown (grown_sets _ 2 W2) (by intro e; injection e with e; omega))
    have HT3 := hide (M3.out.there (n := 7) rfl)
    obtain ⟨u0, u1, u2, u3, u4, u5, u6, uf⟩ := bk7 M1.out
    go_wp2_with ((with_reducible show wpList _ _ _ _ _ _); refine wpList_store_res (by rfl) 53 _ _ (by rfl) (w.heap.size + 1) #[.int .i64 4, .int .u64 v, .int .i64 0, .int .i64 1, .slice A2 n2 c2', .slice B2 m2 d2, .slice none 0 0] (by rfl) (by rfl) HT3.out Tryz.mq_sz (mq_one _ _ _ _ _ _ _ _ _ _) ?_; intro wy HZ2)
    have kk : ∀ T, T ≠ 53 → Kp W2 wy T := fun T hT => by
      rw [HZ2.out]
      refine Kp.trans (w' := wz) ?_ (kp_sets hT _ 0 M3.out)
      rw [HZ1.out]
      exact kp_sets hT _ 2 L1.out
    have KF := hide (Fr.kp HF2.out (kk 42 (by decide)) (kk 3 (by decide)))
    obtain ⟨fs, hfs⟩ := Tryz.mq_und
    exact ret_stored HZ2 Tryz.results24 rfl HT3.out hfs rfl Tryz.mq_sz rfl ⟨_, rfl, ⟨v, 0, 1, A2, n2, c2', B2, m2, d2, ⟨0, 1, [0, 0, 0], rgL l 0⟩, rfl, KF.out, .inr (.inl ⟨rfl, Or.inr ⟨(by decide : (1 : Nat) ≠ 0), rfl, rfl, 0, (fun h => absurd h (by show ¬ 1 = 7; decide)), rfl⟩⟩)⟩, below_stored HZ2 (below_stored' HZ1 HB2.out (by omega)) (by omega)⟩
  · have G1 := hide (fun (W : World) (hW : Below w.heap.size w W) => shutStart_any W A n c l B m d t (h.below hW) 0 hn)
    have KC := hide (((Bk.new w 30 #[.slice A n c, .slice B m d, .int .i64 t]).alloc (.cells #[.int .i64 0, .int .u64 0, .int .i64 0, .int .i64 0, .slice none 0 0, .slice none 0 0, .slice none 0 0] 53)).alloc (.cells #[.int .i64 5, .int .u64 v, .int .i64 0, .int .i64 0, .slice none 0 0, .slice none 0 0, .slice none 0 0] 53))
    have KR : Hid (Bk (((w.alloc (.cells #[.slice A n c, .slice B m d, .int .i64 t] 30)).alloc (.cells #[.int .i64 0, .int .u64 0, .int .i64 0, .int .i64 0, .slice none 0 0, .slice none 0 0, .slice none 0 0] 53)).alloc (.cells #[.int .i64 5, .int .u64 v, .int .i64 0, .int .i64 0, .slice none 0 0, .slice none 0 0, .slice none 0 0] 53)) (w.heap.size + 1) 53 #[.int .i64 0, .int .u64 0, .int .i64 0, .int .i64 0, .slice none 0 0, .slice none 0 0, .slice none 0 0]) := hide (by simpa using (Bk.new (w.alloc (.cells #[.slice A n c, .slice B m d, .int .i64 t] 30)) 53 #[.int .i64 0, .int .u64 0, .int .i64 0, .int .i64 0, .slice none 0 0, .slice none 0 0, .slice none 0 0]).alloc (.cells #[.int .i64 5, .int .u64 v, .int .i64 0, .int .i64 0, .slice none 0 0, .slice none 0 0, .slice none 0 0] 53))
    have KM : Hid (Bk (((w.alloc (.cells #[.slice A n c, .slice B m d, .int .i64 t] 30)).alloc (.cells #[.int .i64 0, .int .u64 0, .int .i64 0, .int .i64 0, .slice none 0 0, .slice none 0 0, .slice none 0 0] 53)).alloc (.cells #[.int .i64 5, .int .u64 v, .int .i64 0, .int .i64 0, .slice none 0 0, .slice none 0 0, .slice none 0 0] 53)) (w.heap.size + 1 + 1) 53 #[.int .i64 5, .int .u64 v, .int .i64 0, .int .i64 0, .slice none 0 0, .slice none 0 0, .slice none 0 0]) := hide (by simpa using Bk.new ((w.alloc (.cells #[.slice A n c, .slice B m d, .int .i64 t] 30)).alloc (.cells #[.int .i64 0, .int .u64 0, .int .i64 0, .int .i64 0, .slice none 0 0, .slice none 0 0, .slice none 0 0] 53)) 53 #[.int .i64 5, .int .u64 v, .int .i64 0, .int .i64 0, .slice none 0 0, .slice none 0 0, .slice none 0 0])
    have HB := hide (below_next (below_next (below_new w (.cells #[.slice A n c, .slice B m d, .int .i64 t] 30)) (below_new _ (.cells #[.int .i64 0, .int .u64 0, .int .i64 0, .int .i64 0, .slice none 0 0, .slice none 0 0, .slice none 0 0] 53))) (below_new _ (.cells #[.int .i64 5, .int .u64 v, .int .i64 0, .int .i64 0, .slice none 0 0, .slice none 0 0, .slice none 0 0] 53)))
    clear h
    show Calls Tryz.prog 24 #[.agg #[.slice A n c, .slice B m d, .int .i64 t], .int .i64 5, .int .u64 v] w _
    go_enter Tryz.func24, Tryz.ntmps24
    go_upto_region 2 with fail
    generalize (((w.alloc (.cells #[.slice A n c, .slice B m d, .int .i64 t] 30)).alloc (.cells #[.int .i64 0, .int .u64 0, .int .i64 0, .int .i64 0, .slice none 0 0, .slice none 0 0, .slice none 0 0] 53)).alloc (.cells #[.int .i64 5, .int .u64 v, .int .i64 0, .int .i64 0, .slice none 0 0, .slice none 0 0, .slice none 0 0] 53)) = W at *
    obtain ⟨c0, c1, c2, cf⟩ := bkm3 KC.out
    go_wp2_with fail
    refine (G1.out _ HB.out).mono ?_
    rintro e W2 ⟨cs2, rfl, hf2, hb⟩
    obtain ⟨A2, n2, c2', B2, m2, d2, rfl, -⟩ := id hf2
    have L1 := hide (KM.out.below hb KM.out.lt)
    have L3 := hide (KR.out.below hb KR.out.lt)
    have HB2 := hide (HB.out.trans (hb.mono HB.out.size))
    have HF2 := hide hf2
    clear hb c0 c1 c2 cf G1 KC KR KM HB hf2
    have HT1 := hide (L1.out.thereO (o := 2) (n := 5) (Nat.le_refl 7))
    go_upto_region 10 with ((with_reducible show wpList _ _ _ _ _ _); refine wpList_store_resO (by rfl) 51 _ _ (by rfl) (w.heap.size + 1 + 1) 2 #[.int .i64 0, .int .i64 1, .slice A2 n2 c2', .slice B2 m2 d2, .slice none 0 0] (by rfl) (by rfl) HT1.out Tryz.fr_inf (fr_one _ _ _ _ _ _ _ _ _ _ _) ?_; intro wz HZ1)
    have M1 := hide (mq_box L1.out HZ1)
    have M3 : Hid (Bk wz (w.heap.size + 1) 53 #[.int .i64 0, .int .u64 0, .int .i64 0, .int .i64 0, .slice none 0 0, .slice none 0 0, .slice none 0 0]) := hide (by rw [HZ1.out]; exact L3.out.grown (grown_sets _ 2 W2) (by intro e; injection e with e; omega))
    have HT3 := hide (M3.out.there (n := 7) rfl)
    obtain ⟨u0, u1, u2, u3, u4, u5, u6, uf⟩ := bk7 M1.out
    go_wp2_with ((with_reducible show wpList _ _ _ _ _ _); refine wpList_store_res (by rfl) 53 _ _ (by rfl) (w.heap.size + 1) #[.int .i64 5, .int .u64 v, .int .i64 0, .int .i64 1, .slice A2 n2 c2', .slice B2 m2 d2, .slice none 0 0] (by rfl) (by rfl) HT3.out Tryz.mq_sz (mq_one _ _ _ _ _ _ _ _ _ _) ?_; intro wy HZ2)
    have kk : ∀ T, T ≠ 53 → Kp W2 wy T := fun T hT => by
      rw [HZ2.out]
      refine Kp.trans (w' := wz) ?_ (kp_sets hT _ 0 M3.out)
      rw [HZ1.out]
      exact kp_sets hT _ 2 L1.out
    have KF := hide (Fr.kp HF2.out (kk 42 (by decide)) (kk 3 (by decide)))
    obtain ⟨fs, hfs⟩ := Tryz.mq_und
    exact ret_stored HZ2 Tryz.results24 rfl HT3.out hfs rfl Tryz.mq_sz rfl ⟨_, rfl, ⟨v, 0, 1, A2, n2, c2', B2, m2, d2, ⟨0, 1, [0], rgL l 0⟩, rfl, KF.out, .inr (.inr (.inl ⟨rfl, Or.inr ⟨(by decide : (1 : Nat) ≠ 0), rfl, rfl, rfl⟩⟩))⟩, below_stored HZ2 (below_stored' HZ1 HB2.out (by omega)) (by omega)⟩
  · have G1 := hide (fun (W : World) (hW : Below w.heap.size w W) => countStart_any W A n c l B m d t (h.below hW) 0 hn)
    have KC := hide (((Bk.new w 30 #[.slice A n c, .slice B m d, .int .i64 t]).alloc (.cells #[.int .i64 0, .int .u64 0, .int .i64 0, .int .i64 0, .slice none 0 0, .slice none 0 0, .slice none 0 0] 53)).alloc (.cells #[.int .i64 6, .int .u64 v, .int .i64 0, .int .i64 0, .slice none 0 0, .slice none 0 0, .slice none 0 0] 53))
    have KR : Hid (Bk (((w.alloc (.cells #[.slice A n c, .slice B m d, .int .i64 t] 30)).alloc (.cells #[.int .i64 0, .int .u64 0, .int .i64 0, .int .i64 0, .slice none 0 0, .slice none 0 0, .slice none 0 0] 53)).alloc (.cells #[.int .i64 6, .int .u64 v, .int .i64 0, .int .i64 0, .slice none 0 0, .slice none 0 0, .slice none 0 0] 53)) (w.heap.size + 1) 53 #[.int .i64 0, .int .u64 0, .int .i64 0, .int .i64 0, .slice none 0 0, .slice none 0 0, .slice none 0 0]) := hide (by simpa using (Bk.new (w.alloc (.cells #[.slice A n c, .slice B m d, .int .i64 t] 30)) 53 #[.int .i64 0, .int .u64 0, .int .i64 0, .int .i64 0, .slice none 0 0, .slice none 0 0, .slice none 0 0]).alloc (.cells #[.int .i64 6, .int .u64 v, .int .i64 0, .int .i64 0, .slice none 0 0, .slice none 0 0, .slice none 0 0] 53))
    have KM : Hid (Bk (((w.alloc (.cells #[.slice A n c, .slice B m d, .int .i64 t] 30)).alloc (.cells #[.int .i64 0, .int .u64 0, .int .i64 0, .int .i64 0, .slice none 0 0, .slice none 0 0, .slice none 0 0] 53)).alloc (.cells #[.int .i64 6, .int .u64 v, .int .i64 0, .int .i64 0, .slice none 0 0, .slice none 0 0, .slice none 0 0] 53)) (w.heap.size + 1 + 1) 53 #[.int .i64 6, .int .u64 v, .int .i64 0, .int .i64 0, .slice none 0 0, .slice none 0 0, .slice none 0 0]) := hide (by simpa using Bk.new ((w.alloc (.cells #[.slice A n c, .slice B m d, .int .i64 t] 30)).alloc (.cells #[.int .i64 0, .int .u64 0, .int .i64 0, .int .i64 0, .slice none 0 0, .slice none 0 0, .slice none 0 0] 53)) 53 #[.int .i64 6, .int .u64 v, .int .i64 0, .int .i64 0, .slice none 0 0, .slice none 0 0, .slice none 0 0])
    have HB := hide (below_next (below_next (below_new w (.cells #[.slice A n c, .slice B m d, .int .i64 t] 30)) (below_new _ (.cells #[.int .i64 0, .int .u64 0, .int .i64 0, .int .i64 0, .slice none 0 0, .slice none 0 0, .slice none 0 0] 53))) (below_new _ (.cells #[.int .i64 6, .int .u64 v, .int .i64 0, .int .i64 0, .slice none 0 0, .slice none 0 0, .slice none 0 0] 53)))
    clear h
    show Calls Tryz.prog 24 #[.agg #[.slice A n c, .slice B m d, .int .i64 t], .int .i64 6, .int .u64 v] w _
    go_enter Tryz.func24, Tryz.ntmps24
    go_upto_region 2 with fail
    generalize (((w.alloc (.cells #[.slice A n c, .slice B m d, .int .i64 t] 30)).alloc (.cells #[.int .i64 0, .int .u64 0, .int .i64 0, .int .i64 0, .slice none 0 0, .slice none 0 0, .slice none 0 0] 53)).alloc (.cells #[.int .i64 6, .int .u64 v, .int .i64 0, .int .i64 0, .slice none 0 0, .slice none 0 0, .slice none 0 0] 53)) = W at *
    obtain ⟨c0, c1, c2, cf⟩ := bkm3 KC.out
    go_wp2_with fail
    refine (G1.out _ HB.out).mono ?_
    rintro e W2 ⟨cs2, rfl, hf2, hb⟩
    obtain ⟨A2, n2, c2', B2, m2, d2, rfl, -⟩ := id hf2
    have L1 := hide (KM.out.below hb KM.out.lt)
    have L3 := hide (KR.out.below hb KR.out.lt)
    have HB2 := hide (HB.out.trans (hb.mono HB.out.size))
    have HF2 := hide hf2
    clear hb c0 c1 c2 cf G1 KC KR KM HB hf2
    have HT1 := hide (L1.out.thereO (o := 2) (n := 5) (Nat.le_refl 7))
    go_upto_region 10 with ((with_reducible show wpList _ _ _ _ _ _); refine wpList_store_resO (by rfl) 51 _ _ (by rfl) (w.heap.size + 1 + 1) 2 #[.int .i64 0, .int .i64 1, .slice A2 n2 c2', .slice B2 m2 d2, .slice none 0 0] (by rfl) (by rfl) HT1.out Tryz.fr_inf (fr_one _ _ _ _ _ _ _ _ _ _ _) ?_; intro wz HZ1)
    have M1 := hide (mq_box L1.out HZ1)
    have M3 : Hid (Bk wz (w.heap.size + 1) 53 #[.int .i64 0, .int .u64 0, .int .i64 0, .int .i64 0, .slice none 0 0, .slice none 0 0, .slice none 0 0]) := hide (by rw [HZ1.out]; exact L3.out.grown (grown_sets _ 2 W2) (by intro e; injection e with e; omega))
    have HT3 := hide (M3.out.there (n := 7) rfl)
    obtain ⟨u0, u1, u2, u3, u4, u5, u6, uf⟩ := bk7 M1.out
    go_wp2_with ((with_reducible show wpList _ _ _ _ _ _); refine wpList_store_res (by rfl) 53 _ _ (by rfl) (w.heap.size + 1) #[.int .i64 6, .int .u64 v, .int .i64 0, .int .i64 1, .slice A2 n2 c2', .slice B2 m2 d2, .slice none 0 0] (by rfl) (by rfl) HT3.out Tryz.mq_sz (mq_one _ _ _ _ _ _ _ _ _ _) ?_; intro wy HZ2)
    have kk : ∀ T, T ≠ 53 → Kp W2 wy T := fun T hT => by
      rw [HZ2.out]
      refine Kp.trans (w' := wz) ?_ (kp_sets hT _ 0 M3.out)
      rw [HZ1.out]
      exact kp_sets hT _ 2 L1.out
    have KF := hide (Fr.kp HF2.out (kk 42 (by decide)) (kk 3 (by decide)))
    obtain ⟨fs, hfs⟩ := Tryz.mq_und
    exact ret_stored HZ2 Tryz.results24 rfl HT3.out hfs rfl Tryz.mq_sz rfl ⟨_, rfl, ⟨v, 0, 1, A2, n2, c2', B2, m2, d2, ⟨0, 1, [0, 0], rgL l 0⟩, rfl, KF.out, .inr (.inr (.inr ⟨rfl, Or.inr ⟨(by decide : (1 : Nat) ≠ 0), rfl, rfl, rfl⟩⟩))⟩, below_stored HZ2 (below_stored' HZ1 HB2.out (by omega)) (by omega)⟩
end Go.Proofs.YtepngbdjobckbaaGreat
