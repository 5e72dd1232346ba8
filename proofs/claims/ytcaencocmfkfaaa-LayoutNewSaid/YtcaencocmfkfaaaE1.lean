/- chanfabricref4.New on a valid configuration. -/
import Derived.Test.YtcaencocmfkfaaaE0
namespace Go.Proofs.Ytcaencocmfkfaaa
open Go.RowKit
set_option linter.unusedVariables false
set_option linter.unusedSimpArgs false
set_option maxHeartbeats 6000000 in
set_option maxRecDepth 100000 in
theorem rnew_ok (w : World) (A : Option Addr) (n c : Nat) (l : List Int) (B : Option Addr) (d : Nat) (s : List Int) (tn : Nat) (hcf : Cf w A n l) (hs : IsI .u64 w B n s) (hst : ∀ x ∈ s, 0 ≤ x ∧ x < 9223372036854775808) (ht1 : 1 ≤ tn) (ht8 : tn ≤ 8) (hck : chk l s tn = 0) :
    Calls Try.prog 48 #[.agg #[.slice A n c, .slice B n d, .int .i64 tn]] w fun e w' => ∃ gW gL : Nat, e = .returned (.tuple #[.agg #[.slice (some ⟨gW, 0, none⟩) (totI l tn) (totI l tn), .slice (some ⟨gL, 0, none⟩) (2 * n) (2 * n), .int .i64 0], .int .i64 0]) ∧ IsI .u64 w' (some ⟨gW, 0, none⟩) (totI l tn) (iniI l s tn) ∧ Rds w' (some ⟨gL, 0, none⟩) (2 * n) 1 (List.replicate (2 * n) (.slice none 0 0)) ∧ Below w.heap.size w w' := by
  have hn8 := hcf.2.1
  have hl := hcf.len
  have hsl := hs.len
  have htl := hcf.tl n (Nat.le_refl _)
  obtain ⟨N, hN⟩ : ∃ N : Nat, tlN l n + (tn : Int) * 11 = N := Int.eq_ofNat_of_zero_le (by omega)
  have hNt : totI l tn = N := by unfold totI; rw [hl, hN]; rfl
  have hNb : N ≤ 400 := by omega
  obtain ⟨m2, hm2⟩ : ∃ m2 : Nat, m2 = 2 * n := ⟨_, rfl⟩
  have hm16 : m2 ≤ 16 := by omega
  have e2 : IntKind.i64.wrap (2 * (n : Int)) = (m2 : Int) := by rw [show (2 * (n : Int)) = (m2 : Int) by omega]; exact IntWalk.i64_in (m2 : Int) ⟨by omega, by omega⟩
  have HM2 := hide hm2
  have HE2 := hide e2
  clear hm2 e2
  have HCK := hide (fun W (h1 : IsI .i64 W A n l) (h2 : IsI .u64 W B n s) => rcheck_any W A n c l B n d s tn h1 h2 (by omega) (by omega))
  rw [hck] at HCK
  have HL := hide hl
  have HC := hide hcf
  have HS := hide hs
  have HST := hide hst
  have HN := hide hN
  have HNT := hide hNt
  clear hcf hs hst hck hN hNt hl hsl htl
  go_enter Try.func48, Try.ntmps48
  go_wp2_with fail
  refine (HCK.out _ ((HC.out.1.alloc _).alloc _) ((HS.out.alloc _).alloc _)).mono ?_
  rintro e w1 ⟨rfl, hb⟩
  have KC := hide (((Bk.new w 25 #[.slice A n c, .slice B n d, .int .i64 tn]).alloc (.cells #[.slice none 0 0, .slice none 0 0, .int .i64 0] 48)).below hb (by simp; omega))
  have KR : Hid (Bk w1 (w.heap.size + 1) 48 #[.slice none 0 0, .slice none 0 0, .int .i64 0]) := hide (at_second hb).1
  have HB1 := hide ((((Below.refl w.heap.size w).alloc (Nat.le_refl _) (.cells #[.slice A n c, .slice B n d, .int .i64 tn] 25)).alloc (by simp) (.cells #[.slice none 0 0, .slice none 0 0, .int .i64 0] 48)).trans (hb.mono (by simp; omega)))
  have hw1 : w.heap.size + 1 < w1.heap.size := KR.out.lt
  have HC1 := hide (HC.out.below HB1.out)
  have HS1 := hide (HS.out.below HB1.out)
  clear hb HCK HC HS
  go_upto_region 4 with fail
  go_cut [5] (fun s5 wx => ∃ g5 gW gL : Nat, s5 = .pointer (some ⟨g5, 0, none⟩) ∧ Nw w1 wx g5 gW gL m2 N (List.replicate N 0))
  case first =>
    have HMK1 := hide (fun W => run_make_row' (P := Try.prog) 23 33 (.int .u64 0) 8 Try.underlying23 Try.u64_inf rfl .i64 .i64 N (by omega) (by omega) W)
    have HMK2 := hide (fun W => run_make_row' (P := Try.prog) 46 22 (.slice none 0 0) 24 Try.underlying46 Try.sl_inf rfl .i64 .i64 m2 (by omega) (by omega) W)
    rw [made_wc] at HMK1
    have e2 := HE2.out
    have HWD := hide (fun (W : World) (hW : Below w1.heap.size w1 W) => show Calls Try.prog 45 #[.agg #[.slice A n c, .slice B n d, .int .i64 tn]] W fun e w' => e = .returned (.int .i64 (N : Nat)) ∧ Below W.heap.size W w' by
      have := rwords_any W A n c l B n d (HC1.out.below hW) tn ht8
      rwa [HN.out] at this)
    have HB : Hid (Below w1.heap.size w1 w1.drew) := hide ((Below.refl w1.heap.size w1).drew)
    refine wp_region_L (fun W => W.cell? ⟨w.heap.size, 0, none⟩ = some (.slice A n c) ∧ W.cell? ⟨w.heap.size, 1, none⟩ = some (.slice B n d) ∧ W.cell? ⟨w.heap.size, 2, none⟩ = some (.int .i64 tn)) 10 (by kernel_rfl) ?_
    have KT := hide (fun (W : World) (hW : Below w1.heap.size w1 W) => show W.cell? ⟨w.heap.size, 0, none⟩ = some (.slice A n c) ∧ W.cell? ⟨w.heap.size, 1, none⟩ = some (.slice B n d) ∧ W.cell? ⟨w.heap.size, 2, none⟩ = some (.int .i64 tn) from
      have k := KC.out.below hW KC.out.lt
      ⟨k.cell 0, k.cell 1, k.cell 2⟩)
    generalize w1.drew = xd at *
    refine wpAnyL_take (i := 0) (oi := ⟨some 15, _, _, _, _, _⟩) [1, 2, 8, 10] (v := ?vve_0_1) rfl (by kernel_rfl) (by kernel_rfl) (by kernel_rfl) (by kernel_rfl) (fun _ _ _ h => h) (KT.out _ HB.out) (by rfl) ?hhe_0_1 ?rre_0_1
    case hhe_0_1 => (intro W hW; obtain ⟨k0, k1, k2⟩ := hW; go_simp; try with_reducible rfl)
    (try simp only [Act.put, List.setIfInBounds_toArray, List.set_cons_zero, List.set_cons_succ])
    refine wpAnyL_any (i := 3) (oi := ⟨some 18, _, _, _, _, _⟩) (v := ?vve_3_2) rfl (by kernel_rfl) (by kernel_rfl) (by kernel_rfl) (by kernel_rfl) (fun _ _ _ h => h) (fun _ => (KT.out _ HB.out)) (by rfl) ?hhe_3_2 ?rre_3_2
    case hhe_3_2 => (intro W; go_simp; try with_reducible rfl)
    (try simp only [Act.put, List.setIfInBounds_toArray, List.set_cons_zero, List.set_cons_succ])
    refine wpAnyL_take (i := 4) (oi := ⟨some 19, _, _, _, _, _⟩) [5, 6, 7, 8, 10] (v := ?vve_4_3) rfl (by kernel_rfl) (by kernel_rfl) (by kernel_rfl) (by kernel_rfl) (fun _ _ _ h => h) (KT.out _ HB.out) (by rfl) ?hhe_4_3 ?rre_4_3
    case hhe_4_3 => (intro W hW; obtain ⟨k0, k1, k2⟩ := hW; go_simp; try with_reducible rfl)
    (try simp only [Act.put, List.setIfInBounds_toArray, List.set_cons_zero, List.set_cons_succ])
    refine wpAnyL_any (i := 5) (oi := ⟨some 20, _, _, _, _, _⟩) (v := ?vve_5_4) rfl (by kernel_rfl) (by kernel_rfl) (by kernel_rfl) (by kernel_rfl) (fun _ _ _ h => h) (fun _ => (KT.out _ HB.out)) (by rfl) ?hhe_5_4 ?rre_5_4
    case hhe_5_4 => (intro W; go_simp; try with_reducible rfl)
    (try simp only [Act.put, List.setIfInBounds_toArray, List.set_cons_zero, List.set_cons_succ])
    refine wpAnyL_any (i := 6) (oi := ⟨some 21, _, _, _, _, _⟩) (v := ?vve_6_5) rfl (by kernel_rfl) (by kernel_rfl) (by kernel_rfl) (by kernel_rfl) (fun _ _ _ h => h) (fun _ => (KT.out _ HB.out)) (by rfl) ?hhe_6_5 ?rre_6_5
    case hhe_6_5 => (intro W; have e2 := HE2.out; go_simp; try with_reducible rfl)
    (try simp only [Act.put, List.setIfInBounds_toArray, List.set_cons_zero, List.set_cons_succ])
    refine wpAnyL_some 1 [7, 9] (by kernel_rfl) ?_
    refine wpAnyLs_cons (oi := ⟨some 16, _, _, _, _, _⟩) rfl (fun K hK => ?_) ?_
    · refine step_call _ (by rfl) 45 _ (by go_simp) (HWD.out _ HB.out) ?_
      rintro e x_1 ⟨rfl, hb⟩
      refine ⟨_, rfl, ?_⟩
      replace HB := hide (HB.out.trans (hb.mono HB.out.size))
      clear hb
      refine hK.out _ _ (fun _ => (KT.out _ HB.out)) ?_
      clear hK K
      (try simp only [Act.put, List.setIfInBounds_toArray, List.set_cons_zero, List.set_cons_succ])
      refine wpAnyL_some 2 [7, 9] (by kernel_rfl) ?_
      refine wpAnyLs_cons (oi := ⟨some 17, _, _, _, _, _⟩) rfl (fun K hK => ?_) ?_
      · have hmk1 := HMK1.out
        go_simp
        clear hmk1
        have K1 := hide (Bk.new x_1 33 (wc64 (List.replicate N 0)))
        have hg1 : w1.heap.size ≤ (x_1).heap.size := HB.out.size
        replace HB := hide (HB.out.trans ((below_new x_1 (.cells (wc64 (List.replicate N 0)) 33)).mono HB.out.size))
        generalize (World.alloc x_1 (.cells (wc64 (List.replicate N 0)) 33)) = x_1_2 at *
        generalize (x_1).heap.size = g1 at *
        refine hK.out _ _ (fun _ => (KT.out _ HB.out)) ?_
        clear hK K
        (try simp only [Act.put, List.setIfInBounds_toArray, List.set_cons_zero, List.set_cons_succ])
        refine wpAnyL_some 7 [9] (by kernel_rfl) ?_
        refine wpAnyLs_cons (oi := ⟨some 22, _, _, _, _, _⟩) rfl (fun K hK => ?_) ?_
        · have hmk2 := HMK2.out
          go_simp
          clear hmk2
          have K2 := hide (Bk.new x_1_2 22 (madeCells #[.slice none 0 0] m2))
          have hg2 : w1.heap.size ≤ (x_1_2).heap.size := HB.out.size
          replace K1 := hide (K1.out.alloc (.cells (madeCells #[.slice none 0 0] m2) 22))
          replace HB := hide (HB.out.trans ((below_new x_1_2 (.cells (madeCells #[.slice none 0 0] m2) 22)).mono HB.out.size))
          generalize (World.alloc x_1_2 (.cells (madeCells #[.slice none 0 0] m2) 22)) = x_1_2_7 at *
          generalize (x_1_2).heap.size = g2 at *
          refine hK.out _ _ (fun _ => (KT.out _ HB.out)) ?_
          clear hK K
          (try simp only [Act.put, List.setIfInBounds_toArray, List.set_cons_zero, List.set_cons_succ])
          refine wpAnyL_any (i := 8) (oi := ⟨some 23, _, _, _, _, _⟩) (v := ?vve_8_6) rfl (by kernel_rfl) (by kernel_rfl) (by kernel_rfl) (by kernel_rfl) (fun _ _ _ h => h) (fun _ => (KT.out _ HB.out)) (by rfl) ?hhe_8_6 ?rre_8_6
          case hhe_8_6 => (intro W; go_simp; try with_reducible rfl)
          (try simp only [Act.put, List.setIfInBounds_toArray, List.set_cons_zero, List.set_cons_succ])
          refine wpAnyL_one (i := 9) (oi := ⟨some 5, _, _, _, _, _⟩) rfl (by kernel_rfl) (fun K hK => ?_)
          go_simp
          have K5 := hide (Bk.new x_1_2_7 48 #[.slice none 0 0, .slice none 0 0, .int .i64 0])
          have hg5 : w1.heap.size ≤ (x_1_2_7).heap.size := HB.out.size
          replace K1 := hide (K1.out.alloc (.cells #[.slice none 0 0, .slice none 0 0, .int .i64 0] 48))
          replace K2 := hide (K2.out.alloc (.cells #[.slice none 0 0, .slice none 0 0, .int .i64 0] 48))
          replace HB := hide (HB.out.trans ((below_new x_1_2_7 (.cells #[.slice none 0 0, .slice none 0 0, .int .i64 0] 48)).mono HB.out.size))
          generalize (World.alloc x_1_2_7 (.cells #[.slice none 0 0, .slice none 0 0, .int .i64 0] 48)) = x_1_2_7_9 at *
          generalize (x_1_2_7).heap.size = g5 at *
          refine hK.out _ _ (fun _ => (KT.out _ HB.out)) ?_
          clear hK K
          (try simp only [Act.put, List.setIfInBounds_toArray, List.set_cons_zero, List.set_cons_succ])
          refine wpAnyL_one (i := 10) (oi := ⟨none, _, _, _, _, _⟩) rfl (by kernel_rfl) (fun K hK => ?_)
          obtain ⟨m0, m1, m2', mf⟩ := bkm3 K5.out
          go_simp
          clear m0 m1 m2' mf
          refine hK.out _ _ (fun h => by first | cases h | simp at h) ?_
          clear hK K
          (try simp only [Act.put, List.setIfInBounds_toArray, List.set_cons_zero, List.set_cons_succ])
          refine wpAnyL_done (by kernel_rfl) ?_ _
          go_wp2
          go_meet
          case rel => exact ⟨g5, g1, g2, rfl, nw_fin K5.out K1.out K2.out HB.out (by simp) hg5 hg1⟩
        refine wpAnyLs_cons (oi := ⟨some 5, _, _, _, _, _⟩) rfl (fun K hK => ?_) ?_
        · go_simp
          have K5 := hide (Bk.new x_1_2 48 #[.slice none 0 0, .slice none 0 0, .int .i64 0])
          have hg5 : w1.heap.size ≤ (x_1_2).heap.size := HB.out.size
          replace K1 := hide (K1.out.alloc (.cells #[.slice none 0 0, .slice none 0 0, .int .i64 0] 48))
          replace HB := hide (HB.out.trans ((below_new x_1_2 (.cells #[.slice none 0 0, .slice none 0 0, .int .i64 0] 48)).mono HB.out.size))
          generalize (World.alloc x_1_2 (.cells #[.slice none 0 0, .slice none 0 0, .int .i64 0] 48)) = x_1_2_9 at *
          generalize (x_1_2).heap.size = g5 at *
          refine hK.out _ _ (fun _ => (KT.out _ HB.out)) ?_
          clear hK K
          (try simp only [Act.put, List.setIfInBounds_toArray, List.set_cons_zero, List.set_cons_succ])
          refine wpAnyL_one (i := 7) (oi := ⟨some 22, _, _, _, _, _⟩) rfl (by kernel_rfl) (fun K hK => ?_)
          have hmk2 := HMK2.out
          go_simp
          clear hmk2
          have K2 := hide (Bk.new x_1_2_9 22 (madeCells #[.slice none 0 0] m2))
          have hg2 : w1.heap.size ≤ (x_1_2_9).heap.size := HB.out.size
          replace K1 := hide (K1.out.alloc (.cells (madeCells #[.slice none 0 0] m2) 22))
          replace K5 := hide (K5.out.alloc (.cells (madeCells #[.slice none 0 0] m2) 22))
          replace HB := hide (HB.out.trans ((below_new x_1_2_9 (.cells (madeCells #[.slice none 0 0] m2) 22)).mono HB.out.size))
          generalize (World.alloc x_1_2_9 (.cells (madeCells #[.slice none 0 0] m2) 22)) = x_1_2_7_9 at *
          generalize (x_1_2_9).heap.size = g2 at *
          refine hK.out _ _ (fun _ => (KT.out _ HB.out)) ?_
          clear hK K
          (try simp only [Act.put, List.setIfInBounds_toArray, List.set_cons_zero, List.set_cons_succ])
          refine wpAnyL_any (i := 8) (oi := ⟨some 23, _, _, _, _, _⟩) (v := ?vve_8_7) rfl (by kernel_rfl) (by kernel_rfl) (by kernel_rfl) (by kernel_rfl) (fun _ _ _ h => h) (fun _ => (KT.out _ HB.out)) (by rfl) ?hhe_8_7 ?rre_8_7
          case hhe_8_7 => (intro W; go_simp; try with_reducible rfl)
          (try simp only [Act.put, List.setIfInBounds_toArray, List.set_cons_zero, List.set_cons_succ])
          refine wpAnyL_one (i := 10) (oi := ⟨none, _, _, _, _, _⟩) rfl (by kernel_rfl) (fun K hK => ?_)
          obtain ⟨m0, m1, m2', mf⟩ := bkm3 K5.out
          go_simp
          clear m0 m1 m2' mf
          refine hK.out _ _ (fun h => by first | cases h | simp at h) ?_
          clear hK K
          (try simp only [Act.put, List.setIfInBounds_toArray, List.set_cons_zero, List.set_cons_succ])
          refine wpAnyL_done (by kernel_rfl) ?_ _
          go_wp2
          go_meet
          case rel => exact ⟨g5, g1, g2, rfl, nw_fin K5.out K1.out K2.out HB.out (by simp) hg5 hg1⟩
        exact wpAnyLs_nil
      refine wpAnyLs_cons (oi := ⟨some 22, _, _, _, _, _⟩) rfl (fun K hK => ?_) ?_
      · have hmk2 := HMK2.out
        go_simp
        clear hmk2
        have K2 := hide (Bk.new x_1 22 (madeCells #[.slice none 0 0] m2))
        have hg2 : w1.heap.size ≤ (x_1).heap.size := HB.out.size
        replace HB := hide (HB.out.trans ((below_new x_1 (.cells (madeCells #[.slice none 0 0] m2) 22)).mono HB.out.size))
        generalize (World.alloc x_1 (.cells (madeCells #[.slice none 0 0] m2) 22)) = x_1_7 at *
        generalize (x_1).heap.size = g2 at *
        refine hK.out _ _ (fun _ => (KT.out _ HB.out)) ?_
        clear hK K
        (try simp only [Act.put, List.setIfInBounds_toArray, List.set_cons_zero, List.set_cons_succ])
        refine wpAnyL_some 2 [9] (by kernel_rfl) ?_
        refine wpAnyLs_cons (oi := ⟨some 17, _, _, _, _, _⟩) rfl (fun K hK => ?_) ?_
        · have hmk1 := HMK1.out
          go_simp
          clear hmk1
          have K1 := hide (Bk.new x_1_7 33 (wc64 (List.replicate N 0)))
          have hg1 : w1.heap.size ≤ (x_1_7).heap.size := HB.out.size
          replace K2 := hide (K2.out.alloc (.cells (wc64 (List.replicate N 0)) 33))
          replace HB := hide (HB.out.trans ((below_new x_1_7 (.cells (wc64 (List.replicate N 0)) 33)).mono HB.out.size))
          generalize (World.alloc x_1_7 (.cells (wc64 (List.replicate N 0)) 33)) = x_1_2_7 at *
          generalize (x_1_7).heap.size = g1 at *
          refine hK.out _ _ (fun _ => (KT.out _ HB.out)) ?_
          clear hK K
          (try simp only [Act.put, List.setIfInBounds_toArray, List.set_cons_zero, List.set_cons_succ])
          refine wpAnyL_any (i := 8) (oi := ⟨some 23, _, _, _, _, _⟩) (v := ?vve_8_8) rfl (by kernel_rfl) (by kernel_rfl) (by kernel_rfl) (by kernel_rfl) (fun _ _ _ h => h) (fun _ => (KT.out _ HB.out)) (by rfl) ?hhe_8_8 ?rre_8_8
          case hhe_8_8 => (intro W; go_simp; try with_reducible rfl)
          (try simp only [Act.put, List.setIfInBounds_toArray, List.set_cons_zero, List.set_cons_succ])
          refine wpAnyL_one (i := 9) (oi := ⟨some 5, _, _, _, _, _⟩) rfl (by kernel_rfl) (fun K hK => ?_)
          go_simp
          have K5 := hide (Bk.new x_1_2_7 48 #[.slice none 0 0, .slice none 0 0, .int .i64 0])
          have hg5 : w1.heap.size ≤ (x_1_2_7).heap.size := HB.out.size
          replace K1 := hide (K1.out.alloc (.cells #[.slice none 0 0, .slice none 0 0, .int .i64 0] 48))
          replace K2 := hide (K2.out.alloc (.cells #[.slice none 0 0, .slice none 0 0, .int .i64 0] 48))
          replace HB := hide (HB.out.trans ((below_new x_1_2_7 (.cells #[.slice none 0 0, .slice none 0 0, .int .i64 0] 48)).mono HB.out.size))
          generalize (World.alloc x_1_2_7 (.cells #[.slice none 0 0, .slice none 0 0, .int .i64 0] 48)) = x_1_2_7_9 at *
          generalize (x_1_2_7).heap.size = g5 at *
          refine hK.out _ _ (fun _ => (KT.out _ HB.out)) ?_
          clear hK K
          (try simp only [Act.put, List.setIfInBounds_toArray, List.set_cons_zero, List.set_cons_succ])
          refine wpAnyL_one (i := 10) (oi := ⟨none, _, _, _, _, _⟩) rfl (by kernel_rfl) (fun K hK => ?_)
          obtain ⟨m0, m1, m2', mf⟩ := bkm3 K5.out
          go_simp
          clear m0 m1 m2' mf
          refine hK.out _ _ (fun h => by first | cases h | simp at h) ?_
          clear hK K
          (try simp only [Act.put, List.setIfInBounds_toArray, List.set_cons_zero, List.set_cons_succ])
          refine wpAnyL_done (by kernel_rfl) ?_ _
          go_wp2
          go_meet
          case rel => exact ⟨g5, g1, g2, rfl, nw_fin K5.out K1.out K2.out HB.out (by simp) hg5 hg1⟩
        refine wpAnyLs_cons (oi := ⟨some 5, _, _, _, _, _⟩) rfl (fun K hK => ?_) ?_
        · go_simp
          have K5 := hide (Bk.new x_1_7 48 #[.slice none 0 0, .slice none 0 0, .int .i64 0])
          have hg5 : w1.heap.size ≤ (x_1_7).heap.size := HB.out.size
          replace K2 := hide (K2.out.alloc (.cells #[.slice none 0 0, .slice none 0 0, .int .i64 0] 48))
          replace HB := hide (HB.out.trans ((below_new x_1_7 (.cells #[.slice none 0 0, .slice none 0 0, .int .i64 0] 48)).mono HB.out.size))
          generalize (World.alloc x_1_7 (.cells #[.slice none 0 0, .slice none 0 0, .int .i64 0] 48)) = x_1_7_9 at *
          generalize (x_1_7).heap.size = g5 at *
          refine hK.out _ _ (fun _ => (KT.out _ HB.out)) ?_
          clear hK K
          (try simp only [Act.put, List.setIfInBounds_toArray, List.set_cons_zero, List.set_cons_succ])
          refine wpAnyL_one (i := 2) (oi := ⟨some 17, _, _, _, _, _⟩) rfl (by kernel_rfl) (fun K hK => ?_)
          have hmk1 := HMK1.out
          go_simp
          clear hmk1
          have K1 := hide (Bk.new x_1_7_9 33 (wc64 (List.replicate N 0)))
          have hg1 : w1.heap.size ≤ (x_1_7_9).heap.size := HB.out.size
          replace K2 := hide (K2.out.alloc (.cells (wc64 (List.replicate N 0)) 33))
          replace K5 := hide (K5.out.alloc (.cells (wc64 (List.replicate N 0)) 33))
          replace HB := hide (HB.out.trans ((below_new x_1_7_9 (.cells (wc64 (List.replicate N 0)) 33)).mono HB.out.size))
          generalize (World.alloc x_1_7_9 (.cells (wc64 (List.replicate N 0)) 33)) = x_1_2_7_9 at *
          generalize (x_1_7_9).heap.size = g1 at *
          refine hK.out _ _ (fun _ => (KT.out _ HB.out)) ?_
          clear hK K
          (try simp only [Act.put, List.setIfInBounds_toArray, List.set_cons_zero, List.set_cons_succ])
          refine wpAnyL_any (i := 8) (oi := ⟨some 23, _, _, _, _, _⟩) (v := ?vve_8_9) rfl (by kernel_rfl) (by kernel_rfl) (by kernel_rfl) (by kernel_rfl) (fun _ _ _ h => h) (fun _ => (KT.out _ HB.out)) (by rfl) ?hhe_8_9 ?rre_8_9
          case hhe_8_9 => (intro W; go_simp; try with_reducible rfl)
          (try simp only [Act.put, List.setIfInBounds_toArray, List.set_cons_zero, List.set_cons_succ])
          refine wpAnyL_one (i := 10) (oi := ⟨none, _, _, _, _, _⟩) rfl (by kernel_rfl) (fun K hK => ?_)
          obtain ⟨m0, m1, m2', mf⟩ := bkm3 K5.out
          go_simp
          clear m0 m1 m2' mf
          refine hK.out _ _ (fun h => by first | cases h | simp at h) ?_
          clear hK K
          (try simp only [Act.put, List.setIfInBounds_toArray, List.set_cons_zero, List.set_cons_succ])
          refine wpAnyL_done (by kernel_rfl) ?_ _
          go_wp2
          go_meet
          case rel => exact ⟨g5, g1, g2, rfl, nw_fin K5.out K1.out K2.out HB.out (by simp) hg5 hg1⟩
        exact wpAnyLs_nil
      refine wpAnyLs_cons (oi := ⟨some 5, _, _, _, _, _⟩) rfl (fun K hK => ?_) ?_
      · go_simp
        have K5 := hide (Bk.new x_1 48 #[.slice none 0 0, .slice none 0 0, .int .i64 0])
        have hg5 : w1.heap.size ≤ (x_1).heap.size := HB.out.size
        replace HB := hide (HB.out.trans ((below_new x_1 (.cells #[.slice none 0 0, .slice none 0 0, .int .i64 0] 48)).mono HB.out.size))
        generalize (World.alloc x_1 (.cells #[.slice none 0 0, .slice none 0 0, .int .i64 0] 48)) = x_1_9 at *
        generalize (x_1).heap.size = g5 at *
        refine hK.out _ _ (fun _ => (KT.out _ HB.out)) ?_
        clear hK K
        (try simp only [Act.put, List.setIfInBounds_toArray, List.set_cons_zero, List.set_cons_succ])
        refine wpAnyL_some 2 [7] (by kernel_rfl) ?_
        refine wpAnyLs_cons (oi := ⟨some 17, _, _, _, _, _⟩) rfl (fun K hK => ?_) ?_
        · have hmk1 := HMK1.out
          go_simp
          clear hmk1
          have K1 := hide (Bk.new x_1_9 33 (wc64 (List.replicate N 0)))
          have hg1 : w1.heap.size ≤ (x_1_9).heap.size := HB.out.size
          replace K5 := hide (K5.out.alloc (.cells (wc64 (List.replicate N 0)) 33))
          replace HB := hide (HB.out.trans ((below_new x_1_9 (.cells (wc64 (List.replicate N 0)) 33)).mono HB.out.size))
          generalize (World.alloc x_1_9 (.cells (wc64 (List.replicate N 0)) 33)) = x_1_2_9 at *
          generalize (x_1_9).heap.size = g1 at *
          refine hK.out _ _ (fun _ => (KT.out _ HB.out)) ?_
          clear hK K
          (try simp only [Act.put, List.setIfInBounds_toArray, List.set_cons_zero, List.set_cons_succ])
          refine wpAnyL_one (i := 7) (oi := ⟨some 22, _, _, _, _, _⟩) rfl (by kernel_rfl) (fun K hK => ?_)
          have hmk2 := HMK2.out
          go_simp
          clear hmk2
          have K2 := hide (Bk.new x_1_2_9 22 (madeCells #[.slice none 0 0] m2))
          have hg2 : w1.heap.size ≤ (x_1_2_9).heap.size := HB.out.size
          replace K1 := hide (K1.out.alloc (.cells (madeCells #[.slice none 0 0] m2) 22))
          replace K5 := hide (K5.out.alloc (.cells (madeCells #[.slice none 0 0] m2) 22))
          replace HB := hide (HB.out.trans ((below_new x_1_2_9 (.cells (madeCells #[.slice none 0 0] m2) 22)).mono HB.out.size))
          generalize (World.alloc x_1_2_9 (.cells (madeCells #[.slice none 0 0] m2) 22)) = x_1_2_7_9 at *
          generalize (x_1_2_9).heap.size = g2 at *
          refine hK.out _ _ (fun _ => (KT.out _ HB.out)) ?_
          clear hK K
          (try simp only [Act.put, List.setIfInBounds_toArray, List.set_cons_zero, List.set_cons_succ])
          refine wpAnyL_any (i := 8) (oi := ⟨some 23, _, _, _, _, _⟩) (v := ?vve_8_10) rfl (by kernel_rfl) (by kernel_rfl) (by kernel_rfl) (by kernel_rfl) (fun _ _ _ h => h) (fun _ => (KT.out _ HB.out)) (by rfl) ?hhe_8_10 ?rre_8_10
          case hhe_8_10 => (intro W; go_simp; try with_reducible rfl)
          (try simp only [Act.put, List.setIfInBounds_toArray, List.set_cons_zero, List.set_cons_succ])
          refine wpAnyL_one (i := 10) (oi := ⟨none, _, _, _, _, _⟩) rfl (by kernel_rfl) (fun K hK => ?_)
          obtain ⟨m0, m1, m2', mf⟩ := bkm3 K5.out
          go_simp
          clear m0 m1 m2' mf
          refine hK.out _ _ (fun h => by first | cases h | simp at h) ?_
          clear hK K
          (try simp only [Act.put, List.setIfInBounds_toArray, List.set_cons_zero, List.set_cons_succ])
          refine wpAnyL_done (by kernel_rfl) ?_ _
          go_wp2
          go_meet
          case rel => exact ⟨g5, g1, g2, rfl, nw_fin K5.out K1.out K2.out HB.out (by simp) hg5 hg1⟩
        refine wpAnyLs_cons (oi := ⟨some 22, _, _, _, _, _⟩) rfl (fun K hK => ?_) ?_
        · have hmk2 := HMK2.out
          go_simp
          clear hmk2
          have K2 := hide (Bk.new x_1_9 22 (madeCells #[.slice none 0 0] m2))
          have hg2 : w1.heap.size ≤ (x_1_9).heap.size := HB.out.size
          replace K5 := hide (K5.out.alloc (.cells (madeCells #[.slice none 0 0] m2) 22))
          replace HB := hide (HB.out.trans ((below_new x_1_9 (.cells (madeCells #[.slice none 0 0] m2) 22)).mono HB.out.size))
          generalize (World.alloc x_1_9 (.cells (madeCells #[.slice none 0 0] m2) 22)) = x_1_7_9 at *
          generalize (x_1_9).heap.size = g2 at *
          refine hK.out _ _ (fun _ => (KT.out _ HB.out)) ?_
          clear hK K
          (try simp only [Act.put, List.setIfInBounds_toArray, List.set_cons_zero, List.set_cons_succ])
          refine wpAnyL_one (i := 2) (oi := ⟨some 17, _, _, _, _, _⟩) rfl (by kernel_rfl) (fun K hK => ?_)
          have hmk1 := HMK1.out
          go_simp
          clear hmk1
          have K1 := hide (Bk.new x_1_7_9 33 (wc64 (List.replicate N 0)))
          have hg1 : w1.heap.size ≤ (x_1_7_9).heap.size := HB.out.size
          replace K2 := hide (K2.out.alloc (.cells (wc64 (List.replicate N 0)) 33))
          replace K5 := hide (K5.out.alloc (.cells (wc64 (List.replicate N 0)) 33))
          replace HB := hide (HB.out.trans ((below_new x_1_7_9 (.cells (wc64 (List.replicate N 0)) 33)).mono HB.out.size))
          generalize (World.alloc x_1_7_9 (.cells (wc64 (List.replicate N 0)) 33)) = x_1_2_7_9 at *
          generalize (x_1_7_9).heap.size = g1 at *
          refine hK.out _ _ (fun _ => (KT.out _ HB.out)) ?_
          clear hK K
          (try simp only [Act.put, List.setIfInBounds_toArray, List.set_cons_zero, List.set_cons_succ])
          refine wpAnyL_any (i := 8) (oi := ⟨some 23, _, _, _, _, _⟩) (v := ?vve_8_11) rfl (by kernel_rfl) (by kernel_rfl) (by kernel_rfl) (by kernel_rfl) (fun _ _ _ h => h) (fun _ => (KT.out _ HB.out)) (by rfl) ?hhe_8_11 ?rre_8_11
          case hhe_8_11 => (intro W; go_simp; try with_reducible rfl)
          (try simp only [Act.put, List.setIfInBounds_toArray, List.set_cons_zero, List.set_cons_succ])
          refine wpAnyL_one (i := 10) (oi := ⟨none, _, _, _, _, _⟩) rfl (by kernel_rfl) (fun K hK => ?_)
          obtain ⟨m0, m1, m2', mf⟩ := bkm3 K5.out
          go_simp
          clear m0 m1 m2' mf
          refine hK.out _ _ (fun h => by first | cases h | simp at h) ?_
          clear hK K
          (try simp only [Act.put, List.setIfInBounds_toArray, List.set_cons_zero, List.set_cons_succ])
          refine wpAnyL_done (by kernel_rfl) ?_ _
          go_wp2
          go_meet
          case rel => exact ⟨g5, g1, g2, rfl, nw_fin K5.out K1.out K2.out HB.out (by simp) hg5 hg1⟩
        exact wpAnyLs_nil
      exact wpAnyLs_nil
    refine wpAnyLs_cons (oi := ⟨some 22, _, _, _, _, _⟩) rfl (fun K hK => ?_) ?_
    · have hmk2 := HMK2.out
      go_simp
      clear hmk2
      have K2 := hide (Bk.new xd 22 (madeCells #[.slice none 0 0] m2))
      have hg2 : w1.heap.size ≤ (xd).heap.size := HB.out.size
      replace HB := hide (HB.out.trans ((below_new xd (.cells (madeCells #[.slice none 0 0] m2) 22)).mono HB.out.size))
      generalize (World.alloc xd (.cells (madeCells #[.slice none 0 0] m2) 22)) = x_7 at *
      generalize (xd).heap.size = g2 at *
      refine hK.out _ _ (fun _ => (KT.out _ HB.out)) ?_
      clear hK K
      (try simp only [Act.put, List.setIfInBounds_toArray, List.set_cons_zero, List.set_cons_succ])
      refine wpAnyL_some 1 [9] (by kernel_rfl) ?_
      refine wpAnyLs_cons (oi := ⟨some 16, _, _, _, _, _⟩) rfl (fun K hK => ?_) ?_
      · refine step_call _ (by rfl) 45 _ (by go_simp) (HWD.out _ HB.out) ?_
        rintro e x_1_7 ⟨rfl, hb⟩
        refine ⟨_, rfl, ?_⟩
        replace K2 := hide (K2.out.below hb K2.out.lt)
        replace HB := hide (HB.out.trans (hb.mono HB.out.size))
        clear hb
        refine hK.out _ _ (fun _ => (KT.out _ HB.out)) ?_
        clear hK K
        (try simp only [Act.put, List.setIfInBounds_toArray, List.set_cons_zero, List.set_cons_succ])
        refine wpAnyL_some 2 [9] (by kernel_rfl) ?_
        refine wpAnyLs_cons (oi := ⟨some 17, _, _, _, _, _⟩) rfl (fun K hK => ?_) ?_
        · have hmk1 := HMK1.out
          go_simp
          clear hmk1
          have K1 := hide (Bk.new x_1_7 33 (wc64 (List.replicate N 0)))
          have hg1 : w1.heap.size ≤ (x_1_7).heap.size := HB.out.size
          replace K2 := hide (K2.out.alloc (.cells (wc64 (List.replicate N 0)) 33))
          replace HB := hide (HB.out.trans ((below_new x_1_7 (.cells (wc64 (List.replicate N 0)) 33)).mono HB.out.size))
          generalize (World.alloc x_1_7 (.cells (wc64 (List.replicate N 0)) 33)) = x_1_2_7 at *
          generalize (x_1_7).heap.size = g1 at *
          refine hK.out _ _ (fun _ => (KT.out _ HB.out)) ?_
          clear hK K
          (try simp only [Act.put, List.setIfInBounds_toArray, List.set_cons_zero, List.set_cons_succ])
          refine wpAnyL_any (i := 8) (oi := ⟨some 23, _, _, _, _, _⟩) (v := ?vve_8_12) rfl (by kernel_rfl) (by kernel_rfl) (by kernel_rfl) (by kernel_rfl) (fun _ _ _ h => h) (fun _ => (KT.out _ HB.out)) (by rfl) ?hhe_8_12 ?rre_8_12
          case hhe_8_12 => (intro W; go_simp; try with_reducible rfl)
          (try simp only [Act.put, List.setIfInBounds_toArray, List.set_cons_zero, List.set_cons_succ])
          refine wpAnyL_one (i := 9) (oi := ⟨some 5, _, _, _, _, _⟩) rfl (by kernel_rfl) (fun K hK => ?_)
          go_simp
          have K5 := hide (Bk.new x_1_2_7 48 #[.slice none 0 0, .slice none 0 0, .int .i64 0])
          have hg5 : w1.heap.size ≤ (x_1_2_7).heap.size := HB.out.size
          replace K1 := hide (K1.out.alloc (.cells #[.slice none 0 0, .slice none 0 0, .int .i64 0] 48))
          replace K2 := hide (K2.out.alloc (.cells #[.slice none 0 0, .slice none 0 0, .int .i64 0] 48))
          replace HB := hide (HB.out.trans ((below_new x_1_2_7 (.cells #[.slice none 0 0, .slice none 0 0, .int .i64 0] 48)).mono HB.out.size))
          generalize (World.alloc x_1_2_7 (.cells #[.slice none 0 0, .slice none 0 0, .int .i64 0] 48)) = x_1_2_7_9 at *
          generalize (x_1_2_7).heap.size = g5 at *
          refine hK.out _ _ (fun _ => (KT.out _ HB.out)) ?_
          clear hK K
          (try simp only [Act.put, List.setIfInBounds_toArray, List.set_cons_zero, List.set_cons_succ])
          refine wpAnyL_one (i := 10) (oi := ⟨none, _, _, _, _, _⟩) rfl (by kernel_rfl) (fun K hK => ?_)
          obtain ⟨m0, m1, m2', mf⟩ := bkm3 K5.out
          go_simp
          clear m0 m1 m2' mf
          refine hK.out _ _ (fun h => by first | cases h | simp at h) ?_
          clear hK K
          (try simp only [Act.put, List.setIfInBounds_toArray, List.set_cons_zero, List.set_cons_succ])
          refine wpAnyL_done (by kernel_rfl) ?_ _
          go_wp2
          go_meet
          case rel => exact ⟨g5, g1, g2, rfl, nw_fin K5.out K1.out K2.out HB.out (by simp) hg5 hg1⟩
        refine wpAnyLs_cons (oi := ⟨some 5, _, _, _, _, _⟩) rfl (fun K hK => ?_) ?_
        · go_simp
          have K5 := hide (Bk.new x_1_7 48 #[.slice none 0 0, .slice none 0 0, .int .i64 0])
          have hg5 : w1.heap.size ≤ (x_1_7).heap.size := HB.out.size
          replace K2 := hide (K2.out.alloc (.cells #[.slice none 0 0, .slice none 0 0, .int .i64 0] 48))
          replace HB := hide (HB.out.trans ((below_new x_1_7 (.cells #[.slice none 0 0, .slice none 0 0, .int .i64 0] 48)).mono HB.out.size))
          generalize (World.alloc x_1_7 (.cells #[.slice none 0 0, .slice none 0 0, .int .i64 0] 48)) = x_1_7_9 at *
          generalize (x_1_7).heap.size = g5 at *
          refine hK.out _ _ (fun _ => (KT.out _ HB.out)) ?_
          clear hK K
          (try simp only [Act.put, List.setIfInBounds_toArray, List.set_cons_zero, List.set_cons_succ])
          refine wpAnyL_one (i := 2) (oi := ⟨some 17, _, _, _, _, _⟩) rfl (by kernel_rfl) (fun K hK => ?_)
          have hmk1 := HMK1.out
          go_simp
          clear hmk1
          have K1 := hide (Bk.new x_1_7_9 33 (wc64 (List.replicate N 0)))
          have hg1 : w1.heap.size ≤ (x_1_7_9).heap.size := HB.out.size
          replace K2 := hide (K2.out.alloc (.cells (wc64 (List.replicate N 0)) 33))
          replace K5 := hide (K5.out.alloc (.cells (wc64 (List.replicate N 0)) 33))
          replace HB := hide (HB.out.trans ((below_new x_1_7_9 (.cells (wc64 (List.replicate N 0)) 33)).mono HB.out.size))
          generalize (World.alloc x_1_7_9 (.cells (wc64 (List.replicate N 0)) 33)) = x_1_2_7_9 at *
          generalize (x_1_7_9).heap.size = g1 at *
          refine hK.out _ _ (fun _ => (KT.out _ HB.out)) ?_
          clear hK K
          (try simp only [Act.put, List.setIfInBounds_toArray, List.set_cons_zero, List.set_cons_succ])
          refine wpAnyL_any (i := 8) (oi := ⟨some 23, _, _, _, _, _⟩) (v := ?vve_8_13) rfl (by kernel_rfl) (by kernel_rfl) (by kernel_rfl) (by kernel_rfl) (fun _ _ _ h => h) (fun _ => (KT.out _ HB.out)) (by rfl) ?hhe_8_13 ?rre_8_13
          case hhe_8_13 => (intro W; go_simp; try with_reducible rfl)
          (try simp only [Act.put, List.setIfInBounds_toArray, List.set_cons_zero, List.set_cons_succ])
          refine wpAnyL_one (i := 10) (oi := ⟨none, _, _, _, _, _⟩) rfl (by kernel_rfl) (fun K hK => ?_)
          obtain ⟨m0, m1, m2', mf⟩ := bkm3 K5.out
          go_simp
          clear m0 m1 m2' mf
          refine hK.out _ _ (fun h => by first | cases h | simp at h) ?_
          clear hK K
          (try simp only [Act.put, List.setIfInBounds_toArray, List.set_cons_zero, List.set_cons_succ])
          refine wpAnyL_done (by kernel_rfl) ?_ _
          go_wp2
          go_meet
          case rel => exact ⟨g5, g1, g2, rfl, nw_fin K5.out K1.out K2.out HB.out (by simp) hg5 hg1⟩
        exact wpAnyLs_nil
      refine wpAnyLs_cons (oi := ⟨some 5, _, _, _, _, _⟩) rfl (fun K hK => ?_) ?_
      · go_simp
        have K5 := hide (Bk.new x_7 48 #[.slice none 0 0, .slice none 0 0, .int .i64 0])
        have hg5 : w1.heap.size ≤ (x_7).heap.size := HB.out.size
        replace K2 := hide (K2.out.alloc (.cells #[.slice none 0 0, .slice none 0 0, .int .i64 0] 48))
        replace HB := hide (HB.out.trans ((below_new x_7 (.cells #[.slice none 0 0, .slice none 0 0, .int .i64 0] 48)).mono HB.out.size))
        generalize (World.alloc x_7 (.cells #[.slice none 0 0, .slice none 0 0, .int .i64 0] 48)) = x_7_9 at *
        generalize (x_7).heap.size = g5 at *
        refine hK.out _ _ (fun _ => (KT.out _ HB.out)) ?_
        clear hK K
        (try simp only [Act.put, List.setIfInBounds_toArray, List.set_cons_zero, List.set_cons_succ])
        refine wpAnyL_one (i := 1) (oi := ⟨some 16, _, _, _, _, _⟩) rfl (by kernel_rfl) (fun K hK => ?_)
        refine step_call _ (by rfl) 45 _ (by go_simp) (HWD.out _ HB.out) ?_
        rintro e x_1_7_9 ⟨rfl, hb⟩
        refine ⟨_, rfl, ?_⟩
        replace K2 := hide (K2.out.below hb K2.out.lt)
        replace K5 := hide (K5.out.below hb K5.out.lt)
        replace HB := hide (HB.out.trans (hb.mono HB.out.size))
        clear hb
        refine hK.out _ _ (fun _ => (KT.out _ HB.out)) ?_
        clear hK K
        (try simp only [Act.put, List.setIfInBounds_toArray, List.set_cons_zero, List.set_cons_succ])
        refine wpAnyL_one (i := 2) (oi := ⟨some 17, _, _, _, _, _⟩) rfl (by kernel_rfl) (fun K hK => ?_)
        have hmk1 := HMK1.out
        go_simp
        clear hmk1
        have K1 := hide (Bk.new x_1_7_9 33 (wc64 (List.replicate N 0)))
        have hg1 : w1.heap.size ≤ (x_1_7_9).heap.size := HB.out.size
        replace K2 := hide (K2.out.alloc (.cells (wc64 (List.replicate N 0)) 33))
        replace K5 := hide (K5.out.alloc (.cells (wc64 (List.replicate N 0)) 33))
        replace HB := hide (HB.out.trans ((below_new x_1_7_9 (.cells (wc64 (List.replicate N 0)) 33)).mono HB.out.size))
        generalize (World.alloc x_1_7_9 (.cells (wc64 (List.replicate N 0)) 33)) = x_1_2_7_9 at *
        generalize (x_1_7_9).heap.size = g1 at *
        refine hK.out _ _ (fun _ => (KT.out _ HB.out)) ?_
        clear hK K
        (try simp only [Act.put, List.setIfInBounds_toArray, List.set_cons_zero, List.set_cons_succ])
        refine wpAnyL_any (i := 8) (oi := ⟨some 23, _, _, _, _, _⟩) (v := ?vve_8_14) rfl (by kernel_rfl) (by kernel_rfl) (by kernel_rfl) (by kernel_rfl) (fun _ _ _ h => h) (fun _ => (KT.out _ HB.out)) (by rfl) ?hhe_8_14 ?rre_8_14
        case hhe_8_14 => (intro W; go_simp; try with_reducible rfl)
        (try simp only [Act.put, List.setIfInBounds_toArray, List.set_cons_zero, List.set_cons_succ])
        refine wpAnyL_one (i := 10) (oi := ⟨none, _, _, _, _, _⟩) rfl (by kernel_rfl) (fun K hK => ?_)
        obtain ⟨m0, m1, m2', mf⟩ := bkm3 K5.out
        go_simp
        clear m0 m1 m2' mf
        refine hK.out _ _ (fun h => by first | cases h | simp at h) ?_
        clear hK K
        (try simp only [Act.put, List.setIfInBounds_toArray, List.set_cons_zero, List.set_cons_succ])
        refine wpAnyL_done (by kernel_rfl) ?_ _
        go_wp2
        go_meet
        case rel => exact ⟨g5, g1, g2, rfl, nw_fin K5.out K1.out K2.out HB.out (by simp) hg5 hg1⟩
      exact wpAnyLs_nil
    refine wpAnyLs_cons (oi := ⟨some 5, _, _, _, _, _⟩) rfl (fun K hK => ?_) ?_
    · go_simp
      have K5 := hide (Bk.new xd 48 #[.slice none 0 0, .slice none 0 0, .int .i64 0])
      have hg5 : w1.heap.size ≤ (xd).heap.size := HB.out.size
      replace HB := hide (HB.out.trans ((below_new xd (.cells #[.slice none 0 0, .slice none 0 0, .int .i64 0] 48)).mono HB.out.size))
      generalize (World.alloc xd (.cells #[.slice none 0 0, .slice none 0 0, .int .i64 0] 48)) = x_9 at *
      generalize (xd).heap.size = g5 at *
      refine hK.out _ _ (fun _ => (KT.out _ HB.out)) ?_
      clear hK K
      (try simp only [Act.put, List.setIfInBounds_toArray, List.set_cons_zero, List.set_cons_succ])
      refine wpAnyL_some 1 [7] (by kernel_rfl) ?_
      refine wpAnyLs_cons (oi := ⟨some 16, _, _, _, _, _⟩) rfl (fun K hK => ?_) ?_
      · refine step_call _ (by rfl) 45 _ (by go_simp) (HWD.out _ HB.out) ?_
        rintro e x_1_9 ⟨rfl, hb⟩
        refine ⟨_, rfl, ?_⟩
        replace K5 := hide (K5.out.below hb K5.out.lt)
        replace HB := hide (HB.out.trans (hb.mono HB.out.size))
        clear hb
        refine hK.out _ _ (fun _ => (KT.out _ HB.out)) ?_
        clear hK K
        (try simp only [Act.put, List.setIfInBounds_toArray, List.set_cons_zero, List.set_cons_succ])
        refine wpAnyL_some 2 [7] (by kernel_rfl) ?_
        refine wpAnyLs_cons (oi := ⟨some 17, _, _, _, _, _⟩) rfl (fun K hK => ?_) ?_
        · have hmk1 := HMK1.out
          go_simp
          clear hmk1
          have K1 := hide (Bk.new x_1_9 33 (wc64 (List.replicate N 0)))
          have hg1 : w1.heap.size ≤ (x_1_9).heap.size := HB.out.size
          replace K5 := hide (K5.out.alloc (.cells (wc64 (List.replicate N 0)) 33))
          replace HB := hide (HB.out.trans ((below_new x_1_9 (.cells (wc64 (List.replicate N 0)) 33)).mono HB.out.size))
          generalize (World.alloc x_1_9 (.cells (wc64 (List.replicate N 0)) 33)) = x_1_2_9 at *
          generalize (x_1_9).heap.size = g1 at *
          refine hK.out _ _ (fun _ => (KT.out _ HB.out)) ?_
          clear hK K
          (try simp only [Act.put, List.setIfInBounds_toArray, List.set_cons_zero, List.set_cons_succ])
          refine wpAnyL_one (i := 7) (oi := ⟨some 22, _, _, _, _, _⟩) rfl (by kernel_rfl) (fun K hK => ?_)
          have hmk2 := HMK2.out
          go_simp
          clear hmk2
          have K2 := hide (Bk.new x_1_2_9 22 (madeCells #[.slice none 0 0] m2))
          have hg2 : w1.heap.size ≤ (x_1_2_9).heap.size := HB.out.size
          replace K1 := hide (K1.out.alloc (.cells (madeCells #[.slice none 0 0] m2) 22))
          replace K5 := hide (K5.out.alloc (.cells (madeCells #[.slice none 0 0] m2) 22))
          replace HB := hide (HB.out.trans ((below_new x_1_2_9 (.cells (madeCells #[.slice none 0 0] m2) 22)).mono HB.out.size))
          generalize (World.alloc x_1_2_9 (.cells (madeCells #[.slice none 0 0] m2) 22)) = x_1_2_7_9 at *
          generalize (x_1_2_9).heap.size = g2 at *
          refine hK.out _ _ (fun _ => (KT.out _ HB.out)) ?_
          clear hK K
          (try simp only [Act.put, List.setIfInBounds_toArray, List.set_cons_zero, List.set_cons_succ])
          refine wpAnyL_any (i := 8) (oi := ⟨some 23, _, _, _, _, _⟩) (v := ?vve_8_15) rfl (by kernel_rfl) (by kernel_rfl) (by kernel_rfl) (by kernel_rfl) (fun _ _ _ h => h) (fun _ => (KT.out _ HB.out)) (by rfl) ?hhe_8_15 ?rre_8_15
          case hhe_8_15 => (intro W; go_simp; try with_reducible rfl)
          (try simp only [Act.put, List.setIfInBounds_toArray, List.set_cons_zero, List.set_cons_succ])
          refine wpAnyL_one (i := 10) (oi := ⟨none, _, _, _, _, _⟩) rfl (by kernel_rfl) (fun K hK => ?_)
          obtain ⟨m0, m1, m2', mf⟩ := bkm3 K5.out
          go_simp
          clear m0 m1 m2' mf
          refine hK.out _ _ (fun h => by first | cases h | simp at h) ?_
          clear hK K
          (try simp only [Act.put, List.setIfInBounds_toArray, List.set_cons_zero, List.set_cons_succ])
          refine wpAnyL_done (by kernel_rfl) ?_ _
          go_wp2
          go_meet
          case rel => exact ⟨g5, g1, g2, rfl, nw_fin K5.out K1.out K2.out HB.out (by simp) hg5 hg1⟩
        refine wpAnyLs_cons (oi := ⟨some 22, _, _, _, _, _⟩) rfl (fun K hK => ?_) ?_
        · have hmk2 := HMK2.out
          go_simp
          clear hmk2
          have K2 := hide (Bk.new x_1_9 22 (madeCells #[.slice none 0 0] m2))
          have hg2 : w1.heap.size ≤ (x_1_9).heap.size := HB.out.size
          replace K5 := hide (K5.out.alloc (.cells (madeCells #[.slice none 0 0] m2) 22))
          replace HB := hide (HB.out.trans ((below_new x_1_9 (.cells (madeCells #[.slice none 0 0] m2) 22)).mono HB.out.size))
          generalize (World.alloc x_1_9 (.cells (madeCells #[.slice none 0 0] m2) 22)) = x_1_7_9 at *
          generalize (x_1_9).heap.size = g2 at *
          refine hK.out _ _ (fun _ => (KT.out _ HB.out)) ?_
          clear hK K
          (try simp only [Act.put, List.setIfInBounds_toArray, List.set_cons_zero, List.set_cons_succ])
          refine wpAnyL_one (i := 2) (oi := ⟨some 17, _, _, _, _, _⟩) rfl (by kernel_rfl) (fun K hK => ?_)
          have hmk1 := HMK1.out
          go_simp
          clear hmk1
          have K1 := hide (Bk.new x_1_7_9 33 (wc64 (List.replicate N 0)))
          have hg1 : w1.heap.size ≤ (x_1_7_9).heap.size := HB.out.size
          replace K2 := hide (K2.out.alloc (.cells (wc64 (List.replicate N 0)) 33))
          replace K5 := hide (K5.out.alloc (.cells (wc64 (List.replicate N 0)) 33))
          replace HB := hide (HB.out.trans ((below_new x_1_7_9 (.cells (wc64 (List.replicate N 0)) 33)).mono HB.out.size))
          generalize (World.alloc x_1_7_9 (.cells (wc64 (List.replicate N 0)) 33)) = x_1_2_7_9 at *
          generalize (x_1_7_9).heap.size = g1 at *
          refine hK.out _ _ (fun _ => (KT.out _ HB.out)) ?_
          clear hK K
          (try simp only [Act.put, List.setIfInBounds_toArray, List.set_cons_zero, List.set_cons_succ])
          refine wpAnyL_any (i := 8) (oi := ⟨some 23, _, _, _, _, _⟩) (v := ?vve_8_16) rfl (by kernel_rfl) (by kernel_rfl) (by kernel_rfl) (by kernel_rfl) (fun _ _ _ h => h) (fun _ => (KT.out _ HB.out)) (by rfl) ?hhe_8_16 ?rre_8_16
          case hhe_8_16 => (intro W; go_simp; try with_reducible rfl)
          (try simp only [Act.put, List.setIfInBounds_toArray, List.set_cons_zero, List.set_cons_succ])
          refine wpAnyL_one (i := 10) (oi := ⟨none, _, _, _, _, _⟩) rfl (by kernel_rfl) (fun K hK => ?_)
          obtain ⟨m0, m1, m2', mf⟩ := bkm3 K5.out
          go_simp
          clear m0 m1 m2' mf
          refine hK.out _ _ (fun h => by first | cases h | simp at h) ?_
          clear hK K
          (try simp only [Act.put, List.setIfInBounds_toArray, List.set_cons_zero, List.set_cons_succ])
          refine wpAnyL_done (by kernel_rfl) ?_ _
          go_wp2
          go_meet
          case rel => exact ⟨g5, g1, g2, rfl, nw_fin K5.out K1.out K2.out HB.out (by simp) hg5 hg1⟩
        exact wpAnyLs_nil
      refine wpAnyLs_cons (oi := ⟨some 22, _, _, _, _, _⟩) rfl (fun K hK => ?_) ?_
      · have hmk2 := HMK2.out
        go_simp
        clear hmk2
        have K2 := hide (Bk.new x_9 22 (madeCells #[.slice none 0 0] m2))
        have hg2 : w1.heap.size ≤ (x_9).heap.size := HB.out.size
        replace K5 := hide (K5.out.alloc (.cells (madeCells #[.slice none 0 0] m2) 22))
        replace HB := hide (HB.out.trans ((below_new x_9 (.cells (madeCells #[.slice none 0 0] m2) 22)).mono HB.out.size))
        generalize (World.alloc x_9 (.cells (madeCells #[.slice none 0 0] m2) 22)) = x_7_9 at *
        generalize (x_9).heap.size = g2 at *
        refine hK.out _ _ (fun _ => (KT.out _ HB.out)) ?_
        clear hK K
        (try simp only [Act.put, List.setIfInBounds_toArray, List.set_cons_zero, List.set_cons_succ])
        refine wpAnyL_one (i := 1) (oi := ⟨some 16, _, _, _, _, _⟩) rfl (by kernel_rfl) (fun K hK => ?_)
        refine step_call _ (by rfl) 45 _ (by go_simp) (HWD.out _ HB.out) ?_
        rintro e x_1_7_9 ⟨rfl, hb⟩
        refine ⟨_, rfl, ?_⟩
        replace K2 := hide (K2.out.below hb K2.out.lt)
        replace K5 := hide (K5.out.below hb K5.out.lt)
        replace HB := hide (HB.out.trans (hb.mono HB.out.size))
        clear hb
        refine hK.out _ _ (fun _ => (KT.out _ HB.out)) ?_
        clear hK K
        (try simp only [Act.put, List.setIfInBounds_toArray, List.set_cons_zero, List.set_cons_succ])
        refine wpAnyL_one (i := 2) (oi := ⟨some 17, _, _, _, _, _⟩) rfl (by kernel_rfl) (fun K hK => ?_)
        have hmk1 := HMK1.out
        go_simp
        clear hmk1
        have K1 := hide (Bk.new x_1_7_9 33 (wc64 (List.replicate N 0)))
        have hg1 : w1.heap.size ≤ (x_1_7_9).heap.size := HB.out.size
        replace K2 := hide (K2.out.alloc (.cells (wc64 (List.replicate N 0)) 33))
        replace K5 := hide (K5.out.alloc (.cells (wc64 (List.replicate N 0)) 33))
        replace HB := hide (HB.out.trans ((below_new x_1_7_9 (.cells (wc64 (List.replicate N 0)) 33)).mono HB.out.size))
        generalize (World.alloc x_1_7_9 (.cells (wc64 (List.replicate N 0)) 33)) = x_1_2_7_9 at *
        generalize (x_1_7_9).heap.size = g1 at *
        refine hK.out _ _ (fun _ => (KT.out _ HB.out)) ?_
        clear hK K
        (try simp only [Act.put, List.setIfInBounds_toArray, List.set_cons_zero, List.set_cons_succ])
        refine wpAnyL_any (i := 8) (oi := ⟨some 23, _, _, _, _, _⟩) (v := ?vve_8_17) rfl (by kernel_rfl) (by kernel_rfl) (by kernel_rfl) (by kernel_rfl) (fun _ _ _ h => h) (fun _ => (KT.out _ HB.out)) (by rfl) ?hhe_8_17 ?rre_8_17
        case hhe_8_17 => (intro W; go_simp; try with_reducible rfl)
        (try simp only [Act.put, List.setIfInBounds_toArray, List.set_cons_zero, List.set_cons_succ])
        refine wpAnyL_one (i := 10) (oi := ⟨none, _, _, _, _, _⟩) rfl (by kernel_rfl) (fun K hK => ?_)
        obtain ⟨m0, m1, m2', mf⟩ := bkm3 K5.out
        go_simp
        clear m0 m1 m2' mf
        refine hK.out _ _ (fun h => by first | cases h | simp at h) ?_
        clear hK K
        (try simp only [Act.put, List.setIfInBounds_toArray, List.set_cons_zero, List.set_cons_succ])
        refine wpAnyL_done (by kernel_rfl) ?_ _
        go_wp2
        go_meet
        case rel => exact ⟨g5, g1, g2, rfl, nw_fin K5.out K1.out K2.out HB.out (by simp) hg5 hg1⟩
      exact wpAnyLs_nil
    exact wpAnyLs_nil
  case rest =>
    obtain ⟨g5, gW, gL, rfl, hn0⟩ := hcut
    have HW0 := hide hn0
    clear hn0
    go_wp2
    go_loopg [6, 7, 8] n (fun g s6 s7 s8 wr => ∃ j : Nat, g + j = n ∧ s6 = .int .i64 j ∧ Nw w1 wr g5 gW gL m2 N (chansI l s j (List.replicate N 0)))
    case atStart => exact ⟨0, by omega, rfl, HW0.out⟩
    case round =>
      obtain ⟨j, hj, rfl, hnw⟩ := hrel
      have H0 := hide hnw
      clear hnw HW0
      obtain ⟨k0, k1, k2, -⟩ := bkm3 (KC.out.below H0.out.bel KC.out.lt)
      by_cases hlt : j < n
      · have hCr := HC1.out.below H0.out.bel
        obtain ⟨x1, x2⟩ := hCr.in_ hlt
        have x3 := sz_bd _ x1 x2
        obtain ⟨S, hS⟩ : ∃ S : Nat, sz (l.getD j 0) = S := Int.eq_ofNat_of_zero_le (by omega)
        have x4 := hCr.tl j (by omega)
        obtain ⟨P, hP⟩ : ∃ P : Nat, tlN l j = P := Int.eq_ofNat_of_zero_le (by omega)
        have x5 : tlN l (j + 1) = tlN l j + (5 + 2 * sz (l.getD j 0)) := rfl
        have x6 := tlN_mono hCr (j + 1) n (by omega) (Nat.le_refl _)
        have x7 := HN.out
        have hPN : P + 5 + 2 * S ≤ N := by omega
        have hS16 : S ≤ 16 := by omega
        have hS1 : 1 ≤ S := by omega
        have hm : s.getD j 0 ∈ s := by
          have := HS1.out.len
          rw [List.getD, List.getElem?_eq_getElem (by omega)]
          exact List.getElem_mem _
        have hsv := HST.out _ hm
        obtain ⟨bd, rfl, _, hc⟩ := (HS1.out.below H0.out.bel).at_ hlt
        have HX := hide (show chansI l s (j + 1) (List.replicate N 0) = slotsI l s j S (((chansI l s j (List.replicate N 0)).set P (pk (s.getD j 0) false)).set (P + 1) (s.getD j 0)) by
          rw [chansI, hS, hP]
          rfl)
        have HSL := hide (fun k ws => show slotsI l s j (k + 1) ws = (slotsI l s j k ws).set (slN l j (nx (s.getD j 0) k)).toNat (nx (s.getD j 0) k) from rfl)
        have HSQ := hide (fun q : Int => show slN l j q = (P : Int) + 5 + 2 * sl q S by unfold slN; rw [hS, hP])
        have QT := hide (fun (W : World) (hW : Below w1.heap.size w1 W) => rtl_any W A n c l (some bd) n d tn (HC1.out.below hW) j (by omega))
        have QH := hide (fun (W : World) (hW : Below w1.heap.size w1 W) => rhead_any W A n c l (some bd) n d tn (HC1.out.below hW) j (by omega))
        have QZ := hide (fun (W : World) (hW : Below w1.heap.size w1 W) => rsz_any W A n c l (some bd) n d tn (HC1.out.below hW) j hlt)
        have QQ := hide (fun (W : World) (hW : Below w1.heap.size w1 W) (q : Int) (h0 : 0 ≤ q) (h1 : q ≤ 18446744073709551615) => rslotseq_any W A n c l (some bd) n d tn (HC1.out.below hW) j hlt q h0 h1)
        rw [hP] at QT QH QQ
        rw [hS] at QZ QQ
        obtain ⟨P1, hP1⟩ : ∃ P1 : Nat, P1 = P + 1 := ⟨_, rfl⟩
        rw [show (P : Int) + 1 = (P1 : Int) by omega] at QH
        rw [show P + 1 = P1 from hP1.symm] at HX
        have hP1N : P1 < N := by omega
        clear hP1
        have CS := hide (fun (W : World) (hW : Below w1.heap.size w1 W) => show W.cell? (bd.add j) = some (.int .u64 (s.getD j 0)) by
          obtain ⟨bd', e, _, hc'⟩ := (HS1.out.below hW).at_ hlt
          cases e
          exact hc')
        generalize hws : chansI l s j (List.replicate N 0) = ws0 at *
        generalize s.getD j 0 = sv at *
        clear hm hc x1 x2 x3 x4 x5 x6 x7 hCr hP hS hws
        have HSV := hide hsv
        clear hsv
        go_upto_region 8 with fail
        have QT1 := hide (fun (u : Up wr) => QT.out u.1 (H0.out.bel.trans (u.2.mono H0.out.bel.size)))
        have QP1 := hide (fun (W : World) => rpack_any sv false W)
        have k0 := fun (u : Up wr) => up_cell k0 u
        have k1 := fun (u : Up wr) => up_cell k1 u
        have k2 := fun (u : Up wr) => up_cell k2 u
        have c5 := fun (u : Up wr) => (bkm3 (H0.out.k5.below u.2 H0.out.k5.lt)).1
        have cs := fun (u : Up wr) => CS.out u.1 (H0.out.bel.trans (u.2.mono H0.out.bel.size))
        have e1 : decide ((j : Int) < 0) = false := by simp
        have e2 : decide (n ≤ j) = false := by simp; omega
        refine wp_region_up_tail 11 (by kernel_rfl) (by kernel_rfl) ?_
        simp only [List.take_succ_cons, List.take_zero, List.drop_succ_cons, List.drop_zero]
        repeat (go_big_quiet_step (first
          | (go_at_call 30; exact up_call (QT1.out _))
          | (go_at_call 59; exact up_same (QP1.out _))))
        refine wpQuiet_nil ?_
        intro u
        have H1 := hide (H0.out.below u.2)
        clear k0 k1 k2 c5 cs QT1 QP1 H0 QT
        generalize u.1 = wa at *
        clear u
        have e3 : decide ((P : Int) < 0) = false := by simp
        have e4 : decide (N ≤ P) = false := by simp; omega
        have wcl := (H1.out.kW.cell P).trans (wc64_get _ P (by have := H1.out.len; omega))
        have wfr := H1.out.kW.frozen P
        go_upto_region 9 with fail
        have H2 := hide (H1.out.set_ P (pk sv false))
        clear wcl wfr e3 e4 H1
        change Code.wp _ _ _ _ (wa.setCell ⟨gW, P, none⟩ (.int .u64 (pk sv false)))
        generalize wa.setCell ⟨gW, P, none⟩ (.int .u64 (pk sv false)) = wb at *
        obtain ⟨k0, k1, k2, -⟩ := bkm3 (KC.out.below H2.out.bel KC.out.lt)
        have QT1 := hide (fun (u : Up wb) => QH.out u.1 (H2.out.bel.trans (u.2.mono H2.out.bel.size)))
        have k0 := fun (u : Up wb) => up_cell k0 u
        have k1 := fun (u : Up wb) => up_cell k1 u
        have k2 := fun (u : Up wb) => up_cell k2 u
        have c5 := fun (u : Up wb) => (bkm3 (H2.out.k5.below u.2 H2.out.k5.lt)).1
        have cs := fun (u : Up wb) => CS.out u.1 (H2.out.bel.trans (u.2.mono H2.out.bel.size))
        refine wp_region_up_tail 10 (by kernel_rfl) (by kernel_rfl) ?_
        simp only [List.take_succ_cons, List.take_zero, List.drop_succ_cons, List.drop_zero]
        repeat (go_big_quiet_step (first
          | (go_at_call 31; exact up_call (QT1.out _))))
        refine wpQuiet_nil ?_
        intro u
        have H3 := hide (H2.out.below u.2)
        clear k0 k1 k2 c5 cs QT1 H2 QH
        generalize u.1 = wa2 at *
        clear u
        have e3 : decide ((P1 : Int) < 0) = false := by simp
        have e4 : decide (N ≤ P1) = false := by simp; omega
        have wcl := (H3.out.kW.cell P1).trans (wc64_get _ P1 (by have := H3.out.len; omega))
        have wfr := H3.out.kW.frozen P1
        go_upto_region 10 with fail
        have H4 := hide (H3.out.set_ P1 sv)
        clear wcl wfr e3 e4 H3
        change Code.wp _ _ _ _ (wa2.setCell ⟨gW, P1, none⟩ (.int .u64 sv))
        generalize wa2.setCell ⟨gW, P1, none⟩ (.int .u64 sv) = wd at *
        generalize hws1 : (ws0.set P (pk sv false)).set P1 sv = ws1 at *
        clear hws1
        go_wp2
        go_loopg [7, 8] S (fun g s7 s8 wr2 => ∃ k : Nat, g + k = S ∧ s7 = .int .i64 k ∧ Nw w1 wr2 g5 gW gL m2 N (slotsI l s j k ws1))
        case atStart => exact ⟨0, by omega, rfl, H4.out⟩
        case round =>
          obtain ⟨k, hk, rfl, hnw⟩ := hrel
          have H5 := hide hnw
          clear hnw H4
          obtain ⟨k0, k1, k2, kf⟩ := bkm3 (KC.out.below H5.out.bel KC.out.lt)
          by_cases hkS : k < S
          · go_wp2_with (go_at_call 54; refine (QZ.out _ H5.out.bel).mono ?_; rintro e w6 ⟨rfl, hb6⟩; have H6 := hide (H5.out.below hb6); obtain ⟨k0, k1, k2, kf⟩ := bkm3 (KC.out.below H6.out.bel KC.out.lt); have cs := CS.out _ H6.out.bel; clear hb6)
            refine (rnext_any sv k w6).mono ?_
            rintro e w7 ⟨rfl, rfl⟩
            obtain ⟨p, hp⟩ : ∃ p, nx sv k = p := ⟨_, rfl⟩
            have hpb : 0 ≤ p ∧ p ≤ 9223372036854775807 := by rw [← hp]; unfold nx; omega
            rw [hp]
            go_upto_region 14 with fail
            have hsl := sl_bd p (S : Int) (by omega)
            obtain ⟨I, hI⟩ : ∃ I : Nat, (P : Int) + 5 + 2 * sl p S = I := Int.eq_ofNat_of_zero_le (by omega)
            have hIN : I < N := by omega
            have QQ1 := hide (fun (u : Up w6) => QQ.out u.1 (H6.out.bel.trans (u.2.mono H6.out.bel.size)) p hpb.1 (by omega))
            rw [hI] at QQ1
            have HY := hide (show slotsI l s j (k + 1) ws1 = (slotsI l s j k ws1).set I p by rw [HSL.out, hp, HSQ.out, hI]; rfl)
            clear hp hI hsl hpb
            have k0 := fun (u : Up w6) => up_cell k0 u
            have k1 := fun (u : Up w6) => up_cell k1 u
            have k2 := fun (u : Up w6) => up_cell k2 u
            have c5 := fun (u : Up w6) => (bkm3 (H6.out.k5.below u.2 H6.out.k5.lt)).1
            refine wp_region_up_tail 7 (by kernel_rfl) (by kernel_rfl) ?_
            simp only [List.take_succ_cons, List.take_zero, List.drop_succ_cons, List.drop_zero]
            repeat (go_big_quiet_step (first
              | (go_at_call 35; exact up_call (QQ1.out _))))
            refine wpQuiet_nil ?_
            intro u
            have H7 := hide (H6.out.below u.2)
            clear k0 k1 k2 kf c5 cs QQ1 H6 H5
            generalize u.1 = wa3 at *
            clear u
            have e3 : decide ((I : Int) < 0) = false := by simp
            have e4 : decide (N ≤ I) = false := by simp; omega
            have wcl := (H7.out.kW.cell I).trans (wc64_get _ I (by have := H7.out.len; omega))
            have wfr := H7.out.kW.frozen I
            go_wp2
            go_roundg (gk - 1)
            case rel => exact ⟨k + 1, by omega, by go_num, by rw [HY.out]; exact H7.out.set_ I p⟩
            case measure => omega
          · obtain rfl : k = S := by omega
            go_wp2_with (go_at_call 54; refine (QZ.out _ H5.out.bel).mono ?_; rintro e w6 ⟨rfl, hb6⟩; have H6 := hide (H5.out.below hb6); clear hb6)
            go_roundg (n - j - 1)
            case rel => exact ⟨j + 1, by omega, by go_num, by rw [HX.out]; exact H6.out⟩
            case measure => omega
      · obtain rfl : j = n := by omega
        obtain ⟨m0, m1, mm2, -⟩ := bkm3 H0.out.k5
        obtain ⟨r0, r1, r2, rf⟩ := bkm3 (KR.out.below H0.out.bel KR.out.lt)
        go_wp2
        have hwl : w.heap.size ≤ w1.heap.size := by omega
        have n1 : gW ≠ w.heap.size + 1 := by have := H0.out.hW; omega
        have n2 : gL ≠ w.heap.size + 1 := bk_types H0.out.kL (KR.out.below H0.out.bel KR.out.lt) (by decide)
        have I0 := H0.out.isI
        have R0 := H0.out.rds
        have f1 : ∀ ad : Addr, (some (⟨gW, 0, none⟩ : Addr)) = some ad → ad.block ≠ w.heap.size + 1 := fun ad e => by cases e; exact n1
        have f2 : ∀ ad : Addr, (some (⟨gL, 0, none⟩ : Addr)) = some ad → ad.block ≠ w.heap.size + 1 := fun ad e => by cases e; exact n2
        exact bodyPost_ret (v := .tuple #[.agg #[.slice (some ⟨gW, 0, none⟩) N N, .slice (some ⟨gL, 0, none⟩) m2 m2, .int .i64 0], .int .i64 0]) (by simp [results, Try.results48, go_sem, r0, r1, r2]) rfl
          ⟨gW, gL, by rw [HNT.out, HM2.out], by rw [iniI, HL.out, HNT.out]; exact ((Rds.far I0 (p := ⟨w.heap.size + 1, 0, none⟩) f1 _).far (p := ⟨w.heap.size + 1, 1, none⟩) f1 _).far (p := ⟨w.heap.size + 1, 2, none⟩) f1 _,
            by rw [← HM2.out]; exact ((Rds.far R0 (p := ⟨w.heap.size + 1, 0, none⟩) f2 _).far (p := ⟨w.heap.size + 1, 1, none⟩) f2 _).far (p := ⟨w.heap.size + 1, 2, none⟩) f2 _,
            (((HB1.out.trans (H0.out.bel.mono hwl)).setCell (p := ⟨w.heap.size + 1, 0, none⟩) (by dsimp only; omega) _).setCell (p := ⟨w.heap.size + 1, 1, none⟩) (by dsimp only; omega) _).setCell (p := ⟨w.heap.size + 1, 2, none⟩) (by dsimp only; omega) _⟩
end Go.Proofs.Ytcaencocmfkfaaa
