/- The walk of LayoutNew. -/
import Derived.Test.YtcaencocmfkfaaaE3
import Derived.Test.YtcaencocmfkfaaaE4
import Derived.Test.YtcaencocmfkfaaaH
namespace Go.Proofs.Ytcaencocmfkfaaa
open Go.RowKit
set_option linter.unusedVariables false
set_option linter.unusedSimpArgs false
/-- The rows of a configuration. -/
structure Cq (W : World) (A : Option Addr) (n : Nat) (l : List Int) (B : Option Addr) (m : Nat) (s : List Int) : Prop where
  a : IsI .i64 W A n l
  b : IsI .u64 W B m s
  hn : n ≤ 20
  hm : m ≤ 20
  hs : ∀ x ∈ s, 0 ≤ x
theorem Cq.below {W W' : World} {A B : Option Addr} {n m : Nat} {l s : List Int} (H : Cq W A n l B m s) (hb : Below W.heap.size W W') : Cq W' A n l B m s := ⟨H.a.below hb, H.b.below hb, H.hn, H.hm, H.hs⟩
theorem Cq.grown {W W' : World} {A B : Option Addr} {n m g : Nat} {l s : List Int} (H : Cq W A n l B m s) (hg : W.grownBy W' (some g)) (hA : ∀ ad, A = some ad → ad.block < g) (hB : ∀ ad, B = some ad → ad.block < g) : Cq W' A n l B m s :=
  ⟨Rds.grown H.a hg (fun ad e e2 => by injection e2 with e2; have := hA ad e; omega), Rds.grown H.b hg (fun ad e e2 => by injection e2 with e2; have := hB ad e; omega), H.hn, H.hm, H.hs⟩
theorem staOk_nn {s : List Int} (h : staOk s) : ∀ x ∈ s, 0 ≤ x := fun x hx => by
  have key : ∀ y ∈ staT, 0 ≤ y := by decide
  exact key x (h x hx)
set_option maxHeartbeats 16000000 in
set_option maxRecDepth 100000 in
theorem new_walk (A : Option Addr) (n c : Nat) (zs : List Int) (B : Option Addr) (m d : Nat) (ss : List Int) (t : Int) (a0 : Option Addr) (len0 cap0 : Nat) (z0 : List Int) (w : World) (rA : Row .i64 w A n c zs) (rB : Row .u64 w B m d ss) (wt : (Lit.int .i64 t).wf = true) (w0 : Row .u8 w a0 len0 cap0 z0) :
    Calls Try.prog 6 #[.agg #[.slice A n c, .slice B m d, .int .i64 t], .slice a0 len0 cap0] w fun e w' => e = .returned (.bool true) ∧ Below w.heap.size w w' := by
  obtain ⟨hIA, hcA, hmA, hwA⟩ := rA.isI
  obtain ⟨hIB, hcB, hmB, hwB⟩ := rB.isI
  obtain ⟨hI1, hc1, hm1, hwf1⟩ := w0.isI
  have HA := hide hIA
  have HBB := hide hIB
  have HSB := hide (show ∀ x ∈ ss.take m, 0 ≤ x from fun x hx => (bounds_u64 (hwB x hx)).1)
  have H1 := hide hI1
  have HB1 := hide (show ∀ x ∈ z0.take len0, 0 ≤ x ∧ x ≤ 255 from fun x hx => bounds_u8 (hwf1 x hx))
  clear hwf1 w0 hI1 hIA hIB hwA hwB rA rB
  generalize z0.take len0 = l0 at H1 HB1
  generalize zs.take n = la at HA
  generalize ss.take m = lb at HBB HSB
  have hcm1 : cap0 ≤ 9223372036854775807 := hm1
  clear hm1
  go_enter Try.func6, Try.ntmps6
  go_wp2_with fail
  have KR := hide (Bk.new w 25 #[.slice A n c, .slice B m d, .int .i64 t])
  have HBN := hide (below_new w (.cells #[.slice A n c, .slice B m d, .int .i64 t] 25))
  refine (awake5_any _).mono ?_
  rintro e y1 ⟨rfl, hb1⟩
  have BW1 := hide (HBN.out.trans (hb1.mono HBN.out.size))
  have KR1 := hide (KR.out.below hb1 KR.out.lt)
  clear hb1 KR HBN
  obtain ⟨r0, r1, r2, rfz⟩ := bkm3V KR1.out
  by_cases hn20 : 20 < n
  · have d1 : decide ((20 : Int) < (n : Int)) = true := by simp; omega
    go_wp2
    go_ret
    exact ⟨rfl, BW1.out⟩
  have d1 : decide ((20 : Int) < (n : Int)) = false := by simp; omega
  by_cases hm20 : 20 < m
  · have d2 : decide ((20 : Int) < (m : Int)) = true := by simp; omega
    go_wp2
    go_ret
    exact ⟨rfl, BW1.out⟩
  have d2 : decide ((20 : Int) < (m : Int)) = false := by simp; omega
  go_upto_region 5 with fail
  clear r0 r1 r2 rfz d1 d2
  have KR := hide (KR1.out.below (Below.refl y1.heap.size y1).drew KR1.out.lt)
  have BW := hide (BW1.out.trans ((Below.refl y1.heap.size y1).drew.mono BW1.out.size))
  clear KR1 BW1
  refine wp_region_L (fun W => W.cell? ⟨w.heap.size, 0, none⟩ = some (.slice A n c) ∧ W.cell? ⟨w.heap.size, 1, none⟩ = some (.slice B m d) ∧ W.cell? ⟨w.heap.size, 2, none⟩ = some (.int .i64 t)) 7 (by kernel_rfl) ?_
  generalize y1.drew = xd at *
  refine wpAnyL_take (i := 0) (oi := ⟨some 23, _, _, _, _, _⟩) [7, 8] (v := ?vvn5_0_1) rfl (by kernel_rfl) (by kernel_rfl) (by kernel_rfl) (by kernel_rfl) (fun _ _ _ h => h) ⟨KR.out.cell 0, KR.out.cell 1, KR.out.cell 2⟩ (by rfl) ?hhn5_0_1 ?rrn5_0_1
  case hhn5_0_1 => (intro W hW; obtain ⟨r0, r1, r2⟩ := hW; go_simp; try with_reducible rfl)
  (try simp only [Act.put, List.setIfInBounds_toArray, List.set_cons_zero, List.set_cons_succ])
  refine wpAnyL_any (i := 1) (oi := ⟨some 24, _, _, _, _, _⟩) (v := ?vvn5_1_2) rfl (by kernel_rfl) (by kernel_rfl) (by kernel_rfl) (by kernel_rfl) (fun _ _ _ h => h) (fun _ => ⟨KR.out.cell 0, KR.out.cell 1, KR.out.cell 2⟩) (by rfl) ?hhn5_1_2 ?rrn5_1_2
  case hhn5_1_2 => (intro W; go_simp; try with_reducible rfl)
  (try simp only [Act.put, List.setIfInBounds_toArray, List.set_cons_zero, List.set_cons_succ])
  refine wpAnyL_any (i := 4) (oi := ⟨some 27, _, _, _, _, _⟩) (v := ?vvn5_4_3) rfl (by kernel_rfl) (by kernel_rfl) (by kernel_rfl) (by kernel_rfl) (fun _ _ _ h => h) (fun _ => ⟨KR.out.cell 0, KR.out.cell 1, KR.out.cell 2⟩) (by rfl) ?hhn5_4_3 ?rrn5_4_3
  case hhn5_4_3 => (intro W; go_simp; try with_reducible rfl)
  (try simp only [Act.put, List.setIfInBounds_toArray, List.set_cons_zero, List.set_cons_succ])
  refine wpAnyL_any (i := 9) (oi := ⟨some 32, _, _, _, _, _⟩) (v := ?vvn5_9_4) rfl (by kernel_rfl) (by kernel_rfl) (by kernel_rfl) (by kernel_rfl) (fun _ _ _ h => h) (fun _ => ⟨KR.out.cell 0, KR.out.cell 1, KR.out.cell 2⟩) (by rfl) ?hhn5_9_4 ?rrn5_9_4
  case hhn5_9_4 => (intro W; go_simp; try with_reducible rfl)
  (try simp only [Act.put, List.setIfInBounds_toArray, List.set_cons_zero, List.set_cons_succ])
  refine wpAnyL_one (i := 2) (oi := ⟨some 25, _, _, _, _, _⟩) rfl (by kernel_rfl) (fun K hK => ?_)
  refine step_call _ (by rfl) 8 _ (by go_simp) (new_any xd _ _ _ _ 60 (H1.out.below BW.out) HB1.out (by omega) hc1 hcm1) ?_
  rintro e z1 ⟨rfl, hcd, hb⟩
  refine ⟨_, rfl, ?_⟩
  have CD1 := hide hcd
  have hg1 : w.heap.size < xd.heap.size := KR.out.lt
  replace KR := hide (KR.out.below hb KR.out.lt)
  replace BW := hide (BW.out.trans (hb.mono BW.out.size))
  clear hb hcd
  generalize xd.heap.size = gC1 at *
  refine hK.out _ _ (fun _ => ⟨KR.out.cell 0, KR.out.cell 1, KR.out.cell 2⟩) ?_
  clear hK K
  (try simp only [Act.put, List.setIfInBounds_toArray, List.set_cons_zero, List.set_cons_succ])
  refine wpAnyL_one (i := 3) (oi := ⟨some 26, _, _, _, _, _⟩) rfl (by kernel_rfl) (fun K hK => ?_)
  refine step_call _ (by rfl) 9 _ (by go_simp) (wide_any _ gC1 _ 0 CD1.out) ?_
  rintro e z2 ⟨u1, u2, tx, lx, sx, rx, rfl, hr, h2, h3, h4, h5, h6, h7, h8, h9⟩
  have o1 := hr.at_ 0 (Nat.succ_pos _)
  have o2 := hr.at_ 1 (by show 1 < 2; omega)
  obtain ⟨XA, XC, e1, -, -, bA, -⟩ := own_form o1
  obtain ⟨XB, XD, e2, -, -, bB, -⟩ := own_form o2
  have e1' : u1 = .slice XA lx.length XC := e1
  have e2' : u2 = .slice XB sx.length XD := e2
  clear e1 e2
  subst e1' e2'
  refine ⟨_, rfl, ?_⟩
  have CX : Hid (Cq z2 XA lx.length lx XB sx.length sx) := hide ⟨IsI.of_own o1, IsI.of_own o2, by omega, by omega, fun x hx => (h5 x hx).1⟩
  have hA2 : ∀ ad, XA = some ad → ad.block < z2.heap.size := fun ad e => (bA ad e).2
  have hB2 : ∀ ad, XB = some ad → ad.block < z2.heap.size := fun ad e => (bB ad e).2
  replace KR := hide (KR.out.grown h9 (by intro e; injection e with e; omega))
  replace BW := hide (below_grownBy BW.out h9 (Nat.le_refl _) (by omega))
  clear o1 o2 bA bB hr h2 h3 h4 h5 h6 h7 h8 h9 CD1
  refine hK.out _ _ (fun _ => ⟨KR.out.cell 0, KR.out.cell 1, KR.out.cell 2⟩) ?_
  clear hK K
  (try simp only [Act.put, List.setIfInBounds_toArray, List.set_cons_zero, List.set_cons_succ])
  refine wpAnyL_one (i := 5) (oi := ⟨some 28, _, _, _, _, _⟩) rfl (by kernel_rfl) (fun K hK => ?_)
  refine step_call _ (by rfl) 8 _ (by go_simp) (new_any z2 _ _ _ _ 60 (H1.out.below BW.out) HB1.out (by omega) hc1 hcm1) ?_
  rintro e z3 ⟨rfl, hcd, hb⟩
  refine ⟨_, rfl, ?_⟩
  have CD2 := hide hcd
  have hg2 : w.heap.size < z2.heap.size := KR.out.lt
  replace KR := hide (KR.out.below hb KR.out.lt)
  replace BW := hide (BW.out.trans (hb.mono BW.out.size))
  replace CX := hide (CX.out.below hb)
  clear hb hcd
  generalize z2.heap.size = gC2 at *
  refine hK.out _ _ (fun _ => ⟨KR.out.cell 0, KR.out.cell 1, KR.out.cell 2⟩) ?_
  clear hK K
  (try simp only [Act.put, List.setIfInBounds_toArray, List.set_cons_zero, List.set_cons_succ])
  refine wpAnyL_one (i := 6) (oi := ⟨some 29, _, _, _, _, _⟩) rfl (by kernel_rfl) (fun K hK => ?_)
  refine step_call _ (by rfl) 46 _ (by go_simp) (config_any _ gC2 _ 0 CD2.out) ?_
  rintro e z4 ⟨u1, u2, ty, ly, sy, ry, rfl, hr, h1, h2, h3, h4, h5, h6, h7, h8, h9⟩
  have o1 := hr.at_ 0 (Nat.succ_pos _)
  have o2 := hr.at_ 1 (by show 1 < 2; omega)
  obtain ⟨YA, YC, e1, -, -, bA, -⟩ := own_form o1
  obtain ⟨YB, YD, e2, -, -, bB, -⟩ := own_form o2
  have e1' : u1 = .slice YA ly.length YC := e1
  have e2' : u2 = .slice YB sy.length YD := e2
  clear e1 e2
  subst e1' e2'
  refine ⟨_, rfl, ?_⟩
  have CY : Hid (Cq z4 YA ly.length ly YB sy.length sy) := hide ⟨IsI.of_own o1, IsI.of_own o2, by omega, by omega, fun x hx => staOk_nn h5 x hx⟩
  replace CX := hide (CX.out.grown h9 hA2 hB2)
  replace KR := hide (KR.out.grown h9 (by intro e; injection e with e; omega))
  replace BW := hide (below_grownBy BW.out h9 (Nat.le_refl _) (by omega))
  clear o1 o2 bA bB hr h1 h2 h3 h4 h5 h6 h7 h8 h9 CD2 hA2 hB2
  refine hK.out _ _ (fun _ => ⟨KR.out.cell 0, KR.out.cell 1, KR.out.cell 2⟩) ?_
  clear hK K
  (try simp only [Act.put, List.setIfInBounds_toArray, List.set_cons_zero, List.set_cons_succ])
  refine wpAnyL_one (i := 7) (oi := ⟨some 30, _, _, _, _, _⟩) rfl (by kernel_rfl) (fun K hK => ?_)
  go_simp
  refine hK.out _ _ (fun h => by first | cases h | simp at h) ?_
  clear hK K
  (try simp only [Act.put, List.setIfInBounds_toArray, List.set_cons_zero, List.set_cons_succ])
  refine wpAnyL_any (i := 8) (oi := ⟨some 31, _, _, _, _, _⟩) (v := ?vvn5_8_5) rfl (by kernel_rfl) (by kernel_rfl) (by kernel_rfl) (by kernel_rfl) (fun _ _ _ h => h) (fun h => by first | cases h | simp at h) (by rfl) ?hhn5_8_5 ?rrn5_8_5
  case hhn5_8_5 => (intro W; go_simp; try with_reducible rfl)
  (try simp only [Act.put, List.setIfInBounds_toArray, List.set_cons_zero, List.set_cons_succ])
  refine wpAnyL_done (by kernel_rfl) ?_ _
  go_wp2_with fail
  generalize lx.length = xn at *
  generalize sx.length = xm at *
  generalize ly.length = yn at *
  generalize sy.length = ym at *
  have CA : Hid (Cq z4 A n la B m lb) := hide ⟨HA.out.below BW.out, HBB.out.below BW.out, by omega, by omega, HSB.out⟩
  have KG := hide (Bk.new z4 25 #[.slice A n c, .slice B m d, .int .i64 t, .slice XA xn XC, .slice XB xm XD, .int .i64 tx, .slice YA yn YC, .slice YB ym YD, .int .i64 ty])
  have HB5 := hide (below_new z4 (.cells #[.slice A n c, .slice B m d, .int .i64 t, .slice XA xn XC, .slice XB xm XD, .int .i64 tx, .slice YA yn YC, .slice YB ym YD, .int .i64 ty] 25))
  replace BW := hide (BW.out.trans (HB5.out.mono BW.out.size))
  replace CA := hide (CA.out.below HB5.out)
  replace CX := hide (CX.out.below HB5.out)
  have CY2 := hide (CY.out.below HB5.out)
  clear HB5 CY HA HBB HSB H1 HB1 KR
  generalize (World.alloc z4 (.cells #[.slice A n c, .slice B m d, .int .i64 t, .slice XA xn XC, .slice XB xm XD, .int .i64 tx, .slice YA yn YC, .slice YB ym YD, .int .i64 ty] 25)) = z5 at *
  generalize z4.heap.size = g3 at *
  go_loopg [6, 7, 8, 9, 10, 32] 3 (fun g s6 s7 s8 s9 s10 s32 wr => ∃ j : Nat, g + j = 3 ∧ s32 = .int .i64 j ∧ Below z5.heap.size z5 wr)
  case atStart => exact ⟨0, by omega, rfl, Below.refl _ _⟩
  case round =>
    obtain ⟨j, hj, rfl, hbr⟩ := hrel
    have HR := hide hbr
    clear hbr
    have hj4 : j = 0 ∨ j = 1 ∨ j = 2 ∨ j = 3 := by omega
    rcases hj4 with rfl | rfl | rfl | rfl
    · have k0 := (KG.out.below HR.out KG.out.lt).cell 0
      have k1 := (KG.out.below HR.out KG.out.lt).cell 1
      have k2 := (KG.out.below HR.out KG.out.lt).cell 2
      simp only [List.getElem?_toArray, List.getElem?_cons_zero, List.getElem?_cons_succ] at k0 k1 k2
      have CC := hide (CA.out.below HR.out)
      have KN := hide (Bk.new wr 25 #[.slice A n c, .slice B m d, .int .i64 t])
      have HN := hide (below_new wr (.cells #[.slice A n c, .slice B m d, .int .i64 t] 25))
      have CN := hide (CC.out.below HN.out)
      have hw1 : IntKind.i64.wrap (((0 : Nat) : Int) + 1) = ((1 : Nat) : Int) := rfl
      go_upto_region 8 with fail
      clear k0 k1 k2
      have HR1 := hide (HR.out.trans (HN.out.mono HR.out.size))
      generalize (World.alloc wr (.cells #[.slice A n c, .slice B m d, .int .i64 t] 25)) = x1 at *
      generalize wr.heap.size = gX at *
      obtain ⟨c0, c1, c2, -⟩ := bkm3 KN.out
      have L1 := hide (lnew_all x1 A n c la B m d lb t CN.out.a CN.out.b (by have := CN.out.hn; omega) (by have := CN.out.hm; omega) CN.out.hs)
      go_wp2_with fail
      refine L1.out.mono ?_
      rintro e x2 ⟨MA, N1, mc1, LA, lk1, le1, rfl, i1, i2, i3, i4, i5, hb1⟩
      have KN2 := hide (KN.out.below hb1 KN.out.lt)
      have CN2 := hide (CN.out.below hb1)
      have I1 := hide i1
      have I2 := hide i2
      have I3 := hide i3
      have HR2 := hide (HR1.out.trans (hb1.mono HR1.out.size))
      clear hb1 i1 i2 i3 L1 c0 c1 c2 CN KN HR HN HR1 CC
      obtain ⟨v, hv⟩ : ∃ v, chk la lb t = v := ⟨_, rfl⟩
      rw [hv]
      have HV := hide hv
      clear hv
      go_upto_region 9 with fail
      have K7 := hide (Bk.new x2 48 #[.slice MA N1 mc1, .slice LA lk1 le1, .int .i64 0])
      have HN := hide (below_new x2 (.cells #[.slice MA N1 mc1, .slice LA lk1 le1, .int .i64 0] 48))
      have KN3 := hide (KN2.out.below HN.out KN2.out.lt)
      have CN3 := hide (CN2.out.below HN.out)
      have I13 := hide (I1.out.below HN.out)
      have I23 := hide (I2.out.below HN.out)
      have HR3 := hide (HR2.out.trans (HN.out.mono HR2.out.size))
      clear KN2 CN2 I1 I2 HR2 HN
      generalize (World.alloc x2 (.cells #[.slice MA N1 mc1, .slice LA lk1 le1, .int .i64 0] 48)) = x3 at *
      generalize x2.heap.size = g7 at *
      obtain ⟨c0, c1, c2, -⟩ := bkm3 KN3.out
      have L1 := hide (rnew_all x3 A n c la B m d lb t CN3.out.a CN3.out.b (by have := CN3.out.hn; omega) (by have := CN3.out.hm; omega) CN3.out.hs)
      go_wp2_with fail
      refine L1.out.mono ?_
      rintro e x4 ⟨MB, N2, mc2, LB, lk2, le2, rfl, i1, i2, i6, -, -, hb1⟩
      have hN : N2 = N1 := by rw [← IsI.len i1, ← IsI.len I13.out]
      have hK : lk2 = lk1 := by rw [i6, I3.out]
      subst hN hK
      rw [HV.out]
      have K74 := hide (K7.out.below hb1 K7.out.lt)
      have I14 := hide (I13.out.below hb1)
      have I24 := hide (I23.out.below hb1)
      have J1 := hide i1
      have J2 := hide i2
      have HR4 := hide (HR3.out.trans (hb1.mono HR3.out.size))
      clear hb1 i1 i2 I3 i6 L1 c0 c1 c2 CN3 KN3 HR3 I13 I23 K7
      have e1 : (v != v) = false := by simp
      go_upto_region 10 with fail
      have K9 := hide (Bk.new x4 48 #[.slice MB N2 mc2, .slice LB lk2 le2, .int .i64 0])
      have HN := hide (below_new x4 (.cells #[.slice MB N2 mc2, .slice LB lk2 le2, .int .i64 0] 48))
      have K75 := hide (K74.out.below HN.out K74.out.lt)
      have SM := hide (msame_yes _ MA N2 mc1 MB mc2 _ LA lk2 le1 LB le2 (I14.out.below HN.out) (J1.out.below HN.out) (I24.out.below HN.out) (J2.out.below HN.out) (by omega) (by omega))
      have HR5 := hide (HR4.out.trans (HN.out.mono HR4.out.size))
      clear K74 I14 I24 J1 J2 HR4 HN
      generalize (World.alloc x4 (.cells #[.slice MB N2 mc2, .slice LB lk2 le2, .int .i64 0] 48)) = x5 at *
      generalize x4.heap.size = g9 at *
      obtain ⟨c0, c1, c2, -⟩ := bkm3 K75.out
      obtain ⟨d0, d1, d2, -⟩ := bkm3 K9.out
      go_wp2_with fail
      refine SM.out.mono ?_
      rintro e x6 ⟨rfl, hb1⟩
      have HR6 := hide (HR5.out.trans (hb1.mono HR5.out.size))
      clear hb1 SM c0 c1 c2 d0 d1 d2 HR5 K75 K9 e1
      go_wp2
      go_roundg (gk - 1)
      case rel => exact ⟨1, by omega, by go_num, HR6.out⟩
      case measure => omega
    · have k0 := (KG.out.below HR.out KG.out.lt).cell 3
      have k1 := (KG.out.below HR.out KG.out.lt).cell 4
      have k2 := (KG.out.below HR.out KG.out.lt).cell 5
      simp only [List.getElem?_toArray, List.getElem?_cons_zero, List.getElem?_cons_succ] at k0 k1 k2
      have CC := hide (CX.out.below HR.out)
      have KN := hide (Bk.new wr 25 #[.slice XA xn XC, .slice XB xm XD, .int .i64 tx])
      have HN := hide (below_new wr (.cells #[.slice XA xn XC, .slice XB xm XD, .int .i64 tx] 25))
      have CN := hide (CC.out.below HN.out)
      have hw1 : IntKind.i64.wrap (((1 : Nat) : Int) + 1) = ((2 : Nat) : Int) := rfl
      go_upto_region 8 with fail
      clear k0 k1 k2
      have HR1 := hide (HR.out.trans (HN.out.mono HR.out.size))
      generalize (World.alloc wr (.cells #[.slice XA xn XC, .slice XB xm XD, .int .i64 tx] 25)) = x1 at *
      generalize wr.heap.size = gX at *
      obtain ⟨c0, c1, c2, -⟩ := bkm3 KN.out
      have L1 := hide (lnew_all x1 XA xn XC lx XB xm XD sx tx CN.out.a CN.out.b (by have := CN.out.hn; omega) (by have := CN.out.hm; omega) CN.out.hs)
      go_wp2_with fail
      refine L1.out.mono ?_
      rintro e x2 ⟨MA, N1, mc1, LA, lk1, le1, rfl, i1, i2, i3, i4, i5, hb1⟩
      have KN2 := hide (KN.out.below hb1 KN.out.lt)
      have CN2 := hide (CN.out.below hb1)
      have I1 := hide i1
      have I2 := hide i2
      have I3 := hide i3
      have HR2 := hide (HR1.out.trans (hb1.mono HR1.out.size))
      clear hb1 i1 i2 i3 L1 c0 c1 c2 CN KN HR HN HR1 CC
      obtain ⟨v, hv⟩ : ∃ v, chk lx sx tx = v := ⟨_, rfl⟩
      rw [hv]
      have HV := hide hv
      clear hv
      go_upto_region 9 with fail
      have K7 := hide (Bk.new x2 48 #[.slice MA N1 mc1, .slice LA lk1 le1, .int .i64 0])
      have HN := hide (below_new x2 (.cells #[.slice MA N1 mc1, .slice LA lk1 le1, .int .i64 0] 48))
      have KN3 := hide (KN2.out.below HN.out KN2.out.lt)
      have CN3 := hide (CN2.out.below HN.out)
      have I13 := hide (I1.out.below HN.out)
      have I23 := hide (I2.out.below HN.out)
      have HR3 := hide (HR2.out.trans (HN.out.mono HR2.out.size))
      clear KN2 CN2 I1 I2 HR2 HN
      generalize (World.alloc x2 (.cells #[.slice MA N1 mc1, .slice LA lk1 le1, .int .i64 0] 48)) = x3 at *
      generalize x2.heap.size = g7 at *
      obtain ⟨c0, c1, c2, -⟩ := bkm3 KN3.out
      have L1 := hide (rnew_all x3 XA xn XC lx XB xm XD sx tx CN3.out.a CN3.out.b (by have := CN3.out.hn; omega) (by have := CN3.out.hm; omega) CN3.out.hs)
      go_wp2_with fail
      refine L1.out.mono ?_
      rintro e x4 ⟨MB, N2, mc2, LB, lk2, le2, rfl, i1, i2, i6, -, -, hb1⟩
      have hN : N2 = N1 := by rw [← IsI.len i1, ← IsI.len I13.out]
      have hK : lk2 = lk1 := by rw [i6, I3.out]
      subst hN hK
      rw [HV.out]
      have K74 := hide (K7.out.below hb1 K7.out.lt)
      have I14 := hide (I13.out.below hb1)
      have I24 := hide (I23.out.below hb1)
      have J1 := hide i1
      have J2 := hide i2
      have HR4 := hide (HR3.out.trans (hb1.mono HR3.out.size))
      clear hb1 i1 i2 I3 i6 L1 c0 c1 c2 CN3 KN3 HR3 I13 I23 K7
      have e1 : (v != v) = false := by simp
      go_upto_region 10 with fail
      have K9 := hide (Bk.new x4 48 #[.slice MB N2 mc2, .slice LB lk2 le2, .int .i64 0])
      have HN := hide (below_new x4 (.cells #[.slice MB N2 mc2, .slice LB lk2 le2, .int .i64 0] 48))
      have K75 := hide (K74.out.below HN.out K74.out.lt)
      have SM := hide (msame_yes _ MA N2 mc1 MB mc2 _ LA lk2 le1 LB le2 (I14.out.below HN.out) (J1.out.below HN.out) (I24.out.below HN.out) (J2.out.below HN.out) (by omega) (by omega))
      have HR5 := hide (HR4.out.trans (HN.out.mono HR4.out.size))
      clear K74 I14 I24 J1 J2 HR4 HN
      generalize (World.alloc x4 (.cells #[.slice MB N2 mc2, .slice LB lk2 le2, .int .i64 0] 48)) = x5 at *
      generalize x4.heap.size = g9 at *
      obtain ⟨c0, c1, c2, -⟩ := bkm3 K75.out
      obtain ⟨d0, d1, d2, -⟩ := bkm3 K9.out
      go_wp2_with fail
      refine SM.out.mono ?_
      rintro e x6 ⟨rfl, hb1⟩
      have HR6 := hide (HR5.out.trans (hb1.mono HR5.out.size))
      clear hb1 SM c0 c1 c2 d0 d1 d2 HR5 K75 K9 e1
      go_wp2
      go_roundg (gk - 1)
      case rel => exact ⟨2, by omega, by go_num, HR6.out⟩
      case measure => omega
    · have k0 := (KG.out.below HR.out KG.out.lt).cell 6
      have k1 := (KG.out.below HR.out KG.out.lt).cell 7
      have k2 := (KG.out.below HR.out KG.out.lt).cell 8
      simp only [List.getElem?_toArray, List.getElem?_cons_zero, List.getElem?_cons_succ] at k0 k1 k2
      have CC := hide (CY2.out.below HR.out)
      have KN := hide (Bk.new wr 25 #[.slice YA yn YC, .slice YB ym YD, .int .i64 ty])
      have HN := hide (below_new wr (.cells #[.slice YA yn YC, .slice YB ym YD, .int .i64 ty] 25))
      have CN := hide (CC.out.below HN.out)
      have hw1 : IntKind.i64.wrap (((2 : Nat) : Int) + 1) = ((3 : Nat) : Int) := rfl
      go_upto_region 8 with fail
      clear k0 k1 k2
      have HR1 := hide (HR.out.trans (HN.out.mono HR.out.size))
      generalize (World.alloc wr (.cells #[.slice YA yn YC, .slice YB ym YD, .int .i64 ty] 25)) = x1 at *
      generalize wr.heap.size = gX at *
      obtain ⟨c0, c1, c2, -⟩ := bkm3 KN.out
      have L1 := hide (lnew_all x1 YA yn YC ly YB ym YD sy ty CN.out.a CN.out.b (by have := CN.out.hn; omega) (by have := CN.out.hm; omega) CN.out.hs)
      go_wp2_with fail
      refine L1.out.mono ?_
      rintro e x2 ⟨MA, N1, mc1, LA, lk1, le1, rfl, i1, i2, i3, i4, i5, hb1⟩
      have KN2 := hide (KN.out.below hb1 KN.out.lt)
      have CN2 := hide (CN.out.below hb1)
      have I1 := hide i1
      have I2 := hide i2
      have I3 := hide i3
      have HR2 := hide (HR1.out.trans (hb1.mono HR1.out.size))
      clear hb1 i1 i2 i3 L1 c0 c1 c2 CN KN HR HN HR1 CC
      obtain ⟨v, hv⟩ : ∃ v, chk ly sy ty = v := ⟨_, rfl⟩
      rw [hv]
      have HV := hide hv
      clear hv
      go_upto_region 9 with fail
      have K7 := hide (Bk.new x2 48 #[.slice MA N1 mc1, .slice LA lk1 le1, .int .i64 0])
      have HN := hide (below_new x2 (.cells #[.slice MA N1 mc1, .slice LA lk1 le1, .int .i64 0] 48))
      have KN3 := hide (KN2.out.below HN.out KN2.out.lt)
      have CN3 := hide (CN2.out.below HN.out)
      have I13 := hide (I1.out.below HN.out)
      have I23 := hide (I2.out.below HN.out)
      have HR3 := hide (HR2.out.trans (HN.out.mono HR2.out.size))
      clear KN2 CN2 I1 I2 HR2 HN
      generalize (World.alloc x2 (.cells #[.slice MA N1 mc1, .slice LA lk1 le1, .int .i64 0] 48)) = x3 at *
      generalize x2.heap.size = g7 at *
      obtain ⟨c0, c1, c2, -⟩ := bkm3 KN3.out
      have L1 := hide (rnew_all x3 YA yn YC ly YB ym YD sy ty CN3.out.a CN3.out.b (by have := CN3.out.hn; omega) (by have := CN3.out.hm; omega) CN3.out.hs)
      go_wp2_with fail
      refine L1.out.mono ?_
      rintro e x4 ⟨MB, N2, mc2, LB, lk2, le2, rfl, i1, i2, i6, -, -, hb1⟩
      have hN : N2 = N1 := by rw [← IsI.len i1, ← IsI.len I13.out]
      have hK : lk2 = lk1 := by rw [i6, I3.out]
      subst hN hK
      rw [HV.out]
      have K74 := hide (K7.out.below hb1 K7.out.lt)
      have I14 := hide (I13.out.below hb1)
      have I24 := hide (I23.out.below hb1)
      have J1 := hide i1
      have J2 := hide i2
      have HR4 := hide (HR3.out.trans (hb1.mono HR3.out.size))
      clear hb1 i1 i2 I3 i6 L1 c0 c1 c2 CN3 KN3 HR3 I13 I23 K7
      have e1 : (v != v) = false := by simp
      go_upto_region 10 with fail
      have K9 := hide (Bk.new x4 48 #[.slice MB N2 mc2, .slice LB lk2 le2, .int .i64 0])
      have HN := hide (below_new x4 (.cells #[.slice MB N2 mc2, .slice LB lk2 le2, .int .i64 0] 48))
      have K75 := hide (K74.out.below HN.out K74.out.lt)
      have SM := hide (msame_yes _ MA N2 mc1 MB mc2 _ LA lk2 le1 LB le2 (I14.out.below HN.out) (J1.out.below HN.out) (I24.out.below HN.out) (J2.out.below HN.out) (by omega) (by omega))
      have HR5 := hide (HR4.out.trans (HN.out.mono HR4.out.size))
      clear K74 I14 I24 J1 J2 HR4 HN
      generalize (World.alloc x4 (.cells #[.slice MB N2 mc2, .slice LB lk2 le2, .int .i64 0] 48)) = x5 at *
      generalize x4.heap.size = g9 at *
      obtain ⟨c0, c1, c2, -⟩ := bkm3 K75.out
      obtain ⟨d0, d1, d2, -⟩ := bkm3 K9.out
      go_wp2_with fail
      refine SM.out.mono ?_
      rintro e x6 ⟨rfl, hb1⟩
      have HR6 := hide (HR5.out.trans (hb1.mono HR5.out.size))
      clear hb1 SM c0 c1 c2 d0 d1 d2 HR5 K75 K9 e1
      go_wp2
      go_roundg (gk - 1)
      case rel => exact ⟨3, by omega, by go_num, HR6.out⟩
      case measure => omega
    · go_wp2
      go_ret
      exact ⟨rfl, BW.out.trans (HR.out.mono BW.out.size)⟩
end Go.Proofs.Ytcaencocmfkfaaa
