/- A step of the ring. -/
import Derived.Test.YtepngbdjobckbaaGreatRB
namespace Go.Proofs.YtepngbdjobckbaaGreat
open Go.RowKit
set_option linter.unusedVariables false
set_option linter.unusedSimpArgs false
theorem tap_out : Tap 47 := by unfold Tap; decide
theorem tap_mem : Tap 33 := by unfold Tap; decide
theorem tap_ans : Tap 86 := by unfold Tap; decide
theorem rlt {base : Nat} {w : World} {e : TypeId} {sz n m g c : Nat} {xs : List Value} (h : w.ownsRow base e sz (.slice (some ⟨g, 0, none⟩) n c) m xs) : g < w.heap.size := (h.lt g rfl).2
theorem RgH.frozL {w : World} {base G g n c : Nat} {h : Hr} {st : St} (H : RgH w base G h st) (hv : h.vL = .slice (some ⟨g, 0, none⟩) n c) : ∀ j, w.frozen? ⟨g, j, none⟩ = false := by
  have hr := H.rL
  rw [hv] at hr
  rcases hr.2 with ⟨h1, _⟩ | ⟨g', c', cur, h1, h2, h3, _⟩
  · cases h1
  · cases h1
    intro j
    exact frozen_of_row w _ j cur _ h3
theorem cells_bkR {W : World} {g : Nat} {ty : TypeId} {ys : List Value} (k : Bk W g ty ys.toArray) : ∀ j u, ys[j]? = some u → W.cell? ((⟨g, 0, none⟩ : Addr).add j) = some u := by
  intro j u hu
  have hadd : (⟨g, 0, none⟩ : Addr).add j = ⟨g, j, none⟩ := by unfold Addr.add; split <;> simp_all
  rw [hadd, k.cell j]
  simpa using hu
theorem InvR.step {st : St} (H : InvR st) {i : Nat} {x : Mc} (hx : st.ms[i]? = some x) (h0 : x.at_ ≠ 0) : InvR (stS st i x) := by
  have mvx := H.mv i x hx
  have ok := mnext_ok H.cap mvx h0
  have mu := mapply_u H.wu ok.n
  refine ⟨H.cap, fun j y hy => ?_, mu.1, by simp [stS, H.pl]⟩
  rcases set_get hy with ⟨-, rfl⟩ | ⟨-, h⟩
  · exact mvx.res mu.2.1 _
  · exact H.mv j y h
set_option maxHeartbeats 16000000 in
set_option maxRecDepth 100000 in
theorem step_rg (w : World) (base G i : Nat) (st : St) (H : Rg w base G st) (hi : i < st.ms.length) (ht : st.tr.length ≤ 1000000) :
    Calls Tryz.prog 25 #[.pointer (some ⟨G, 0, none⟩), .int .i64 i] w fun e w' => e = .returned (.tuple #[]) ∧ Rg w' base G (stp st i) ∧ Below base w w' := by
  obtain ⟨⟨h, H⟩, I⟩ := H
  obtain ⟨x, hx⟩ : ∃ x, st.ms[i]? = some x := ⟨_, List.getElem?_eq_getElem hi⟩
  have mvx := I.mv i x hx
  obtain ⟨gL, cL, cs, eL, hgL, hil, hcs, hrg, hmq⟩ := H.rowL hi
  have MQ := hide (hmq x hx)
  have hlen : h.ls.length = st.ms.length := H.ml.1
  obtain ⟨val, code, pc, FA, fn, fc, FB, fm, fd, q, rfl, -, -⟩ := id MQ.out
  obtain ⟨wh, hwh⟩ : ∃ k, x.what = k := ⟨_, rfl⟩
  have HWH := hide hwh
  rw [hwh] at MQ hrg hcs
  clear hwh
  have bk := H.bk
  rw [Hr.cells, eL] at bk
  have hrL := H.rL
  rw [eL] at hrL
  have hGlt := bk.lt
  have hLlt := rlt hrL
  have hbl := H.base_le
  have d1 : decide ((i : Int) < 0) = false := by simp
  have d2 : decide (h.ls.length ≤ i) = false := by simp; omega
  obtain ⟨k0, k1, k2, k3, k4, k5, k6, k7, k8, kf⟩ := bk9 bk
  obtain ⟨m0, m1, m2, m3, m4, m5, m6⟩ := rg7 (a0 := .int .i64 wh) (a1 := .int .u64 val) (a2 := .int .i64 code) (a3 := .int .i64 pc) (a4 := .slice FA fn fc) (a5 := .slice FB fm fd) (a6 := .slice none 0 0) hrg
  have CELLS := hide (fun (W : World) (hW : Below w.heap.size w W) => And.intro ((hW.cell hGlt).trans k3) (And.intro ((hW.cell hGlt).trans k4) (And.intro ((hW.cell hGlt).trans k5) (And.intro ((hW.cell hGlt).trans k6) (And.intro ((hW.cell hLlt).trans m0) (And.intro ((hW.cell hLlt).trans m1) (And.intro ((hW.cell hLlt).trans m2) (And.intro ((hW.cell hLlt).trans m3) (And.intro ((hW.cell hLlt).trans m4) (And.intro ((hW.cell hLlt).trans m5) ((hW.cell hLlt).trans m6)))))))))))
  have HH := hide H
  have II := hide I
  have HX := hide hx
  have EL := hide eL
  have MV := hide mvx
  have EN := hide (show Calls Tryz.prog 13 #[.agg #[.int .i64 wh, .int .u64 val, .int .i64 code, .int .i64 pc, .slice FA fn fc, .slice FB fm fd, .slice none 0 0]] w _ from mq_end w st.l _ x MQ.out I.cap mvx)
  have HCS := hide hcs
  clear H I hx eL bk hrL hmq hcs hrg mvx
  obtain ⟨ls0, hls0⟩ : ∃ q, h.ls.length = q := ⟨_, rfl⟩
  have HLS := hide hls0
  rw [hls0] at k6 d2 CELLS
  have HIL := hide hil
  have hil0 : i < ls0 := by omega
  clear hls0 hil hlen
  by_cases hat : x.at_ = 0
  · have e0 : ((x.at_ : Int) == 0) = true := by rw [hat]; rfl
    rw [e0] at EN
    have ST := hide (show stp st i = st by unfold stp; rw [HX.out]; simp only [hat, if_true])
    generalize x.ok = ok at EN
    generalize x.ov = ov at EN
    go_enter Tryz.func25, Tryz.ntmps25
    go_wp2_with fail
    refine EN.out.mono ?_
    rintro e w1 ⟨rfl, hb⟩
    clear k0 k1 k2 k3 k4 k5 k6 k7 k8 kf m0 m1 m2 m3 m4 m5 m6 d1 d2
    go_wp2
    refine bodyPost_ret (v := .tuple #[]) (by simp [results, Tryz.results25, go_sem]) rfl ?_
    rw [ST.out]
    exact ⟨rfl, ⟨⟨h, (HH.out.below hb).below (below_new _ _)⟩, II.out⟩, (hb.mono hbl).trans ((below_new _ _).mono (Nat.le_trans hbl hb.size))⟩
  have e0 : ((x.at_ : Int) == 0) = false := by simp; omega
  rw [e0] at EN
  generalize x.ok = ok at EN
  generalize x.ov = ov at EN
  go_enter Tryz.func25, Tryz.ntmps25
  go_wp2_with fail
  refine EN.out.mono ?_
  rintro e w1 ⟨rfl, hb⟩
  have HB1 := hide (hb.trans ((below_new w1 (.cells #[.int .i64 ok, .int .u64 ov] 47)).mono hb.size))
  clear k0 k1 k2 k3 k4 k5 k6 k7 k8 kf m0 m1 m2 m3 m4 m5 m6 hb EN
  go_upto_region 2 with fail
  generalize (w1.alloc (.cells #[.int .i64 ok, .int .u64 ov] 47)) = w2 at *
  obtain ⟨a, ha⟩ : ∃ a, mnext st.l x = a := ⟨_, rfl⟩
  have ok := mnext_ok II.out.cap MV.out hat
  rw [ha] at ok
  have mu := mapply_u II.out.wu ok.n
  obtain ⟨ws', hws'⟩ : ∃ q, (mapply st.ws a).1 = q := ⟨_, rfl⟩
  obtain ⟨va, hva⟩ : ∃ q, (mapply st.ws a).2.1 = q := ⟨_, rfl⟩
  obtain ⟨ya, hya⟩ : ∃ q, (mapply st.ws a).2.2 = q := ⟨_, rfl⟩
  have HMU := hide (show Go.Proofs.YtepngbdjobckbaaGreat.u64 va by rw [← hva]; exact mu.2.1)
  have ST := hide (show stp st i = { st with ws := ws', ms := st.ms.set i (mres st.l x va ya), tr := st.tr ++ [⟨i, a, va, ya⟩], pa := st.pa ++ [st.ws] } by
    unfold stp
    rw [HX.out]
    simp only [hat, if_false]
    unfold stS
    simp only [ha, hws', hva, hya])
  have IS := hide (show InvR (stp st i) by
    have := II.out.step HX.out hat
    unfold stp
    rw [HX.out]
    simp only [hat, if_false]
    exact this)
  have NX := hide (fun (W : World) (hW : Below w.heap.size w W) => show Calls Tryz.prog 48 #[.agg #[.int .i64 wh, .int .u64 val, .int .i64 code, .int .i64 pc, .slice FA fn fc, .slice FB fm fd, .slice none 0 0]] W fun e w' => e = .returned (.agg (Acc.cells a)) ∧ Below W.heap.size W w' by
    have := mq_next W st.l _ x (MQ.out.below hW) II.out.cap MV.out
    rwa [ha] at this)
  have AP := hide (fun (W : World) (hW : Below w.heap.size w W) => show Calls Tryz.prog 47 #[.agg #[.slice h.MA h.mn h.mc, .slice h.LA h.ln h.lc, .int .i64 h.tk], .agg (Acc.cells a)] W fun e w' => ∃ A' c', e = .returned (.tuple #[.agg #[.slice A' h.mn c', .slice h.LA h.ln h.lc, .int .i64 h.tk], .agg #[.int .u64 va, .bool ya, .bool false, .slice none 0 0], .bool true]) ∧ IsI .u64 w' A' h.mn ws' ∧ TyA w' A' h.mn 42 ∧ Below W.heap.size W w' by
    have := mapply_any W h.MA h.mn h.mc h.LA h.ln h.lc h.tk st.ws a (HH.out.mi.below hW) (HH.out.mty.below hW) HH.out.mn ok.k (by have := ok.a1; omega) (by have := ok.a2; omega)
    rwa [hws', hva, hya] at this)
  have HOK := hide ok
  clear ok mu hws' hva hya
  have HW := hide ha
  clear ha
  go_cut [6, 7, 8] (fun s6 s7 s8 wx => ∃ (g6 g7 : Nat) (A' : Option Addr) (c' : Nat), s6 = .pointer (some ⟨g6, 0, none⟩) ∧ s7 = .pointer (some ⟨g7, 0, none⟩) ∧ s8 = .bool true ∧ Bk wx g6 33 #[.slice A' h.mn c', .slice h.LA h.ln h.lc, .int .i64 h.tk] ∧ Bk wx g7 86 #[.int .u64 va, .bool ya, .bool false, .slice none 0 0] ∧ IsI .u64 wx A' h.mn ws' ∧ TyA wx A' h.mn 42 ∧ Below w.heap.size w wx ∧ w.heap.size ≤ g6 ∧ w.heap.size ≤ g7)
  case first =>
    have TT := hide (fun (W : World) (hW : Below w.heap.size w W) => show W.cell? ⟨G, 3, none⟩ = some (.slice h.MA h.mn h.mc) ∧ W.cell? ⟨G, 4, none⟩ = some (.slice h.LA h.ln h.lc) ∧ W.cell? ⟨G, 5, none⟩ = some (.int .i64 h.tk) ∧ W.cell? ⟨G, 6, none⟩ = some (.slice (some ⟨gL, 0, none⟩) ls0 cL) ∧ W.cell? ⟨gL, i * 7, none⟩ = some (.int .i64 wh) ∧ W.cell? ⟨gL, i * 7 + 1, none⟩ = some (.int .u64 val) ∧ W.cell? ⟨gL, i * 7 + 2, none⟩ = some (.int .i64 code) ∧ W.cell? ⟨gL, i * 7 + 3, none⟩ = some (.int .i64 pc) ∧ W.cell? ⟨gL, i * 7 + 4, none⟩ = some (.slice FA fn fc) ∧ W.cell? ⟨gL, i * 7 + 5, none⟩ = some (.slice FB fm fd) ∧ W.cell? ⟨gL, i * 7 + 6, none⟩ = some (.slice none 0 0) from
      CELLS.out W hW)
    have HB := hide (HB1.out.trans ((Below.refl w2.heap.size w2).drew.mono HB1.out.size))
    refine wp_region_L (fun W => W.cell? ⟨G, 3, none⟩ = some (.slice h.MA h.mn h.mc) ∧ W.cell? ⟨G, 4, none⟩ = some (.slice h.LA h.ln h.lc) ∧ W.cell? ⟨G, 5, none⟩ = some (.int .i64 h.tk) ∧ W.cell? ⟨G, 6, none⟩ = some (.slice (some ⟨gL, 0, none⟩) ls0 cL) ∧ W.cell? ⟨gL, i * 7, none⟩ = some (.int .i64 wh) ∧ W.cell? ⟨gL, i * 7 + 1, none⟩ = some (.int .u64 val) ∧ W.cell? ⟨gL, i * 7 + 2, none⟩ = some (.int .i64 code) ∧ W.cell? ⟨gL, i * 7 + 3, none⟩ = some (.int .i64 pc) ∧ W.cell? ⟨gL, i * 7 + 4, none⟩ = some (.slice FA fn fc) ∧ W.cell? ⟨gL, i * 7 + 5, none⟩ = some (.slice FB fm fd) ∧ W.cell? ⟨gL, i * 7 + 6, none⟩ = some (.slice none 0 0)) 19 (by kernel_rfl) ?_
    generalize w2.drew = xd at *
    refine wpAnyL_any (i := 0) (oi := ⟨some 22, _, _, _, _, _⟩) (v := ?vvd2_0_1) rfl (by kernel_rfl) (by kernel_rfl) (by kernel_rfl) (by kernel_rfl) (fun _ _ _ h => h) (fun _ => (TT.out _ HB.out)) (by rfl) ?hhd2_0_1 ?rrd2_0_1
    case hhd2_0_1 => (intro W; go_simp; try with_reducible rfl)
    (try simp only [Act.put, List.setIfInBounds_toArray, List.set_cons_zero, List.set_cons_succ])
    refine wpAnyL_any (i := 1) (oi := ⟨some 23, _, _, _, _, _⟩) (v := ?vvd2_1_2) rfl (by kernel_rfl) (by kernel_rfl) (by kernel_rfl) (by kernel_rfl) (fun _ _ _ h => h) (fun _ => (TT.out _ HB.out)) (by rfl) ?hhd2_1_2 ?rrd2_1_2
    case hhd2_1_2 => (intro W; go_simp; try with_reducible rfl)
    (try simp only [Act.put, List.setIfInBounds_toArray, List.set_cons_zero, List.set_cons_succ])
    refine wpAnyL_any (i := 2) (oi := ⟨some 24, _, _, _, _, _⟩) (v := ?vvd2_2_3) rfl (by kernel_rfl) (by kernel_rfl) (by kernel_rfl) (by kernel_rfl) (fun _ _ _ h => h) (fun _ => (TT.out _ HB.out)) (by rfl) ?hhd2_2_3 ?rrd2_2_3
    case hhd2_2_3 => (intro W; go_simp; try with_reducible rfl)
    (try simp only [Act.put, List.setIfInBounds_toArray, List.set_cons_zero, List.set_cons_succ])
    refine wpAnyL_take (i := 3) (oi := ⟨some 25, _, _, _, _, _⟩) [12, 13, 14, 15, 16, 19, 20, 21] (v := ?vvd2_3_4) rfl (by kernel_rfl) (by kernel_rfl) (by kernel_rfl) (by kernel_rfl) (fun _ _ _ h => h) (TT.out _ HB.out) (by rfl) ?hhd2_3_4 ?rrd2_3_4
    case hhd2_3_4 => (intro W hW; obtain ⟨k3, k4, k5, k6, m0, m1, m2, m3, m4, m5, m6⟩ := hW; go_simp; try with_reducible rfl)
    (try simp only [Act.put, List.setIfInBounds_toArray, List.set_cons_zero, List.set_cons_succ])
    refine wpAnyL_any (i := 4) (oi := ⟨some 26, _, _, _, _, _⟩) (v := ?vvd2_4_5) rfl (by kernel_rfl) (by kernel_rfl) (by kernel_rfl) (by kernel_rfl) (fun _ _ _ h => h) (fun _ => (TT.out _ HB.out)) (by rfl) ?hhd2_4_5 ?rrd2_4_5
    case hhd2_4_5 => (intro W; go_simp; try with_reducible rfl)
    (try simp only [Act.put, List.setIfInBounds_toArray, List.set_cons_zero, List.set_cons_succ])
    refine wpAnyL_any (i := 5) (oi := ⟨some 27, _, _, _, _, _⟩) (v := ?vvd2_5_6) rfl (by kernel_rfl) (by kernel_rfl) (by kernel_rfl) (by kernel_rfl) (fun _ _ _ h => h) (fun _ => (TT.out _ HB.out)) (by rfl) ?hhd2_5_6 ?rrd2_5_6
    case hhd2_5_6 => (intro W; go_simp; try with_reducible rfl)
    (try simp only [Act.put, List.setIfInBounds_toArray, List.set_cons_zero, List.set_cons_succ])
    refine wpAnyL_any (i := 6) (oi := ⟨some 28, _, _, _, _, _⟩) (v := ?vvd2_6_7) rfl (by kernel_rfl) (by kernel_rfl) (by kernel_rfl) (by kernel_rfl) (fun _ _ _ h => h) (fun _ => (TT.out _ HB.out)) (by rfl) ?hhd2_6_7 ?rrd2_6_7
    case hhd2_6_7 => (intro W; go_simp; try with_reducible rfl)
    (try simp only [Act.put, List.setIfInBounds_toArray, List.set_cons_zero, List.set_cons_succ])
    refine wpAnyL_take (i := 7) (oi := ⟨some 29, _, _, _, _, _⟩) [9, 10, 11, 12, 13, 14, 15, 16, 19, 20, 21] (v := ?vvd2_7_8) rfl (by kernel_rfl) (by kernel_rfl) (by kernel_rfl) (by kernel_rfl) (fun _ _ _ h => h) (TT.out _ HB.out) (by rfl) ?hhd2_7_8 ?rrd2_7_8
    case hhd2_7_8 => (intro W hW; obtain ⟨k3, k4, k5, k6, m0, m1, m2, m3, m4, m5, m6⟩ := hW; go_simp; try with_reducible rfl)
    (try simp only [Act.put, List.setIfInBounds_toArray, List.set_cons_zero, List.set_cons_succ])
    refine wpAnyL_any (i := 8) (oi := ⟨some 30, _, _, _, _, _⟩) (v := ?vvd2_8_9) rfl (by kernel_rfl) (by kernel_rfl) (by kernel_rfl) (by kernel_rfl) (fun _ _ _ h => h) (fun _ => (TT.out _ HB.out)) (by rfl) ?hhd2_8_9 ?rrd2_8_9
    case hhd2_8_9 => (intro W; go_simp; try with_reducible rfl)
    (try simp only [Act.put, List.setIfInBounds_toArray, List.set_cons_zero, List.set_cons_succ])
    refine wpAnyL_any (i := 9) (oi := ⟨some 31, _, _, _, _, _⟩) (v := ?vvd2_9_10) rfl (by kernel_rfl) (by kernel_rfl) (by kernel_rfl) (by kernel_rfl) (fun _ _ _ h => h) (fun _ => (TT.out _ HB.out)) (by rfl) ?hhd2_9_10 ?rrd2_9_10
    case hhd2_9_10 => (intro W; go_simp; try with_reducible rfl)
    (try simp only [Act.put, List.setIfInBounds_toArray, List.set_cons_zero, List.set_cons_succ])
    refine wpAnyL_take (i := 10) (oi := ⟨some 32, _, _, _, _, _⟩) [11, 12, 13, 14, 15, 16, 19, 20, 21] (v := ?vvd2_10_11) rfl (by kernel_rfl) (by kernel_rfl) (by kernel_rfl) (by kernel_rfl) (fun _ _ _ h => h) (TT.out _ HB.out) (by rfl) ?hhd2_10_11 ?rrd2_10_11
    case hhd2_10_11 => (intro W hW; obtain ⟨k3, k4, k5, k6, m0, m1, m2, m3, m4, m5, m6⟩ := hW; go_simp; try with_reducible rfl)
    (try simp only [Act.put, List.setIfInBounds_toArray, List.set_cons_zero, List.set_cons_succ])
    refine wpAnyL_some 11 [17, 18] (by kernel_rfl) ?_
    refine wpAnyLs_cons (oi := ⟨some 33, _, _, _, _, _⟩) rfl (fun K hK => ?_) ?_
    · refine step_call _ (by rfl) 48 _ (by go_simp) (NX.out _ HB.out) ?_
      rintro e x_11 ⟨rfl, hb⟩
      refine ⟨_, rfl, ?_⟩
      replace HB := hide (HB.out.trans (hb.mono HB.out.size))
      clear hb
      refine hK.out _ _ (fun _ => (TT.out _ HB.out)) ?_
      clear hK K
      (try simp only [Act.put, List.setIfInBounds_toArray, List.set_cons_zero, List.set_cons_succ])
      refine wpAnyL_some 12 [17, 18] (by kernel_rfl) ?_
      refine wpAnyLs_cons (oi := ⟨some 34, _, _, _, _, _⟩) rfl (fun K hK => ?_) ?_
      · refine step_call _ (by rfl) 47 _ (by go_simp) (AP.out _ HB.out) ?_
        rintro e x_11_12 ⟨A', c', rfl, hi', ht', hb⟩
        refine ⟨_, rfl, ?_⟩
        have HI := hide hi'
        have HT := hide ht'
        clear hi' ht'
        replace HB := hide (HB.out.trans (hb.mono HB.out.size))
        clear hb
        refine hK.out _ _ (fun _ => (TT.out _ HB.out)) ?_
        clear hK K
        (try simp only [Act.put, List.setIfInBounds_toArray, List.set_cons_zero, List.set_cons_succ])
        refine wpAnyL_any (i := 13) (oi := ⟨some 21, _, _, _, _, _⟩) (v := ?vvd2_13_12) rfl (by kernel_rfl) (by kernel_rfl) (by kernel_rfl) (by kernel_rfl) (fun _ _ _ h => h) (fun _ => (TT.out _ HB.out)) (by rfl) ?hhd2_13_12 ?rrd2_13_12
        case hhd2_13_12 => (intro W; go_simp; try with_reducible rfl)
        (try simp only [Act.put, List.setIfInBounds_toArray, List.set_cons_zero, List.set_cons_succ])
        refine wpAnyL_any (i := 14) (oi := ⟨some 35, _, _, _, _, _⟩) (v := ?vvd2_14_13) rfl (by kernel_rfl) (by kernel_rfl) (by kernel_rfl) (by kernel_rfl) (fun _ _ _ h => h) (fun _ => (TT.out _ HB.out)) (by rfl) ?hhd2_14_13 ?rrd2_14_13
        case hhd2_14_13 => (intro W; go_simp; try with_reducible rfl)
        (try simp only [Act.put, List.setIfInBounds_toArray, List.set_cons_zero, List.set_cons_succ])
        refine wpAnyL_any (i := 15) (oi := ⟨some 36, _, _, _, _, _⟩) (v := ?vvd2_15_14) rfl (by kernel_rfl) (by kernel_rfl) (by kernel_rfl) (by kernel_rfl) (fun _ _ _ h => h) (fun _ => (TT.out _ HB.out)) (by rfl) ?hhd2_15_14 ?rrd2_15_14
        case hhd2_15_14 => (intro W; go_simp; try with_reducible rfl)
        (try simp only [Act.put, List.setIfInBounds_toArray, List.set_cons_zero, List.set_cons_succ])
        refine wpAnyL_any (i := 16) (oi := ⟨some 37, _, _, _, _, _⟩) (v := ?vvd2_16_15) rfl (by kernel_rfl) (by kernel_rfl) (by kernel_rfl) (by kernel_rfl) (fun _ _ _ h => h) (fun _ => (TT.out _ HB.out)) (by rfl) ?hhd2_16_15 ?rrd2_16_15
        case hhd2_16_15 => (intro W; go_simp; try with_reducible rfl)
        (try simp only [Act.put, List.setIfInBounds_toArray, List.set_cons_zero, List.set_cons_succ])
        refine wpAnyL_some 17 [18] (by kernel_rfl) ?_
        refine wpAnyLs_cons (oi := ⟨some 6, _, _, _, _, _⟩) rfl (fun K hK => ?_) ?_
        · go_simp
          have K6 := hide (Bk.new x_11_12 33 #[.slice none 0 0, .slice none 0 0, .int .i64 0])
          have hg6 : w.heap.size ≤ (x_11_12).heap.size := HB.out.size
          replace HI := hide (HI.out.alloc (.cells #[.slice none 0 0, .slice none 0 0, .int .i64 0] 33))
          replace HT := hide (HT.out.alloc (.cells #[.slice none 0 0, .slice none 0 0, .int .i64 0] 33))
          replace HB := hide (HB.out.trans ((below_new x_11_12 (.cells #[.slice none 0 0, .slice none 0 0, .int .i64 0] 33)).mono HB.out.size))
          generalize (World.alloc x_11_12 (.cells #[.slice none 0 0, .slice none 0 0, .int .i64 0] 33)) = x_11_12_17 at *
          generalize (x_11_12).heap.size = g6 at *
          refine hK.out _ _ (fun _ => (TT.out _ HB.out)) ?_
          clear hK K
          (try simp only [Act.put, List.setIfInBounds_toArray, List.set_cons_zero, List.set_cons_succ])
          refine wpAnyL_one (i := 18) (oi := ⟨some 7, _, _, _, _, _⟩) rfl (by kernel_rfl) (fun K hK => ?_)
          go_simp
          have K7 := hide (Bk.new x_11_12_17 86 #[.int .u64 0, .bool false, .bool false, .slice none 0 0])
          have hg7 : w.heap.size ≤ (x_11_12_17).heap.size := HB.out.size
          replace K6 := hide (K6.out.alloc (.cells #[.int .u64 0, .bool false, .bool false, .slice none 0 0] 86))
          replace HI := hide (HI.out.alloc (.cells #[.int .u64 0, .bool false, .bool false, .slice none 0 0] 86))
          replace HT := hide (HT.out.alloc (.cells #[.int .u64 0, .bool false, .bool false, .slice none 0 0] 86))
          replace HB := hide (HB.out.trans ((below_new x_11_12_17 (.cells #[.int .u64 0, .bool false, .bool false, .slice none 0 0] 86)).mono HB.out.size))
          generalize (World.alloc x_11_12_17 (.cells #[.int .u64 0, .bool false, .bool false, .slice none 0 0] 86)) = x_11_12_17_18 at *
          generalize (x_11_12_17).heap.size = g7 at *
          refine hK.out _ _ (fun _ => (TT.out _ HB.out)) ?_
          clear hK K
          (try simp only [Act.put, List.setIfInBounds_toArray, List.set_cons_zero, List.set_cons_succ])
          refine wpAnyL_one (i := 19) (oi := ⟨none, _, _, _, _, _⟩) rfl (by kernel_rfl) (fun K hK => ?_)
          obtain ⟨r0, r1, r2, rf⟩ := bkm3 K6.out
          go_simp
          clear r0 r1 r2 rf
          have ku : Kp x_11_12_17_18 (World.setCell (World.setCell (World.setCell x_11_12_17_18 ⟨g6, 0, none⟩ (.slice A' h.mn c')) ⟨g6, 1, none⟩ (.slice h.LA h.ln h.lc)) ⟨g6, 2, none⟩ (.int .i64 h.tk)) 42 := kp_sets (by decide) [.slice A' h.mn c', .slice h.LA h.ln h.lc, .int .i64 h.tk] 0 K6.out
          replace HI := hide (HI.out.kp HT.out ku)
          replace HT := hide (HT.out.kp ku)
          clear ku
          replace K7 : Hid (Bk (World.setCell (World.setCell (World.setCell x_11_12_17_18 ⟨g6, 0, none⟩ (.slice A' h.mn c')) ⟨g6, 1, none⟩ (.slice h.LA h.ln h.lc)) ⟨g6, 2, none⟩ (.int .i64 h.tk)) g7 86 _) := hide (kp_sets (T := 86) (by decide) [.slice A' h.mn c', .slice h.LA h.ln h.lc, .int .i64 h.tk] 0 K6.out _ _ K7.out)
          replace HB : Hid (Below w.heap.size w (World.setCell (World.setCell (World.setCell x_11_12_17_18 ⟨g6, 0, none⟩ (.slice A' h.mn c')) ⟨g6, 1, none⟩ (.slice h.LA h.ln h.lc)) ⟨g6, 2, none⟩ (.int .i64 h.tk))) := hide (below_setCells [.slice A' h.mn c', .slice h.LA h.ln h.lc, .int .i64 h.tk] 0 HB.out hg6)
          replace K6 : Hid (Bk (World.setCell (World.setCell (World.setCell x_11_12_17_18 ⟨g6, 0, none⟩ (.slice A' h.mn c')) ⟨g6, 1, none⟩ (.slice h.LA h.ln h.lc)) ⟨g6, 2, none⟩ (.int .i64 h.tk)) g6 33 #[.slice A' h.mn c', .slice h.LA h.ln h.lc, .int .i64 h.tk]) := hide (Bk.stored (cells := #[.slice A' h.mn c', .slice h.LA h.ln h.lc, .int .i64 h.tk]) (hide rfl) K6.out rfl)
          generalize (World.setCell (World.setCell (World.setCell x_11_12_17_18 ⟨g6, 0, none⟩ (.slice A' h.mn c')) ⟨g6, 1, none⟩ (.slice h.LA h.ln h.lc)) ⟨g6, 2, none⟩ (.int .i64 h.tk)) = x_11_12_17_18_19 at *
          refine hK.out _ _ (fun h => by first | cases h | simp at h) ?_
          clear hK K
          (try simp only [Act.put, List.setIfInBounds_toArray, List.set_cons_zero, List.set_cons_succ])
          refine wpAnyL_one (i := 20) (oi := ⟨none, _, _, _, _, _⟩) rfl (by kernel_rfl) (fun K hK => ?_)
          obtain ⟨r0, r1, r2, r3, rf⟩ := bk4 K7.out
          go_simp
          clear r0 r1 r2 r3 rf
          have ku : Kp x_11_12_17_18_19 (World.setCell (World.setCell (World.setCell (World.setCell x_11_12_17_18_19 ⟨g7, 0, none⟩ (.int .u64 va)) ⟨g7, 1, none⟩ (.bool ya)) ⟨g7, 2, none⟩ (.bool false)) ⟨g7, 3, none⟩ (.slice none 0 0)) 42 := kp_sets (by decide) [.int .u64 va, .bool ya, .bool false, .slice none 0 0] 0 K7.out
          replace HI := hide (HI.out.kp HT.out ku)
          replace HT := hide (HT.out.kp ku)
          clear ku
          replace K6 : Hid (Bk (World.setCell (World.setCell (World.setCell (World.setCell x_11_12_17_18_19 ⟨g7, 0, none⟩ (.int .u64 va)) ⟨g7, 1, none⟩ (.bool ya)) ⟨g7, 2, none⟩ (.bool false)) ⟨g7, 3, none⟩ (.slice none 0 0)) g6 33 _) := hide (kp_sets (T := 33) (by decide) [.int .u64 va, .bool ya, .bool false, .slice none 0 0] 0 K7.out _ _ K6.out)
          replace HB : Hid (Below w.heap.size w (World.setCell (World.setCell (World.setCell (World.setCell x_11_12_17_18_19 ⟨g7, 0, none⟩ (.int .u64 va)) ⟨g7, 1, none⟩ (.bool ya)) ⟨g7, 2, none⟩ (.bool false)) ⟨g7, 3, none⟩ (.slice none 0 0))) := hide (below_setCells [.int .u64 va, .bool ya, .bool false, .slice none 0 0] 0 HB.out hg7)
          replace K7 : Hid (Bk (World.setCell (World.setCell (World.setCell (World.setCell x_11_12_17_18_19 ⟨g7, 0, none⟩ (.int .u64 va)) ⟨g7, 1, none⟩ (.bool ya)) ⟨g7, 2, none⟩ (.bool false)) ⟨g7, 3, none⟩ (.slice none 0 0)) g7 86 #[.int .u64 va, .bool ya, .bool false, .slice none 0 0]) := hide (Bk.stored (cells := #[.int .u64 va, .bool ya, .bool false, .slice none 0 0]) (hide rfl) K7.out rfl)
          generalize (World.setCell (World.setCell (World.setCell (World.setCell x_11_12_17_18_19 ⟨g7, 0, none⟩ (.int .u64 va)) ⟨g7, 1, none⟩ (.bool ya)) ⟨g7, 2, none⟩ (.bool false)) ⟨g7, 3, none⟩ (.slice none 0 0)) = x_11_12_17_18_19_20 at *
          refine hK.out _ _ (fun h => by first | cases h | simp at h) ?_
          clear hK K
          (try simp only [Act.put, List.setIfInBounds_toArray, List.set_cons_zero, List.set_cons_succ])
          refine wpAnyL_any (i := 21) (oi := ⟨some 8, _, _, _, _, _⟩) (v := ?vvd2_21_16) rfl (by kernel_rfl) (by kernel_rfl) (by kernel_rfl) (by kernel_rfl) (fun _ _ _ h => h) (fun h => by first | cases h | simp at h) (by rfl) ?hhd2_21_16 ?rrd2_21_16
          case hhd2_21_16 => (intro W; go_simp; try with_reducible rfl)
          (try simp only [Act.put, List.setIfInBounds_toArray, List.set_cons_zero, List.set_cons_succ])
          refine wpAnyL_done (by kernel_rfl) ?_ _
          go_wp2
          go_meet
          case rel => exact ⟨g6, g7, A', c', rfl, rfl, rfl, K6.out, K7.out, HI.out, HT.out, HB.out, hg6, hg7⟩
        refine wpAnyLs_cons (oi := ⟨some 7, _, _, _, _, _⟩) rfl (fun K hK => ?_) ?_
        · go_simp
          have K7 := hide (Bk.new x_11_12 86 #[.int .u64 0, .bool false, .bool false, .slice none 0 0])
          have hg7 : w.heap.size ≤ (x_11_12).heap.size := HB.out.size
          replace HI := hide (HI.out.alloc (.cells #[.int .u64 0, .bool false, .bool false, .slice none 0 0] 86))
          replace HT := hide (HT.out.alloc (.cells #[.int .u64 0, .bool false, .bool false, .slice none 0 0] 86))
          replace HB := hide (HB.out.trans ((below_new x_11_12 (.cells #[.int .u64 0, .bool false, .bool false, .slice none 0 0] 86)).mono HB.out.size))
          generalize (World.alloc x_11_12 (.cells #[.int .u64 0, .bool false, .bool false, .slice none 0 0] 86)) = x_11_12_18 at *
          generalize (x_11_12).heap.size = g7 at *
          refine hK.out _ _ (fun _ => (TT.out _ HB.out)) ?_
          clear hK K
          (try simp only [Act.put, List.setIfInBounds_toArray, List.set_cons_zero, List.set_cons_succ])
          refine wpAnyL_one (i := 17) (oi := ⟨some 6, _, _, _, _, _⟩) rfl (by kernel_rfl) (fun K hK => ?_)
          go_simp
          have K6 := hide (Bk.new x_11_12_18 33 #[.slice none 0 0, .slice none 0 0, .int .i64 0])
          have hg6 : w.heap.size ≤ (x_11_12_18).heap.size := HB.out.size
          replace K7 := hide (K7.out.alloc (.cells #[.slice none 0 0, .slice none 0 0, .int .i64 0] 33))
          replace HI := hide (HI.out.alloc (.cells #[.slice none 0 0, .slice none 0 0, .int .i64 0] 33))
          replace HT := hide (HT.out.alloc (.cells #[.slice none 0 0, .slice none 0 0, .int .i64 0] 33))
          replace HB := hide (HB.out.trans ((below_new x_11_12_18 (.cells #[.slice none 0 0, .slice none 0 0, .int .i64 0] 33)).mono HB.out.size))
          generalize (World.alloc x_11_12_18 (.cells #[.slice none 0 0, .slice none 0 0, .int .i64 0] 33)) = x_11_12_17_18 at *
          generalize (x_11_12_18).heap.size = g6 at *
          refine hK.out _ _ (fun _ => (TT.out _ HB.out)) ?_
          clear hK K
          (try simp only [Act.put, List.setIfInBounds_toArray, List.set_cons_zero, List.set_cons_succ])
          refine wpAnyL_one (i := 19) (oi := ⟨none, _, _, _, _, _⟩) rfl (by kernel_rfl) (fun K hK => ?_)
          obtain ⟨r0, r1, r2, rf⟩ := bkm3 K6.out
          go_simp
          clear r0 r1 r2 rf
          have ku : Kp x_11_12_17_18 (World.setCell (World.setCell (World.setCell x_11_12_17_18 ⟨g6, 0, none⟩ (.slice A' h.mn c')) ⟨g6, 1, none⟩ (.slice h.LA h.ln h.lc)) ⟨g6, 2, none⟩ (.int .i64 h.tk)) 42 := kp_sets (by decide) [.slice A' h.mn c', .slice h.LA h.ln h.lc, .int .i64 h.tk] 0 K6.out
          replace HI := hide (HI.out.kp HT.out ku)
          replace HT := hide (HT.out.kp ku)
          clear ku
          replace K7 : Hid (Bk (World.setCell (World.setCell (World.setCell x_11_12_17_18 ⟨g6, 0, none⟩ (.slice A' h.mn c')) ⟨g6, 1, none⟩ (.slice h.LA h.ln h.lc)) ⟨g6, 2, none⟩ (.int .i64 h.tk)) g7 86 _) := hide (kp_sets (T := 86) (by decide) [.slice A' h.mn c', .slice h.LA h.ln h.lc, .int .i64 h.tk] 0 K6.out _ _ K7.out)
          replace HB : Hid (Below w.heap.size w (World.setCell (World.setCell (World.setCell x_11_12_17_18 ⟨g6, 0, none⟩ (.slice A' h.mn c')) ⟨g6, 1, none⟩ (.slice h.LA h.ln h.lc)) ⟨g6, 2, none⟩ (.int .i64 h.tk))) := hide (below_setCells [.slice A' h.mn c', .slice h.LA h.ln h.lc, .int .i64 h.tk] 0 HB.out hg6)
          replace K6 : Hid (Bk (World.setCell (World.setCell (World.setCell x_11_12_17_18 ⟨g6, 0, none⟩ (.slice A' h.mn c')) ⟨g6, 1, none⟩ (.slice h.LA h.ln h.lc)) ⟨g6, 2, none⟩ (.int .i64 h.tk)) g6 33 #[.slice A' h.mn c', .slice h.LA h.ln h.lc, .int .i64 h.tk]) := hide (Bk.stored (cells := #[.slice A' h.mn c', .slice h.LA h.ln h.lc, .int .i64 h.tk]) (hide rfl) K6.out rfl)
          generalize (World.setCell (World.setCell (World.setCell x_11_12_17_18 ⟨g6, 0, none⟩ (.slice A' h.mn c')) ⟨g6, 1, none⟩ (.slice h.LA h.ln h.lc)) ⟨g6, 2, none⟩ (.int .i64 h.tk)) = x_11_12_17_18_19 at *
          refine hK.out _ _ (fun h => by first | cases h | simp at h) ?_
          clear hK K
          (try simp only [Act.put, List.setIfInBounds_toArray, List.set_cons_zero, List.set_cons_succ])
          refine wpAnyL_one (i := 20) (oi := ⟨none, _, _, _, _, _⟩) rfl (by kernel_rfl) (fun K hK => ?_)
          obtain ⟨r0, r1, r2, r3, rf⟩ := bk4 K7.out
          go_simp
          clear r0 r1 r2 r3 rf
          have ku : Kp x_11_12_17_18_19 (World.setCell (World.setCell (World.setCell (World.setCell x_11_12_17_18_19 ⟨g7, 0, none⟩ (.int .u64 va)) ⟨g7, 1, none⟩ (.bool ya)) ⟨g7, 2, none⟩ (.bool false)) ⟨g7, 3, none⟩ (.slice none 0 0)) 42 := kp_sets (by decide) [.int .u64 va, .bool ya, .bool false, .slice none 0 0] 0 K7.out
          replace HI := hide (HI.out.kp HT.out ku)
          replace HT := hide (HT.out.kp ku)
          clear ku
          replace K6 : Hid (Bk (World.setCell (World.setCell (World.setCell (World.setCell x_11_12_17_18_19 ⟨g7, 0, none⟩ (.int .u64 va)) ⟨g7, 1, none⟩ (.bool ya)) ⟨g7, 2, none⟩ (.bool false)) ⟨g7, 3, none⟩ (.slice none 0 0)) g6 33 _) := hide (kp_sets (T := 33) (by decide) [.int .u64 va, .bool ya, .bool false, .slice none 0 0] 0 K7.out _ _ K6.out)
          replace HB : Hid (Below w.heap.size w (World.setCell (World.setCell (World.setCell (World.setCell x_11_12_17_18_19 ⟨g7, 0, none⟩ (.int .u64 va)) ⟨g7, 1, none⟩ (.bool ya)) ⟨g7, 2, none⟩ (.bool false)) ⟨g7, 3, none⟩ (.slice none 0 0))) := hide (below_setCells [.int .u64 va, .bool ya, .bool false, .slice none 0 0] 0 HB.out hg7)
          replace K7 : Hid (Bk (World.setCell (World.setCell (World.setCell (World.setCell x_11_12_17_18_19 ⟨g7, 0, none⟩ (.int .u64 va)) ⟨g7, 1, none⟩ (.bool ya)) ⟨g7, 2, none⟩ (.bool false)) ⟨g7, 3, none⟩ (.slice none 0 0)) g7 86 #[.int .u64 va, .bool ya, .bool false, .slice none 0 0]) := hide (Bk.stored (cells := #[.int .u64 va, .bool ya, .bool false, .slice none 0 0]) (hide rfl) K7.out rfl)
          generalize (World.setCell (World.setCell (World.setCell (World.setCell x_11_12_17_18_19 ⟨g7, 0, none⟩ (.int .u64 va)) ⟨g7, 1, none⟩ (.bool ya)) ⟨g7, 2, none⟩ (.bool false)) ⟨g7, 3, none⟩ (.slice none 0 0)) = x_11_12_17_18_19_20 at *
          refine hK.out _ _ (fun h => by first | cases h | simp at h) ?_
          clear hK K
          (try simp only [Act.put, List.setIfInBounds_toArray, List.set_cons_zero, List.set_cons_succ])
          refine wpAnyL_any (i := 21) (oi := ⟨some 8, _, _, _, _, _⟩) (v := ?vvd2_21_17) rfl (by kernel_rfl) (by kernel_rfl) (by kernel_rfl) (by kernel_rfl) (fun _ _ _ h => h) (fun h => by first | cases h | simp at h) (by rfl) ?hhd2_21_17 ?rrd2_21_17
          case hhd2_21_17 => (intro W; go_simp; try with_reducible rfl)
          (try simp only [Act.put, List.setIfInBounds_toArray, List.set_cons_zero, List.set_cons_succ])
          refine wpAnyL_done (by kernel_rfl) ?_ _
          go_wp2
          go_meet
          case rel => exact ⟨g6, g7, A', c', rfl, rfl, rfl, K6.out, K7.out, HI.out, HT.out, HB.out, hg6, hg7⟩
        exact wpAnyLs_nil
      refine wpAnyLs_cons (oi := ⟨some 6, _, _, _, _, _⟩) rfl (fun K hK => ?_) ?_
      · go_simp
        have K6 := hide (Bk.new x_11 33 #[.slice none 0 0, .slice none 0 0, .int .i64 0])
        have hg6 : w.heap.size ≤ (x_11).heap.size := HB.out.size
        replace HB := hide (HB.out.trans ((below_new x_11 (.cells #[.slice none 0 0, .slice none 0 0, .int .i64 0] 33)).mono HB.out.size))
        generalize (World.alloc x_11 (.cells #[.slice none 0 0, .slice none 0 0, .int .i64 0] 33)) = x_11_17 at *
        generalize (x_11).heap.size = g6 at *
        refine hK.out _ _ (fun _ => (TT.out _ HB.out)) ?_
        clear hK K
        (try simp only [Act.put, List.setIfInBounds_toArray, List.set_cons_zero, List.set_cons_succ])
        refine wpAnyL_some 12 [18] (by kernel_rfl) ?_
        refine wpAnyLs_cons (oi := ⟨some 34, _, _, _, _, _⟩) rfl (fun K hK => ?_) ?_
        · refine step_call _ (by rfl) 47 _ (by go_simp) (AP.out _ HB.out) ?_
          rintro e x_11_12_17 ⟨A', c', rfl, hi', ht', hb⟩
          refine ⟨_, rfl, ?_⟩
          replace K6 := hide (K6.out.below hb K6.out.lt)
          have HI := hide hi'
          have HT := hide ht'
          clear hi' ht'
          replace HB := hide (HB.out.trans (hb.mono HB.out.size))
          clear hb
          refine hK.out _ _ (fun _ => (TT.out _ HB.out)) ?_
          clear hK K
          (try simp only [Act.put, List.setIfInBounds_toArray, List.set_cons_zero, List.set_cons_succ])
          refine wpAnyL_any (i := 13) (oi := ⟨some 21, _, _, _, _, _⟩) (v := ?vvd2_13_18) rfl (by kernel_rfl) (by kernel_rfl) (by kernel_rfl) (by kernel_rfl) (fun _ _ _ h => h) (fun _ => (TT.out _ HB.out)) (by rfl) ?hhd2_13_18 ?rrd2_13_18
          case hhd2_13_18 => (intro W; go_simp; try with_reducible rfl)
          (try simp only [Act.put, List.setIfInBounds_toArray, List.set_cons_zero, List.set_cons_succ])
          refine wpAnyL_any (i := 14) (oi := ⟨some 35, _, _, _, _, _⟩) (v := ?vvd2_14_19) rfl (by kernel_rfl) (by kernel_rfl) (by kernel_rfl) (by kernel_rfl) (fun _ _ _ h => h) (fun _ => (TT.out _ HB.out)) (by rfl) ?hhd2_14_19 ?rrd2_14_19
          case hhd2_14_19 => (intro W; go_simp; try with_reducible rfl)
          (try simp only [Act.put, List.setIfInBounds_toArray, List.set_cons_zero, List.set_cons_succ])
          refine wpAnyL_any (i := 15) (oi := ⟨some 36, _, _, _, _, _⟩) (v := ?vvd2_15_20) rfl (by kernel_rfl) (by kernel_rfl) (by kernel_rfl) (by kernel_rfl) (fun _ _ _ h => h) (fun _ => (TT.out _ HB.out)) (by rfl) ?hhd2_15_20 ?rrd2_15_20
          case hhd2_15_20 => (intro W; go_simp; try with_reducible rfl)
          (try simp only [Act.put, List.setIfInBounds_toArray, List.set_cons_zero, List.set_cons_succ])
          refine wpAnyL_any (i := 16) (oi := ⟨some 37, _, _, _, _, _⟩) (v := ?vvd2_16_21) rfl (by kernel_rfl) (by kernel_rfl) (by kernel_rfl) (by kernel_rfl) (fun _ _ _ h => h) (fun _ => (TT.out _ HB.out)) (by rfl) ?hhd2_16_21 ?rrd2_16_21
          case hhd2_16_21 => (intro W; go_simp; try with_reducible rfl)
          (try simp only [Act.put, List.setIfInBounds_toArray, List.set_cons_zero, List.set_cons_succ])
          refine wpAnyL_one (i := 18) (oi := ⟨some 7, _, _, _, _, _⟩) rfl (by kernel_rfl) (fun K hK => ?_)
          go_simp
          have K7 := hide (Bk.new x_11_12_17 86 #[.int .u64 0, .bool false, .bool false, .slice none 0 0])
          have hg7 : w.heap.size ≤ (x_11_12_17).heap.size := HB.out.size
          replace K6 := hide (K6.out.alloc (.cells #[.int .u64 0, .bool false, .bool false, .slice none 0 0] 86))
          replace HI := hide (HI.out.alloc (.cells #[.int .u64 0, .bool false, .bool false, .slice none 0 0] 86))
          replace HT := hide (HT.out.alloc (.cells #[.int .u64 0, .bool false, .bool false, .slice none 0 0] 86))
          replace HB := hide (HB.out.trans ((below_new x_11_12_17 (.cells #[.int .u64 0, .bool false, .bool false, .slice none 0 0] 86)).mono HB.out.size))
          generalize (World.alloc x_11_12_17 (.cells #[.int .u64 0, .bool false, .bool false, .slice none 0 0] 86)) = x_11_12_17_18 at *
          generalize (x_11_12_17).heap.size = g7 at *
          refine hK.out _ _ (fun _ => (TT.out _ HB.out)) ?_
          clear hK K
          (try simp only [Act.put, List.setIfInBounds_toArray, List.set_cons_zero, List.set_cons_succ])
          refine wpAnyL_one (i := 19) (oi := ⟨none, _, _, _, _, _⟩) rfl (by kernel_rfl) (fun K hK => ?_)
          obtain ⟨r0, r1, r2, rf⟩ := bkm3 K6.out
          go_simp
          clear r0 r1 r2 rf
          have ku : Kp x_11_12_17_18 (World.setCell (World.setCell (World.setCell x_11_12_17_18 ⟨g6, 0, none⟩ (.slice A' h.mn c')) ⟨g6, 1, none⟩ (.slice h.LA h.ln h.lc)) ⟨g6, 2, none⟩ (.int .i64 h.tk)) 42 := kp_sets (by decide) [.slice A' h.mn c', .slice h.LA h.ln h.lc, .int .i64 h.tk] 0 K6.out
          replace HI := hide (HI.out.kp HT.out ku)
          replace HT := hide (HT.out.kp ku)
          clear ku
          replace K7 : Hid (Bk (World.setCell (World.setCell (World.setCell x_11_12_17_18 ⟨g6, 0, none⟩ (.slice A' h.mn c')) ⟨g6, 1, none⟩ (.slice h.LA h.ln h.lc)) ⟨g6, 2, none⟩ (.int .i64 h.tk)) g7 86 _) := hide (kp_sets (T := 86) (by decide) [.slice A' h.mn c', .slice h.LA h.ln h.lc, .int .i64 h.tk] 0 K6.out _ _ K7.out)
          replace HB : Hid (Below w.heap.size w (World.setCell (World.setCell (World.setCell x_11_12_17_18 ⟨g6, 0, none⟩ (.slice A' h.mn c')) ⟨g6, 1, none⟩ (.slice h.LA h.ln h.lc)) ⟨g6, 2, none⟩ (.int .i64 h.tk))) := hide (below_setCells [.slice A' h.mn c', .slice h.LA h.ln h.lc, .int .i64 h.tk] 0 HB.out hg6)
          replace K6 : Hid (Bk (World.setCell (World.setCell (World.setCell x_11_12_17_18 ⟨g6, 0, none⟩ (.slice A' h.mn c')) ⟨g6, 1, none⟩ (.slice h.LA h.ln h.lc)) ⟨g6, 2, none⟩ (.int .i64 h.tk)) g6 33 #[.slice A' h.mn c', .slice h.LA h.ln h.lc, .int .i64 h.tk]) := hide (Bk.stored (cells := #[.slice A' h.mn c', .slice h.LA h.ln h.lc, .int .i64 h.tk]) (hide rfl) K6.out rfl)
          generalize (World.setCell (World.setCell (World.setCell x_11_12_17_18 ⟨g6, 0, none⟩ (.slice A' h.mn c')) ⟨g6, 1, none⟩ (.slice h.LA h.ln h.lc)) ⟨g6, 2, none⟩ (.int .i64 h.tk)) = x_11_12_17_18_19 at *
          refine hK.out _ _ (fun h => by first | cases h | simp at h) ?_
          clear hK K
          (try simp only [Act.put, List.setIfInBounds_toArray, List.set_cons_zero, List.set_cons_succ])
          refine wpAnyL_one (i := 20) (oi := ⟨none, _, _, _, _, _⟩) rfl (by kernel_rfl) (fun K hK => ?_)
          obtain ⟨r0, r1, r2, r3, rf⟩ := bk4 K7.out
          go_simp
          clear r0 r1 r2 r3 rf
          have ku : Kp x_11_12_17_18_19 (World.setCell (World.setCell (World.setCell (World.setCell x_11_12_17_18_19 ⟨g7, 0, none⟩ (.int .u64 va)) ⟨g7, 1, none⟩ (.bool ya)) ⟨g7, 2, none⟩ (.bool false)) ⟨g7, 3, none⟩ (.slice none 0 0)) 42 := kp_sets (by decide) [.int .u64 va, .bool ya, .bool false, .slice none 0 0] 0 K7.out
          replace HI := hide (HI.out.kp HT.out ku)
          replace HT := hide (HT.out.kp ku)
          clear ku
          replace K6 : Hid (Bk (World.setCell (World.setCell (World.setCell (World.setCell x_11_12_17_18_19 ⟨g7, 0, none⟩ (.int .u64 va)) ⟨g7, 1, none⟩ (.bool ya)) ⟨g7, 2, none⟩ (.bool false)) ⟨g7, 3, none⟩ (.slice none 0 0)) g6 33 _) := hide (kp_sets (T := 33) (by decide) [.int .u64 va, .bool ya, .bool false, .slice none 0 0] 0 K7.out _ _ K6.out)
          replace HB : Hid (Below w.heap.size w (World.setCell (World.setCell (World.setCell (World.setCell x_11_12_17_18_19 ⟨g7, 0, none⟩ (.int .u64 va)) ⟨g7, 1, none⟩ (.bool ya)) ⟨g7, 2, none⟩ (.bool false)) ⟨g7, 3, none⟩ (.slice none 0 0))) := hide (below_setCells [.int .u64 va, .bool ya, .bool false, .slice none 0 0] 0 HB.out hg7)
          replace K7 : Hid (Bk (World.setCell (World.setCell (World.setCell (World.setCell x_11_12_17_18_19 ⟨g7, 0, none⟩ (.int .u64 va)) ⟨g7, 1, none⟩ (.bool ya)) ⟨g7, 2, none⟩ (.bool false)) ⟨g7, 3, none⟩ (.slice none 0 0)) g7 86 #[.int .u64 va, .bool ya, .bool false, .slice none 0 0]) := hide (Bk.stored (cells := #[.int .u64 va, .bool ya, .bool false, .slice none 0 0]) (hide rfl) K7.out rfl)
          generalize (World.setCell (World.setCell (World.setCell (World.setCell x_11_12_17_18_19 ⟨g7, 0, none⟩ (.int .u64 va)) ⟨g7, 1, none⟩ (.bool ya)) ⟨g7, 2, none⟩ (.bool false)) ⟨g7, 3, none⟩ (.slice none 0 0)) = x_11_12_17_18_19_20 at *
          refine hK.out _ _ (fun h => by first | cases h | simp at h) ?_
          clear hK K
          (try simp only [Act.put, List.setIfInBounds_toArray, List.set_cons_zero, List.set_cons_succ])
          refine wpAnyL_any (i := 21) (oi := ⟨some 8, _, _, _, _, _⟩) (v := ?vvd2_21_22) rfl (by kernel_rfl) (by kernel_rfl) (by kernel_rfl) (by kernel_rfl) (fun _ _ _ h => h) (fun h => by first | cases h | simp at h) (by rfl) ?hhd2_21_22 ?rrd2_21_22
          case hhd2_21_22 => (intro W; go_simp; try with_reducible rfl)
          (try simp only [Act.put, List.setIfInBounds_toArray, List.set_cons_zero, List.set_cons_succ])
          refine wpAnyL_done (by kernel_rfl) ?_ _
          go_wp2
          go_meet
          case rel => exact ⟨g6, g7, A', c', rfl, rfl, rfl, K6.out, K7.out, HI.out, HT.out, HB.out, hg6, hg7⟩
        refine wpAnyLs_cons (oi := ⟨some 7, _, _, _, _, _⟩) rfl (fun K hK => ?_) ?_
        · go_simp
          have K7 := hide (Bk.new x_11_17 86 #[.int .u64 0, .bool false, .bool false, .slice none 0 0])
          have hg7 : w.heap.size ≤ (x_11_17).heap.size := HB.out.size
          replace K6 := hide (K6.out.alloc (.cells #[.int .u64 0, .bool false, .bool false, .slice none 0 0] 86))
          replace HB := hide (HB.out.trans ((below_new x_11_17 (.cells #[.int .u64 0, .bool false, .bool false, .slice none 0 0] 86)).mono HB.out.size))
          generalize (World.alloc x_11_17 (.cells #[.int .u64 0, .bool false, .bool false, .slice none 0 0] 86)) = x_11_17_18 at *
          generalize (x_11_17).heap.size = g7 at *
          refine hK.out _ _ (fun _ => (TT.out _ HB.out)) ?_
          clear hK K
          (try simp only [Act.put, List.setIfInBounds_toArray, List.set_cons_zero, List.set_cons_succ])
          refine wpAnyL_one (i := 12) (oi := ⟨some 34, _, _, _, _, _⟩) rfl (by kernel_rfl) (fun K hK => ?_)
          refine step_call _ (by rfl) 47 _ (by go_simp) (AP.out _ HB.out) ?_
          rintro e x_11_12_17_18 ⟨A', c', rfl, hi', ht', hb⟩
          refine ⟨_, rfl, ?_⟩
          replace K6 := hide (K6.out.below hb K6.out.lt)
          replace K7 := hide (K7.out.below hb K7.out.lt)
          have HI := hide hi'
          have HT := hide ht'
          clear hi' ht'
          replace HB := hide (HB.out.trans (hb.mono HB.out.size))
          clear hb
          refine hK.out _ _ (fun _ => (TT.out _ HB.out)) ?_
          clear hK K
          (try simp only [Act.put, List.setIfInBounds_toArray, List.set_cons_zero, List.set_cons_succ])
          refine wpAnyL_any (i := 13) (oi := ⟨some 21, _, _, _, _, _⟩) (v := ?vvd2_13_23) rfl (by kernel_rfl) (by kernel_rfl) (by kernel_rfl) (by kernel_rfl) (fun _ _ _ h => h) (fun _ => (TT.out _ HB.out)) (by rfl) ?hhd2_13_23 ?rrd2_13_23
          case hhd2_13_23 => (intro W; go_simp; try with_reducible rfl)
          (try simp only [Act.put, List.setIfInBounds_toArray, List.set_cons_zero, List.set_cons_succ])
          refine wpAnyL_any (i := 14) (oi := ⟨some 35, _, _, _, _, _⟩) (v := ?vvd2_14_24) rfl (by kernel_rfl) (by kernel_rfl) (by kernel_rfl) (by kernel_rfl) (fun _ _ _ h => h) (fun _ => (TT.out _ HB.out)) (by rfl) ?hhd2_14_24 ?rrd2_14_24
          case hhd2_14_24 => (intro W; go_simp; try with_reducible rfl)
          (try simp only [Act.put, List.setIfInBounds_toArray, List.set_cons_zero, List.set_cons_succ])
          refine wpAnyL_any (i := 15) (oi := ⟨some 36, _, _, _, _, _⟩) (v := ?vvd2_15_25) rfl (by kernel_rfl) (by kernel_rfl) (by kernel_rfl) (by kernel_rfl) (fun _ _ _ h => h) (fun _ => (TT.out _ HB.out)) (by rfl) ?hhd2_15_25 ?rrd2_15_25
          case hhd2_15_25 => (intro W; go_simp; try with_reducible rfl)
          (try simp only [Act.put, List.setIfInBounds_toArray, List.set_cons_zero, List.set_cons_succ])
          refine wpAnyL_any (i := 16) (oi := ⟨some 37, _, _, _, _, _⟩) (v := ?vvd2_16_26) rfl (by kernel_rfl) (by kernel_rfl) (by kernel_rfl) (by kernel_rfl) (fun _ _ _ h => h) (fun _ => (TT.out _ HB.out)) (by rfl) ?hhd2_16_26 ?rrd2_16_26
          case hhd2_16_26 => (intro W; go_simp; try with_reducible rfl)
          (try simp only [Act.put, List.setIfInBounds_toArray, List.set_cons_zero, List.set_cons_succ])
          refine wpAnyL_one (i := 19) (oi := ⟨none, _, _, _, _, _⟩) rfl (by kernel_rfl) (fun K hK => ?_)
          obtain ⟨r0, r1, r2, rf⟩ := bkm3 K6.out
          go_simp
          clear r0 r1 r2 rf
          have ku : Kp x_11_12_17_18 (World.setCell (World.setCell (World.setCell x_11_12_17_18 ⟨g6, 0, none⟩ (.slice A' h.mn c')) ⟨g6, 1, none⟩ (.slice h.LA h.ln h.lc)) ⟨g6, 2, none⟩ (.int .i64 h.tk)) 42 := kp_sets (by decide) [.slice A' h.mn c', .slice h.LA h.ln h.lc, .int .i64 h.tk] 0 K6.out
          replace HI := hide (HI.out.kp HT.out ku)
          replace HT := hide (HT.out.kp ku)
          clear ku
          replace K7 : Hid (Bk (World.setCell (World.setCell (World.setCell x_11_12_17_18 ⟨g6, 0, none⟩ (.slice A' h.mn c')) ⟨g6, 1, none⟩ (.slice h.LA h.ln h.lc)) ⟨g6, 2, none⟩ (.int .i64 h.tk)) g7 86 _) := hide (kp_sets (T := 86) (by decide) [.slice A' h.mn c', .slice h.LA h.ln h.lc, .int .i64 h.tk] 0 K6.out _ _ K7.out)
          replace HB : Hid (Below w.heap.size w (World.setCell (World.setCell (World.setCell x_11_12_17_18 ⟨g6, 0, none⟩ (.slice A' h.mn c')) ⟨g6, 1, none⟩ (.slice h.LA h.ln h.lc)) ⟨g6, 2, none⟩ (.int .i64 h.tk))) := hide (below_setCells [.slice A' h.mn c', .slice h.LA h.ln h.lc, .int .i64 h.tk] 0 HB.out hg6)
          replace K6 : Hid (Bk (World.setCell (World.setCell (World.setCell x_11_12_17_18 ⟨g6, 0, none⟩ (.slice A' h.mn c')) ⟨g6, 1, none⟩ (.slice h.LA h.ln h.lc)) ⟨g6, 2, none⟩ (.int .i64 h.tk)) g6 33 #[.slice A' h.mn c', .slice h.LA h.ln h.lc, .int .i64 h.tk]) := hide (Bk.stored (cells := #[.slice A' h.mn c', .slice h.LA h.ln h.lc, .int .i64 h.tk]) (hide rfl) K6.out rfl)
          generalize (World.setCell (World.setCell (World.setCell x_11_12_17_18 ⟨g6, 0, none⟩ (.slice A' h.mn c')) ⟨g6, 1, none⟩ (.slice h.LA h.ln h.lc)) ⟨g6, 2, none⟩ (.int .i64 h.tk)) = x_11_12_17_18_19 at *
          refine hK.out _ _ (fun h => by first | cases h | simp at h) ?_
          clear hK K
          (try simp only [Act.put, List.setIfInBounds_toArray, List.set_cons_zero, List.set_cons_succ])
          refine wpAnyL_one (i := 20) (oi := ⟨none, _, _, _, _, _⟩) rfl (by kernel_rfl) (fun K hK => ?_)
          obtain ⟨r0, r1, r2, r3, rf⟩ := bk4 K7.out
          go_simp
          clear r0 r1 r2 r3 rf
          have ku : Kp x_11_12_17_18_19 (World.setCell (World.setCell (World.setCell (World.setCell x_11_12_17_18_19 ⟨g7, 0, none⟩ (.int .u64 va)) ⟨g7, 1, none⟩ (.bool ya)) ⟨g7, 2, none⟩ (.bool false)) ⟨g7, 3, none⟩ (.slice none 0 0)) 42 := kp_sets (by decide) [.int .u64 va, .bool ya, .bool false, .slice none 0 0] 0 K7.out
          replace HI := hide (HI.out.kp HT.out ku)
          replace HT := hide (HT.out.kp ku)
          clear ku
          replace K6 : Hid (Bk (World.setCell (World.setCell (World.setCell (World.setCell x_11_12_17_18_19 ⟨g7, 0, none⟩ (.int .u64 va)) ⟨g7, 1, none⟩ (.bool ya)) ⟨g7, 2, none⟩ (.bool false)) ⟨g7, 3, none⟩ (.slice none 0 0)) g6 33 _) := hide (kp_sets (T := 33) (by decide) [.int .u64 va, .bool ya, .bool false, .slice none 0 0] 0 K7.out _ _ K6.out)
          replace HB : Hid (Below w.heap.size w (World.setCell (World.setCell (World.setCell (World.setCell x_11_12_17_18_19 ⟨g7, 0, none⟩ (.int .u64 va)) ⟨g7, 1, none⟩ (.bool ya)) ⟨g7, 2, none⟩ (.bool false)) ⟨g7, 3, none⟩ (.slice none 0 0))) := hide (below_setCells [.int .u64 va, .bool ya, .bool false, .slice none 0 0] 0 HB.out hg7)
          replace K7 : Hid (Bk (World.setCell (World.setCell (World.setCell (World.setCell x_11_12_17_18_19 ⟨g7, 0, none⟩ (.int .u64 va)) ⟨g7, 1, none⟩ (.bool ya)) ⟨g7, 2, none⟩ (.bool false)) ⟨g7, 3, none⟩ (.slice none 0 0)) g7 86 #[.int .u64 va, .bool ya, .bool false, .slice none 0 0]) := hide (Bk.stored (cells := #[.int .u64 va, .bool ya, .bool false, .slice none 0 0]) (hide rfl) K7.out rfl)
          generalize (World.setCell (World.setCell (World.setCell (World.setCell x_11_12_17_18_19 ⟨g7, 0, none⟩ (.int .u64 va)) ⟨g7, 1, none⟩ (.bool ya)) ⟨g7, 2, none⟩ (.bool false)) ⟨g7, 3, none⟩ (.slice none 0 0)) = x_11_12_17_18_19_20 at *
          refine hK.out _ _ (fun h => by first | cases h | simp at h) ?_
          clear hK K
          (try simp only [Act.put, List.setIfInBounds_toArray, List.set_cons_zero, List.set_cons_succ])
          refine wpAnyL_any (i := 21) (oi := ⟨some 8, _, _, _, _, _⟩) (v := ?vvd2_21_27) rfl (by kernel_rfl) (by kernel_rfl) (by kernel_rfl) (by kernel_rfl) (fun _ _ _ h => h) (fun h => by first | cases h | simp at h) (by rfl) ?hhd2_21_27 ?rrd2_21_27
          case hhd2_21_27 => (intro W; go_simp; try with_reducible rfl)
          (try simp only [Act.put, List.setIfInBounds_toArray, List.set_cons_zero, List.set_cons_succ])
          refine wpAnyL_done (by kernel_rfl) ?_ _
          go_wp2
          go_meet
          case rel => exact ⟨g6, g7, A', c', rfl, rfl, rfl, K6.out, K7.out, HI.out, HT.out, HB.out, hg6, hg7⟩
        exact wpAnyLs_nil
      refine wpAnyLs_cons (oi := ⟨some 7, _, _, _, _, _⟩) rfl (fun K hK => ?_) ?_
      · go_simp
        have K7 := hide (Bk.new x_11 86 #[.int .u64 0, .bool false, .bool false, .slice none 0 0])
        have hg7 : w.heap.size ≤ (x_11).heap.size := HB.out.size
        replace HB := hide (HB.out.trans ((below_new x_11 (.cells #[.int .u64 0, .bool false, .bool false, .slice none 0 0] 86)).mono HB.out.size))
        generalize (World.alloc x_11 (.cells #[.int .u64 0, .bool false, .bool false, .slice none 0 0] 86)) = x_11_18 at *
        generalize (x_11).heap.size = g7 at *
        refine hK.out _ _ (fun _ => (TT.out _ HB.out)) ?_
        clear hK K
        (try simp only [Act.put, List.setIfInBounds_toArray, List.set_cons_zero, List.set_cons_succ])
        refine wpAnyL_some 12 [17] (by kernel_rfl) ?_
        refine wpAnyLs_cons (oi := ⟨some 34, _, _, _, _, _⟩) rfl (fun K hK => ?_) ?_
        · refine step_call _ (by rfl) 47 _ (by go_simp) (AP.out _ HB.out) ?_
          rintro e x_11_12_18 ⟨A', c', rfl, hi', ht', hb⟩
          refine ⟨_, rfl, ?_⟩
          replace K7 := hide (K7.out.below hb K7.out.lt)
          have HI := hide hi'
          have HT := hide ht'
          clear hi' ht'
          replace HB := hide (HB.out.trans (hb.mono HB.out.size))
          clear hb
          refine hK.out _ _ (fun _ => (TT.out _ HB.out)) ?_
          clear hK K
          (try simp only [Act.put, List.setIfInBounds_toArray, List.set_cons_zero, List.set_cons_succ])
          refine wpAnyL_any (i := 13) (oi := ⟨some 21, _, _, _, _, _⟩) (v := ?vvd2_13_28) rfl (by kernel_rfl) (by kernel_rfl) (by kernel_rfl) (by kernel_rfl) (fun _ _ _ h => h) (fun _ => (TT.out _ HB.out)) (by rfl) ?hhd2_13_28 ?rrd2_13_28
          case hhd2_13_28 => (intro W; go_simp; try with_reducible rfl)
          (try simp only [Act.put, List.setIfInBounds_toArray, List.set_cons_zero, List.set_cons_succ])
          refine wpAnyL_any (i := 14) (oi := ⟨some 35, _, _, _, _, _⟩) (v := ?vvd2_14_29) rfl (by kernel_rfl) (by kernel_rfl) (by kernel_rfl) (by kernel_rfl) (fun _ _ _ h => h) (fun _ => (TT.out _ HB.out)) (by rfl) ?hhd2_14_29 ?rrd2_14_29
          case hhd2_14_29 => (intro W; go_simp; try with_reducible rfl)
          (try simp only [Act.put, List.setIfInBounds_toArray, List.set_cons_zero, List.set_cons_succ])
          refine wpAnyL_any (i := 15) (oi := ⟨some 36, _, _, _, _, _⟩) (v := ?vvd2_15_30) rfl (by kernel_rfl) (by kernel_rfl) (by kernel_rfl) (by kernel_rfl) (fun _ _ _ h => h) (fun _ => (TT.out _ HB.out)) (by rfl) ?hhd2_15_30 ?rrd2_15_30
          case hhd2_15_30 => (intro W; go_simp; try with_reducible rfl)
          (try simp only [Act.put, List.setIfInBounds_toArray, List.set_cons_zero, List.set_cons_succ])
          refine wpAnyL_any (i := 16) (oi := ⟨some 37, _, _, _, _, _⟩) (v := ?vvd2_16_31) rfl (by kernel_rfl) (by kernel_rfl) (by kernel_rfl) (by kernel_rfl) (fun _ _ _ h => h) (fun _ => (TT.out _ HB.out)) (by rfl) ?hhd2_16_31 ?rrd2_16_31
          case hhd2_16_31 => (intro W; go_simp; try with_reducible rfl)
          (try simp only [Act.put, List.setIfInBounds_toArray, List.set_cons_zero, List.set_cons_succ])
          refine wpAnyL_one (i := 17) (oi := ⟨some 6, _, _, _, _, _⟩) rfl (by kernel_rfl) (fun K hK => ?_)
          go_simp
          have K6 := hide (Bk.new x_11_12_18 33 #[.slice none 0 0, .slice none 0 0, .int .i64 0])
          have hg6 : w.heap.size ≤ (x_11_12_18).heap.size := HB.out.size
          replace K7 := hide (K7.out.alloc (.cells #[.slice none 0 0, .slice none 0 0, .int .i64 0] 33))
          replace HI := hide (HI.out.alloc (.cells #[.slice none 0 0, .slice none 0 0, .int .i64 0] 33))
          replace HT := hide (HT.out.alloc (.cells #[.slice none 0 0, .slice none 0 0, .int .i64 0] 33))
          replace HB := hide (HB.out.trans ((below_new x_11_12_18 (.cells #[.slice none 0 0, .slice none 0 0, .int .i64 0] 33)).mono HB.out.size))
          generalize (World.alloc x_11_12_18 (.cells #[.slice none 0 0, .slice none 0 0, .int .i64 0] 33)) = x_11_12_17_18 at *
          generalize (x_11_12_18).heap.size = g6 at *
          refine hK.out _ _ (fun _ => (TT.out _ HB.out)) ?_
          clear hK K
          (try simp only [Act.put, List.setIfInBounds_toArray, List.set_cons_zero, List.set_cons_succ])
          refine wpAnyL_one (i := 19) (oi := ⟨none, _, _, _, _, _⟩) rfl (by kernel_rfl) (fun K hK => ?_)
          obtain ⟨r0, r1, r2, rf⟩ := bkm3 K6.out
          go_simp
          clear r0 r1 r2 rf
          have ku : Kp x_11_12_17_18 (World.setCell (World.setCell (World.setCell x_11_12_17_18 ⟨g6, 0, none⟩ (.slice A' h.mn c')) ⟨g6, 1, none⟩ (.slice h.LA h.ln h.lc)) ⟨g6, 2, none⟩ (.int .i64 h.tk)) 42 := kp_sets (by decide) [.slice A' h.mn c', .slice h.LA h.ln h.lc, .int .i64 h.tk] 0 K6.out
          replace HI := hide (HI.out.kp HT.out ku)
          replace HT := hide (HT.out.kp ku)
          clear ku
          replace K7 : Hid (Bk (World.setCell (World.setCell (World.setCell x_11_12_17_18 ⟨g6, 0, none⟩ (.slice A' h.mn c')) ⟨g6, 1, none⟩ (.slice h.LA h.ln h.lc)) ⟨g6, 2, none⟩ (.int .i64 h.tk)) g7 86 _) := hide (kp_sets (T := 86) (by decide) [.slice A' h.mn c', .slice h.LA h.ln h.lc, .int .i64 h.tk] 0 K6.out _ _ K7.out)
          replace HB : Hid (Below w.heap.size w (World.setCell (World.setCell (World.setCell x_11_12_17_18 ⟨g6, 0, none⟩ (.slice A' h.mn c')) ⟨g6, 1, none⟩ (.slice h.LA h.ln h.lc)) ⟨g6, 2, none⟩ (.int .i64 h.tk))) := hide (below_setCells [.slice A' h.mn c', .slice h.LA h.ln h.lc, .int .i64 h.tk] 0 HB.out hg6)
          replace K6 : Hid (Bk (World.setCell (World.setCell (World.setCell x_11_12_17_18 ⟨g6, 0, none⟩ (.slice A' h.mn c')) ⟨g6, 1, none⟩ (.slice h.LA h.ln h.lc)) ⟨g6, 2, none⟩ (.int .i64 h.tk)) g6 33 #[.slice A' h.mn c', .slice h.LA h.ln h.lc, .int .i64 h.tk]) := hide (Bk.stored (cells := #[.slice A' h.mn c', .slice h.LA h.ln h.lc, .int .i64 h.tk]) (hide rfl) K6.out rfl)
          generalize (World.setCell (World.setCell (World.setCell x_11_12_17_18 ⟨g6, 0, none⟩ (.slice A' h.mn c')) ⟨g6, 1, none⟩ (.slice h.LA h.ln h.lc)) ⟨g6, 2, none⟩ (.int .i64 h.tk)) = x_11_12_17_18_19 at *
          refine hK.out _ _ (fun h => by first | cases h | simp at h) ?_
          clear hK K
          (try simp only [Act.put, List.setIfInBounds_toArray, List.set_cons_zero, List.set_cons_succ])
          refine wpAnyL_one (i := 20) (oi := ⟨none, _, _, _, _, _⟩) rfl (by kernel_rfl) (fun K hK => ?_)
          obtain ⟨r0, r1, r2, r3, rf⟩ := bk4 K7.out
          go_simp
          clear r0 r1 r2 r3 rf
          have ku : Kp x_11_12_17_18_19 (World.setCell (World.setCell (World.setCell (World.setCell x_11_12_17_18_19 ⟨g7, 0, none⟩ (.int .u64 va)) ⟨g7, 1, none⟩ (.bool ya)) ⟨g7, 2, none⟩ (.bool false)) ⟨g7, 3, none⟩ (.slice none 0 0)) 42 := kp_sets (by decide) [.int .u64 va, .bool ya, .bool false, .slice none 0 0] 0 K7.out
          replace HI := hide (HI.out.kp HT.out ku)
          replace HT := hide (HT.out.kp ku)
          clear ku
          replace K6 : Hid (Bk (World.setCell (World.setCell (World.setCell (World.setCell x_11_12_17_18_19 ⟨g7, 0, none⟩ (.int .u64 va)) ⟨g7, 1, none⟩ (.bool ya)) ⟨g7, 2, none⟩ (.bool false)) ⟨g7, 3, none⟩ (.slice none 0 0)) g6 33 _) := hide (kp_sets (T := 33) (by decide) [.int .u64 va, .bool ya, .bool false, .slice none 0 0] 0 K7.out _ _ K6.out)
          replace HB : Hid (Below w.heap.size w (World.setCell (World.setCell (World.setCell (World.setCell x_11_12_17_18_19 ⟨g7, 0, none⟩ (.int .u64 va)) ⟨g7, 1, none⟩ (.bool ya)) ⟨g7, 2, none⟩ (.bool false)) ⟨g7, 3, none⟩ (.slice none 0 0))) := hide (below_setCells [.int .u64 va, .bool ya, .bool false, .slice none 0 0] 0 HB.out hg7)
          replace K7 : Hid (Bk (World.setCell (World.setCell (World.setCell (World.setCell x_11_12_17_18_19 ⟨g7, 0, none⟩ (.int .u64 va)) ⟨g7, 1, none⟩ (.bool ya)) ⟨g7, 2, none⟩ (.bool false)) ⟨g7, 3, none⟩ (.slice none 0 0)) g7 86 #[.int .u64 va, .bool ya, .bool false, .slice none 0 0]) := hide (Bk.stored (cells := #[.int .u64 va, .bool ya, .bool false, .slice none 0 0]) (hide rfl) K7.out rfl)
          generalize (World.setCell (World.setCell (World.setCell (World.setCell x_11_12_17_18_19 ⟨g7, 0, none⟩ (.int .u64 va)) ⟨g7, 1, none⟩ (.bool ya)) ⟨g7, 2, none⟩ (.bool false)) ⟨g7, 3, none⟩ (.slice none 0 0)) = x_11_12_17_18_19_20 at *
          refine hK.out _ _ (fun h => by first | cases h | simp at h) ?_
          clear hK K
          (try simp only [Act.put, List.setIfInBounds_toArray, List.set_cons_zero, List.set_cons_succ])
          refine wpAnyL_any (i := 21) (oi := ⟨some 8, _, _, _, _, _⟩) (v := ?vvd2_21_32) rfl (by kernel_rfl) (by kernel_rfl) (by kernel_rfl) (by kernel_rfl) (fun _ _ _ h => h) (fun h => by first | cases h | simp at h) (by rfl) ?hhd2_21_32 ?rrd2_21_32
          case hhd2_21_32 => (intro W; go_simp; try with_reducible rfl)
          (try simp only [Act.put, List.setIfInBounds_toArray, List.set_cons_zero, List.set_cons_succ])
          refine wpAnyL_done (by kernel_rfl) ?_ _
          go_wp2
          go_meet
          case rel => exact ⟨g6, g7, A', c', rfl, rfl, rfl, K6.out, K7.out, HI.out, HT.out, HB.out, hg6, hg7⟩
        refine wpAnyLs_cons (oi := ⟨some 6, _, _, _, _, _⟩) rfl (fun K hK => ?_) ?_
        · go_simp
          have K6 := hide (Bk.new x_11_18 33 #[.slice none 0 0, .slice none 0 0, .int .i64 0])
          have hg6 : w.heap.size ≤ (x_11_18).heap.size := HB.out.size
          replace K7 := hide (K7.out.alloc (.cells #[.slice none 0 0, .slice none 0 0, .int .i64 0] 33))
          replace HB := hide (HB.out.trans ((below_new x_11_18 (.cells #[.slice none 0 0, .slice none 0 0, .int .i64 0] 33)).mono HB.out.size))
          generalize (World.alloc x_11_18 (.cells #[.slice none 0 0, .slice none 0 0, .int .i64 0] 33)) = x_11_17_18 at *
          generalize (x_11_18).heap.size = g6 at *
          refine hK.out _ _ (fun _ => (TT.out _ HB.out)) ?_
          clear hK K
          (try simp only [Act.put, List.setIfInBounds_toArray, List.set_cons_zero, List.set_cons_succ])
          refine wpAnyL_one (i := 12) (oi := ⟨some 34, _, _, _, _, _⟩) rfl (by kernel_rfl) (fun K hK => ?_)
          refine step_call _ (by rfl) 47 _ (by go_simp) (AP.out _ HB.out) ?_
          rintro e x_11_12_17_18 ⟨A', c', rfl, hi', ht', hb⟩
          refine ⟨_, rfl, ?_⟩
          replace K6 := hide (K6.out.below hb K6.out.lt)
          replace K7 := hide (K7.out.below hb K7.out.lt)
          have HI := hide hi'
          have HT := hide ht'
          clear hi' ht'
          replace HB := hide (HB.out.trans (hb.mono HB.out.size))
          clear hb
          refine hK.out _ _ (fun _ => (TT.out _ HB.out)) ?_
          clear hK K
          (try simp only [Act.put, List.setIfInBounds_toArray, List.set_cons_zero, List.set_cons_succ])
          refine wpAnyL_any (i := 13) (oi := ⟨some 21, _, _, _, _, _⟩) (v := ?vvd2_13_33) rfl (by kernel_rfl) (by kernel_rfl) (by kernel_rfl) (by kernel_rfl) (fun _ _ _ h => h) (fun _ => (TT.out _ HB.out)) (by rfl) ?hhd2_13_33 ?rrd2_13_33
          case hhd2_13_33 => (intro W; go_simp; try with_reducible rfl)
          (try simp only [Act.put, List.setIfInBounds_toArray, List.set_cons_zero, List.set_cons_succ])
          refine wpAnyL_any (i := 14) (oi := ⟨some 35, _, _, _, _, _⟩) (v := ?vvd2_14_34) rfl (by kernel_rfl) (by kernel_rfl) (by kernel_rfl) (by kernel_rfl) (fun _ _ _ h => h) (fun _ => (TT.out _ HB.out)) (by rfl) ?hhd2_14_34 ?rrd2_14_34
          case hhd2_14_34 => (intro W; go_simp; try with_reducible rfl)
          (try simp only [Act.put, List.setIfInBounds_toArray, List.set_cons_zero, List.set_cons_succ])
          refine wpAnyL_any (i := 15) (oi := ⟨some 36, _, _, _, _, _⟩) (v := ?vvd2_15_35) rfl (by kernel_rfl) (by kernel_rfl) (by kernel_rfl) (by kernel_rfl) (fun _ _ _ h => h) (fun _ => (TT.out _ HB.out)) (by rfl) ?hhd2_15_35 ?rrd2_15_35
          case hhd2_15_35 => (intro W; go_simp; try with_reducible rfl)
          (try simp only [Act.put, List.setIfInBounds_toArray, List.set_cons_zero, List.set_cons_succ])
          refine wpAnyL_any (i := 16) (oi := ⟨some 37, _, _, _, _, _⟩) (v := ?vvd2_16_36) rfl (by kernel_rfl) (by kernel_rfl) (by kernel_rfl) (by kernel_rfl) (fun _ _ _ h => h) (fun _ => (TT.out _ HB.out)) (by rfl) ?hhd2_16_36 ?rrd2_16_36
          case hhd2_16_36 => (intro W; go_simp; try with_reducible rfl)
          (try simp only [Act.put, List.setIfInBounds_toArray, List.set_cons_zero, List.set_cons_succ])
          refine wpAnyL_one (i := 19) (oi := ⟨none, _, _, _, _, _⟩) rfl (by kernel_rfl) (fun K hK => ?_)
          obtain ⟨r0, r1, r2, rf⟩ := bkm3 K6.out
          go_simp
          clear r0 r1 r2 rf
          have ku : Kp x_11_12_17_18 (World.setCell (World.setCell (World.setCell x_11_12_17_18 ⟨g6, 0, none⟩ (.slice A' h.mn c')) ⟨g6, 1, none⟩ (.slice h.LA h.ln h.lc)) ⟨g6, 2, none⟩ (.int .i64 h.tk)) 42 := kp_sets (by decide) [.slice A' h.mn c', .slice h.LA h.ln h.lc, .int .i64 h.tk] 0 K6.out
          replace HI := hide (HI.out.kp HT.out ku)
          replace HT := hide (HT.out.kp ku)
          clear ku
          replace K7 : Hid (Bk (World.setCell (World.setCell (World.setCell x_11_12_17_18 ⟨g6, 0, none⟩ (.slice A' h.mn c')) ⟨g6, 1, none⟩ (.slice h.LA h.ln h.lc)) ⟨g6, 2, none⟩ (.int .i64 h.tk)) g7 86 _) := hide (kp_sets (T := 86) (by decide) [.slice A' h.mn c', .slice h.LA h.ln h.lc, .int .i64 h.tk] 0 K6.out _ _ K7.out)
          replace HB : Hid (Below w.heap.size w (World.setCell (World.setCell (World.setCell x_11_12_17_18 ⟨g6, 0, none⟩ (.slice A' h.mn c')) ⟨g6, 1, none⟩ (.slice h.LA h.ln h.lc)) ⟨g6, 2, none⟩ (.int .i64 h.tk))) := hide (below_setCells [.slice A' h.mn c', .slice h.LA h.ln h.lc, .int .i64 h.tk] 0 HB.out hg6)
          replace K6 : Hid (Bk (World.setCell (World.setCell (World.setCell x_11_12_17_18 ⟨g6, 0, none⟩ (.slice A' h.mn c')) ⟨g6, 1, none⟩ (.slice h.LA h.ln h.lc)) ⟨g6, 2, none⟩ (.int .i64 h.tk)) g6 33 #[.slice A' h.mn c', .slice h.LA h.ln h.lc, .int .i64 h.tk]) := hide (Bk.stored (cells := #[.slice A' h.mn c', .slice h.LA h.ln h.lc, .int .i64 h.tk]) (hide rfl) K6.out rfl)
          generalize (World.setCell (World.setCell (World.setCell x_11_12_17_18 ⟨g6, 0, none⟩ (.slice A' h.mn c')) ⟨g6, 1, none⟩ (.slice h.LA h.ln h.lc)) ⟨g6, 2, none⟩ (.int .i64 h.tk)) = x_11_12_17_18_19 at *
          refine hK.out _ _ (fun h => by first | cases h | simp at h) ?_
          clear hK K
          (try simp only [Act.put, List.setIfInBounds_toArray, List.set_cons_zero, List.set_cons_succ])
          refine wpAnyL_one (i := 20) (oi := ⟨none, _, _, _, _, _⟩) rfl (by kernel_rfl) (fun K hK => ?_)
          obtain ⟨r0, r1, r2, r3, rf⟩ := bk4 K7.out
          go_simp
          clear r0 r1 r2 r3 rf
          have ku : Kp x_11_12_17_18_19 (World.setCell (World.setCell (World.setCell (World.setCell x_11_12_17_18_19 ⟨g7, 0, none⟩ (.int .u64 va)) ⟨g7, 1, none⟩ (.bool ya)) ⟨g7, 2, none⟩ (.bool false)) ⟨g7, 3, none⟩ (.slice none 0 0)) 42 := kp_sets (by decide) [.int .u64 va, .bool ya, .bool false, .slice none 0 0] 0 K7.out
          replace HI := hide (HI.out.kp HT.out ku)
          replace HT := hide (HT.out.kp ku)
          clear ku
          replace K6 : Hid (Bk (World.setCell (World.setCell (World.setCell (World.setCell x_11_12_17_18_19 ⟨g7, 0, none⟩ (.int .u64 va)) ⟨g7, 1, none⟩ (.bool ya)) ⟨g7, 2, none⟩ (.bool false)) ⟨g7, 3, none⟩ (.slice none 0 0)) g6 33 _) := hide (kp_sets (T := 33) (by decide) [.int .u64 va, .bool ya, .bool false, .slice none 0 0] 0 K7.out _ _ K6.out)
          replace HB : Hid (Below w.heap.size w (World.setCell (World.setCell (World.setCell (World.setCell x_11_12_17_18_19 ⟨g7, 0, none⟩ (.int .u64 va)) ⟨g7, 1, none⟩ (.bool ya)) ⟨g7, 2, none⟩ (.bool false)) ⟨g7, 3, none⟩ (.slice none 0 0))) := hide (below_setCells [.int .u64 va, .bool ya, .bool false, .slice none 0 0] 0 HB.out hg7)
          replace K7 : Hid (Bk (World.setCell (World.setCell (World.setCell (World.setCell x_11_12_17_18_19 ⟨g7, 0, none⟩ (.int .u64 va)) ⟨g7, 1, none⟩ (.bool ya)) ⟨g7, 2, none⟩ (.bool false)) ⟨g7, 3, none⟩ (.slice none 0 0)) g7 86 #[.int .u64 va, .bool ya, .bool false, .slice none 0 0]) := hide (Bk.stored (cells := #[.int .u64 va, .bool ya, .bool false, .slice none 0 0]) (hide rfl) K7.out rfl)
          generalize (World.setCell (World.setCell (World.setCell (World.setCell x_11_12_17_18_19 ⟨g7, 0, none⟩ (.int .u64 va)) ⟨g7, 1, none⟩ (.bool ya)) ⟨g7, 2, none⟩ (.bool false)) ⟨g7, 3, none⟩ (.slice none 0 0)) = x_11_12_17_18_19_20 at *
          refine hK.out _ _ (fun h => by first | cases h | simp at h) ?_
          clear hK K
          (try simp only [Act.put, List.setIfInBounds_toArray, List.set_cons_zero, List.set_cons_succ])
          refine wpAnyL_any (i := 21) (oi := ⟨some 8, _, _, _, _, _⟩) (v := ?vvd2_21_37) rfl (by kernel_rfl) (by kernel_rfl) (by kernel_rfl) (by kernel_rfl) (fun _ _ _ h => h) (fun h => by first | cases h | simp at h) (by rfl) ?hhd2_21_37 ?rrd2_21_37
          case hhd2_21_37 => (intro W; go_simp; try with_reducible rfl)
          (try simp only [Act.put, List.setIfInBounds_toArray, List.set_cons_zero, List.set_cons_succ])
          refine wpAnyL_done (by kernel_rfl) ?_ _
          go_wp2
          go_meet
          case rel => exact ⟨g6, g7, A', c', rfl, rfl, rfl, K6.out, K7.out, HI.out, HT.out, HB.out, hg6, hg7⟩
        exact wpAnyLs_nil
      exact wpAnyLs_nil
    refine wpAnyLs_cons (oi := ⟨some 6, _, _, _, _, _⟩) rfl (fun K hK => ?_) ?_
    · go_simp
      have K6 := hide (Bk.new xd 33 #[.slice none 0 0, .slice none 0 0, .int .i64 0])
      have hg6 : w.heap.size ≤ (xd).heap.size := HB.out.size
      replace HB := hide (HB.out.trans ((below_new xd (.cells #[.slice none 0 0, .slice none 0 0, .int .i64 0] 33)).mono HB.out.size))
      generalize (World.alloc xd (.cells #[.slice none 0 0, .slice none 0 0, .int .i64 0] 33)) = x_17 at *
      generalize (xd).heap.size = g6 at *
      refine hK.out _ _ (fun _ => (TT.out _ HB.out)) ?_
      clear hK K
      (try simp only [Act.put, List.setIfInBounds_toArray, List.set_cons_zero, List.set_cons_succ])
      refine wpAnyL_some 11 [18] (by kernel_rfl) ?_
      refine wpAnyLs_cons (oi := ⟨some 33, _, _, _, _, _⟩) rfl (fun K hK => ?_) ?_
      · refine step_call _ (by rfl) 48 _ (by go_simp) (NX.out _ HB.out) ?_
        rintro e x_11_17 ⟨rfl, hb⟩
        refine ⟨_, rfl, ?_⟩
        replace K6 := hide (K6.out.below hb K6.out.lt)
        replace HB := hide (HB.out.trans (hb.mono HB.out.size))
        clear hb
        refine hK.out _ _ (fun _ => (TT.out _ HB.out)) ?_
        clear hK K
        (try simp only [Act.put, List.setIfInBounds_toArray, List.set_cons_zero, List.set_cons_succ])
        refine wpAnyL_some 12 [18] (by kernel_rfl) ?_
        refine wpAnyLs_cons (oi := ⟨some 34, _, _, _, _, _⟩) rfl (fun K hK => ?_) ?_
        · refine step_call _ (by rfl) 47 _ (by go_simp) (AP.out _ HB.out) ?_
          rintro e x_11_12_17 ⟨A', c', rfl, hi', ht', hb⟩
          refine ⟨_, rfl, ?_⟩
          replace K6 := hide (K6.out.below hb K6.out.lt)
          have HI := hide hi'
          have HT := hide ht'
          clear hi' ht'
          replace HB := hide (HB.out.trans (hb.mono HB.out.size))
          clear hb
          refine hK.out _ _ (fun _ => (TT.out _ HB.out)) ?_
          clear hK K
          (try simp only [Act.put, List.setIfInBounds_toArray, List.set_cons_zero, List.set_cons_succ])
          refine wpAnyL_any (i := 13) (oi := ⟨some 21, _, _, _, _, _⟩) (v := ?vvd2_13_38) rfl (by kernel_rfl) (by kernel_rfl) (by kernel_rfl) (by kernel_rfl) (fun _ _ _ h => h) (fun _ => (TT.out _ HB.out)) (by rfl) ?hhd2_13_38 ?rrd2_13_38
          case hhd2_13_38 => (intro W; go_simp; try with_reducible rfl)
          (try simp only [Act.put, List.setIfInBounds_toArray, List.set_cons_zero, List.set_cons_succ])
          refine wpAnyL_any (i := 14) (oi := ⟨some 35, _, _, _, _, _⟩) (v := ?vvd2_14_39) rfl (by kernel_rfl) (by kernel_rfl) (by kernel_rfl) (by kernel_rfl) (fun _ _ _ h => h) (fun _ => (TT.out _ HB.out)) (by rfl) ?hhd2_14_39 ?rrd2_14_39
          case hhd2_14_39 => (intro W; go_simp; try with_reducible rfl)
          (try simp only [Act.put, List.setIfInBounds_toArray, List.set_cons_zero, List.set_cons_succ])
          refine wpAnyL_any (i := 15) (oi := ⟨some 36, _, _, _, _, _⟩) (v := ?vvd2_15_40) rfl (by kernel_rfl) (by kernel_rfl) (by kernel_rfl) (by kernel_rfl) (fun _ _ _ h => h) (fun _ => (TT.out _ HB.out)) (by rfl) ?hhd2_15_40 ?rrd2_15_40
          case hhd2_15_40 => (intro W; go_simp; try with_reducible rfl)
          (try simp only [Act.put, List.setIfInBounds_toArray, List.set_cons_zero, List.set_cons_succ])
          refine wpAnyL_any (i := 16) (oi := ⟨some 37, _, _, _, _, _⟩) (v := ?vvd2_16_41) rfl (by kernel_rfl) (by kernel_rfl) (by kernel_rfl) (by kernel_rfl) (fun _ _ _ h => h) (fun _ => (TT.out _ HB.out)) (by rfl) ?hhd2_16_41 ?rrd2_16_41
          case hhd2_16_41 => (intro W; go_simp; try with_reducible rfl)
          (try simp only [Act.put, List.setIfInBounds_toArray, List.set_cons_zero, List.set_cons_succ])
          refine wpAnyL_one (i := 18) (oi := ⟨some 7, _, _, _, _, _⟩) rfl (by kernel_rfl) (fun K hK => ?_)
          go_simp
          have K7 := hide (Bk.new x_11_12_17 86 #[.int .u64 0, .bool false, .bool false, .slice none 0 0])
          have hg7 : w.heap.size ≤ (x_11_12_17).heap.size := HB.out.size
          replace K6 := hide (K6.out.alloc (.cells #[.int .u64 0, .bool false, .bool false, .slice none 0 0] 86))
          replace HI := hide (HI.out.alloc (.cells #[.int .u64 0, .bool false, .bool false, .slice none 0 0] 86))
          replace HT := hide (HT.out.alloc (.cells #[.int .u64 0, .bool false, .bool false, .slice none 0 0] 86))
          replace HB := hide (HB.out.trans ((below_new x_11_12_17 (.cells #[.int .u64 0, .bool false, .bool false, .slice none 0 0] 86)).mono HB.out.size))
          generalize (World.alloc x_11_12_17 (.cells #[.int .u64 0, .bool false, .bool false, .slice none 0 0] 86)) = x_11_12_17_18 at *
          generalize (x_11_12_17).heap.size = g7 at *
          refine hK.out _ _ (fun _ => (TT.out _ HB.out)) ?_
          clear hK K
          (try simp only [Act.put, List.setIfInBounds_toArray, List.set_cons_zero, List.set_cons_succ])
          refine wpAnyL_one (i := 19) (oi := ⟨none, _, _, _, _, _⟩) rfl (by kernel_rfl) (fun K hK => ?_)
          obtain ⟨r0, r1, r2, rf⟩ := bkm3 K6.out
          go_simp
          clear r0 r1 r2 rf
          have ku : Kp x_11_12_17_18 (World.setCell (World.setCell (World.setCell x_11_12_17_18 ⟨g6, 0, none⟩ (.slice A' h.mn c')) ⟨g6, 1, none⟩ (.slice h.LA h.ln h.lc)) ⟨g6, 2, none⟩ (.int .i64 h.tk)) 42 := kp_sets (by decide) [.slice A' h.mn c', .slice h.LA h.ln h.lc, .int .i64 h.tk] 0 K6.out
          replace HI := hide (HI.out.kp HT.out ku)
          replace HT := hide (HT.out.kp ku)
          clear ku
          replace K7 : Hid (Bk (World.setCell (World.setCell (World.setCell x_11_12_17_18 ⟨g6, 0, none⟩ (.slice A' h.mn c')) ⟨g6, 1, none⟩ (.slice h.LA h.ln h.lc)) ⟨g6, 2, none⟩ (.int .i64 h.tk)) g7 86 _) := hide (kp_sets (T := 86) (by decide) [.slice A' h.mn c', .slice h.LA h.ln h.lc, .int .i64 h.tk] 0 K6.out _ _ K7.out)
          replace HB : Hid (Below w.heap.size w (World.setCell (World.setCell (World.setCell x_11_12_17_18 ⟨g6, 0, none⟩ (.slice A' h.mn c')) ⟨g6, 1, none⟩ (.slice h.LA h.ln h.lc)) ⟨g6, 2, none⟩ (.int .i64 h.tk))) := hide (below_setCells [.slice A' h.mn c', .slice h.LA h.ln h.lc, .int .i64 h.tk] 0 HB.out hg6)
          replace K6 : Hid (Bk (World.setCell (World.setCell (World.setCell x_11_12_17_18 ⟨g6, 0, none⟩ (.slice A' h.mn c')) ⟨g6, 1, none⟩ (.slice h.LA h.ln h.lc)) ⟨g6, 2, none⟩ (.int .i64 h.tk)) g6 33 #[.slice A' h.mn c', .slice h.LA h.ln h.lc, .int .i64 h.tk]) := hide (Bk.stored (cells := #[.slice A' h.mn c', .slice h.LA h.ln h.lc, .int .i64 h.tk]) (hide rfl) K6.out rfl)
          generalize (World.setCell (World.setCell (World.setCell x_11_12_17_18 ⟨g6, 0, none⟩ (.slice A' h.mn c')) ⟨g6, 1, none⟩ (.slice h.LA h.ln h.lc)) ⟨g6, 2, none⟩ (.int .i64 h.tk)) = x_11_12_17_18_19 at *
          refine hK.out _ _ (fun h => by first | cases h | simp at h) ?_
          clear hK K
          (try simp only [Act.put, List.setIfInBounds_toArray, List.set_cons_zero, List.set_cons_succ])
          refine wpAnyL_one (i := 20) (oi := ⟨none, _, _, _, _, _⟩) rfl (by kernel_rfl) (fun K hK => ?_)
          obtain ⟨r0, r1, r2, r3, rf⟩ := bk4 K7.out
          go_simp
          clear r0 r1 r2 r3 rf
          have ku : Kp x_11_12_17_18_19 (World.setCell (World.setCell (World.setCell (World.setCell x_11_12_17_18_19 ⟨g7, 0, none⟩ (.int .u64 va)) ⟨g7, 1, none⟩ (.bool ya)) ⟨g7, 2, none⟩ (.bool false)) ⟨g7, 3, none⟩ (.slice none 0 0)) 42 := kp_sets (by decide) [.int .u64 va, .bool ya, .bool false, .slice none 0 0] 0 K7.out
          replace HI := hide (HI.out.kp HT.out ku)
          replace HT := hide (HT.out.kp ku)
          clear ku
          replace K6 : Hid (Bk (World.setCell (World.setCell (World.setCell (World.setCell x_11_12_17_18_19 ⟨g7, 0, none⟩ (.int .u64 va)) ⟨g7, 1, none⟩ (.bool ya)) ⟨g7, 2, none⟩ (.bool false)) ⟨g7, 3, none⟩ (.slice none 0 0)) g6 33 _) := hide (kp_sets (T := 33) (by decide) [.int .u64 va, .bool ya, .bool false, .slice none 0 0] 0 K7.out _ _ K6.out)
          replace HB : Hid (Below w.heap.size w (World.setCell (World.setCell (World.setCell (World.setCell x_11_12_17_18_19 ⟨g7, 0, none⟩ (.int .u64 va)) ⟨g7, 1, none⟩ (.bool ya)) ⟨g7, 2, none⟩ (.bool false)) ⟨g7, 3, none⟩ (.slice none 0 0))) := hide (below_setCells [.int .u64 va, .bool ya, .bool false, .slice none 0 0] 0 HB.out hg7)
          replace K7 : Hid (Bk (World.setCell (World.setCell (World.setCell (World.setCell x_11_12_17_18_19 ⟨g7, 0, none⟩ (.int .u64 va)) ⟨g7, 1, none⟩ (.bool ya)) ⟨g7, 2, none⟩ (.bool false)) ⟨g7, 3, none⟩ (.slice none 0 0)) g7 86 #[.int .u64 va, .bool ya, .bool false, .slice none 0 0]) := hide (Bk.stored (cells := #[.int .u64 va, .bool ya, .bool false, .slice none 0 0]) (hide rfl) K7.out rfl)
          generalize (World.setCell (World.setCell (World.setCell (World.setCell x_11_12_17_18_19 ⟨g7, 0, none⟩ (.int .u64 va)) ⟨g7, 1, none⟩ (.bool ya)) ⟨g7, 2, none⟩ (.bool false)) ⟨g7, 3, none⟩ (.slice none 0 0)) = x_11_12_17_18_19_20 at *
          refine hK.out _ _ (fun h => by first | cases h | simp at h) ?_
          clear hK K
          (try simp only [Act.put, List.setIfInBounds_toArray, List.set_cons_zero, List.set_cons_succ])
          refine wpAnyL_any (i := 21) (oi := ⟨some 8, _, _, _, _, _⟩) (v := ?vvd2_21_42) rfl (by kernel_rfl) (by kernel_rfl) (by kernel_rfl) (by kernel_rfl) (fun _ _ _ h => h) (fun h => by first | cases h | simp at h) (by rfl) ?hhd2_21_42 ?rrd2_21_42
          case hhd2_21_42 => (intro W; go_simp; try with_reducible rfl)
          (try simp only [Act.put, List.setIfInBounds_toArray, List.set_cons_zero, List.set_cons_succ])
          refine wpAnyL_done (by kernel_rfl) ?_ _
          go_wp2
          go_meet
          case rel => exact ⟨g6, g7, A', c', rfl, rfl, rfl, K6.out, K7.out, HI.out, HT.out, HB.out, hg6, hg7⟩
        refine wpAnyLs_cons (oi := ⟨some 7, _, _, _, _, _⟩) rfl (fun K hK => ?_) ?_
        · go_simp
          have K7 := hide (Bk.new x_11_17 86 #[.int .u64 0, .bool false, .bool false, .slice none 0 0])
          have hg7 : w.heap.size ≤ (x_11_17).heap.size := HB.out.size
          replace K6 := hide (K6.out.alloc (.cells #[.int .u64 0, .bool false, .bool false, .slice none 0 0] 86))
          replace HB := hide (HB.out.trans ((below_new x_11_17 (.cells #[.int .u64 0, .bool false, .bool false, .slice none 0 0] 86)).mono HB.out.size))
          generalize (World.alloc x_11_17 (.cells #[.int .u64 0, .bool false, .bool false, .slice none 0 0] 86)) = x_11_17_18 at *
          generalize (x_11_17).heap.size = g7 at *
          refine hK.out _ _ (fun _ => (TT.out _ HB.out)) ?_
          clear hK K
          (try simp only [Act.put, List.setIfInBounds_toArray, List.set_cons_zero, List.set_cons_succ])
          refine wpAnyL_one (i := 12) (oi := ⟨some 34, _, _, _, _, _⟩) rfl (by kernel_rfl) (fun K hK => ?_)
          refine step_call _ (by rfl) 47 _ (by go_simp) (AP.out _ HB.out) ?_
          rintro e x_11_12_17_18 ⟨A', c', rfl, hi', ht', hb⟩
          refine ⟨_, rfl, ?_⟩
          replace K6 := hide (K6.out.below hb K6.out.lt)
          replace K7 := hide (K7.out.below hb K7.out.lt)
          have HI := hide hi'
          have HT := hide ht'
          clear hi' ht'
          replace HB := hide (HB.out.trans (hb.mono HB.out.size))
          clear hb
          refine hK.out _ _ (fun _ => (TT.out _ HB.out)) ?_
          clear hK K
          (try simp only [Act.put, List.setIfInBounds_toArray, List.set_cons_zero, List.set_cons_succ])
          refine wpAnyL_any (i := 13) (oi := ⟨some 21, _, _, _, _, _⟩) (v := ?vvd2_13_43) rfl (by kernel_rfl) (by kernel_rfl) (by kernel_rfl) (by kernel_rfl) (fun _ _ _ h => h) (fun _ => (TT.out _ HB.out)) (by rfl) ?hhd2_13_43 ?rrd2_13_43
          case hhd2_13_43 => (intro W; go_simp; try with_reducible rfl)
          (try simp only [Act.put, List.setIfInBounds_toArray, List.set_cons_zero, List.set_cons_succ])
          refine wpAnyL_any (i := 14) (oi := ⟨some 35, _, _, _, _, _⟩) (v := ?vvd2_14_44) rfl (by kernel_rfl) (by kernel_rfl) (by kernel_rfl) (by kernel_rfl) (fun _ _ _ h => h) (fun _ => (TT.out _ HB.out)) (by rfl) ?hhd2_14_44 ?rrd2_14_44
          case hhd2_14_44 => (intro W; go_simp; try with_reducible rfl)
          (try simp only [Act.put, List.setIfInBounds_toArray, List.set_cons_zero, List.set_cons_succ])
          refine wpAnyL_any (i := 15) (oi := ⟨some 36, _, _, _, _, _⟩) (v := ?vvd2_15_45) rfl (by kernel_rfl) (by kernel_rfl) (by kernel_rfl) (by kernel_rfl) (fun _ _ _ h => h) (fun _ => (TT.out _ HB.out)) (by rfl) ?hhd2_15_45 ?rrd2_15_45
          case hhd2_15_45 => (intro W; go_simp; try with_reducible rfl)
          (try simp only [Act.put, List.setIfInBounds_toArray, List.set_cons_zero, List.set_cons_succ])
          refine wpAnyL_any (i := 16) (oi := ⟨some 37, _, _, _, _, _⟩) (v := ?vvd2_16_46) rfl (by kernel_rfl) (by kernel_rfl) (by kernel_rfl) (by kernel_rfl) (fun _ _ _ h => h) (fun _ => (TT.out _ HB.out)) (by rfl) ?hhd2_16_46 ?rrd2_16_46
          case hhd2_16_46 => (intro W; go_simp; try with_reducible rfl)
          (try simp only [Act.put, List.setIfInBounds_toArray, List.set_cons_zero, List.set_cons_succ])
          refine wpAnyL_one (i := 19) (oi := ⟨none, _, _, _, _, _⟩) rfl (by kernel_rfl) (fun K hK => ?_)
          obtain ⟨r0, r1, r2, rf⟩ := bkm3 K6.out
          go_simp
          clear r0 r1 r2 rf
          have ku : Kp x_11_12_17_18 (World.setCell (World.setCell (World.setCell x_11_12_17_18 ⟨g6, 0, none⟩ (.slice A' h.mn c')) ⟨g6, 1, none⟩ (.slice h.LA h.ln h.lc)) ⟨g6, 2, none⟩ (.int .i64 h.tk)) 42 := kp_sets (by decide) [.slice A' h.mn c', .slice h.LA h.ln h.lc, .int .i64 h.tk] 0 K6.out
          replace HI := hide (HI.out.kp HT.out ku)
          replace HT := hide (HT.out.kp ku)
          clear ku
          replace K7 : Hid (Bk (World.setCell (World.setCell (World.setCell x_11_12_17_18 ⟨g6, 0, none⟩ (.slice A' h.mn c')) ⟨g6, 1, none⟩ (.slice h.LA h.ln h.lc)) ⟨g6, 2, none⟩ (.int .i64 h.tk)) g7 86 _) := hide (kp_sets (T := 86) (by decide) [.slice A' h.mn c', .slice h.LA h.ln h.lc, .int .i64 h.tk] 0 K6.out _ _ K7.out)
          replace HB : Hid (Below w.heap.size w (World.setCell (World.setCell (World.setCell x_11_12_17_18 ⟨g6, 0, none⟩ (.slice A' h.mn c')) ⟨g6, 1, none⟩ (.slice h.LA h.ln h.lc)) ⟨g6, 2, none⟩ (.int .i64 h.tk))) := hide (below_setCells [.slice A' h.mn c', .slice h.LA h.ln h.lc, .int .i64 h.tk] 0 HB.out hg6)
          replace K6 : Hid (Bk (World.setCell (World.setCell (World.setCell x_11_12_17_18 ⟨g6, 0, none⟩ (.slice A' h.mn c')) ⟨g6, 1, none⟩ (.slice h.LA h.ln h.lc)) ⟨g6, 2, none⟩ (.int .i64 h.tk)) g6 33 #[.slice A' h.mn c', .slice h.LA h.ln h.lc, .int .i64 h.tk]) := hide (Bk.stored (cells := #[.slice A' h.mn c', .slice h.LA h.ln h.lc, .int .i64 h.tk]) (hide rfl) K6.out rfl)
          generalize (World.setCell (World.setCell (World.setCell x_11_12_17_18 ⟨g6, 0, none⟩ (.slice A' h.mn c')) ⟨g6, 1, none⟩ (.slice h.LA h.ln h.lc)) ⟨g6, 2, none⟩ (.int .i64 h.tk)) = x_11_12_17_18_19 at *
          refine hK.out _ _ (fun h => by first | cases h | simp at h) ?_
          clear hK K
          (try simp only [Act.put, List.setIfInBounds_toArray, List.set_cons_zero, List.set_cons_succ])
          refine wpAnyL_one (i := 20) (oi := ⟨none, _, _, _, _, _⟩) rfl (by kernel_rfl) (fun K hK => ?_)
          obtain ⟨r0, r1, r2, r3, rf⟩ := bk4 K7.out
          go_simp
          clear r0 r1 r2 r3 rf
          have ku : Kp x_11_12_17_18_19 (World.setCell (World.setCell (World.setCell (World.setCell x_11_12_17_18_19 ⟨g7, 0, none⟩ (.int .u64 va)) ⟨g7, 1, none⟩ (.bool ya)) ⟨g7, 2, none⟩ (.bool false)) ⟨g7, 3, none⟩ (.slice none 0 0)) 42 := kp_sets (by decide) [.int .u64 va, .bool ya, .bool false, .slice none 0 0] 0 K7.out
          replace HI := hide (HI.out.kp HT.out ku)
          replace HT := hide (HT.out.kp ku)
          clear ku
          replace K6 : Hid (Bk (World.setCell (World.setCell (World.setCell (World.setCell x_11_12_17_18_19 ⟨g7, 0, none⟩ (.int .u64 va)) ⟨g7, 1, none⟩ (.bool ya)) ⟨g7, 2, none⟩ (.bool false)) ⟨g7, 3, none⟩ (.slice none 0 0)) g6 33 _) := hide (kp_sets (T := 33) (by decide) [.int .u64 va, .bool ya, .bool false, .slice none 0 0] 0 K7.out _ _ K6.out)
          replace HB : Hid (Below w.heap.size w (World.setCell (World.setCell (World.setCell (World.setCell x_11_12_17_18_19 ⟨g7, 0, none⟩ (.int .u64 va)) ⟨g7, 1, none⟩ (.bool ya)) ⟨g7, 2, none⟩ (.bool false)) ⟨g7, 3, none⟩ (.slice none 0 0))) := hide (below_setCells [.int .u64 va, .bool ya, .bool false, .slice none 0 0] 0 HB.out hg7)
          replace K7 : Hid (Bk (World.setCell (World.setCell (World.setCell (World.setCell x_11_12_17_18_19 ⟨g7, 0, none⟩ (.int .u64 va)) ⟨g7, 1, none⟩ (.bool ya)) ⟨g7, 2, none⟩ (.bool false)) ⟨g7, 3, none⟩ (.slice none 0 0)) g7 86 #[.int .u64 va, .bool ya, .bool false, .slice none 0 0]) := hide (Bk.stored (cells := #[.int .u64 va, .bool ya, .bool false, .slice none 0 0]) (hide rfl) K7.out rfl)
          generalize (World.setCell (World.setCell (World.setCell (World.setCell x_11_12_17_18_19 ⟨g7, 0, none⟩ (.int .u64 va)) ⟨g7, 1, none⟩ (.bool ya)) ⟨g7, 2, none⟩ (.bool false)) ⟨g7, 3, none⟩ (.slice none 0 0)) = x_11_12_17_18_19_20 at *
          refine hK.out _ _ (fun h => by first | cases h | simp at h) ?_
          clear hK K
          (try simp only [Act.put, List.setIfInBounds_toArray, List.set_cons_zero, List.set_cons_succ])
          refine wpAnyL_any (i := 21) (oi := ⟨some 8, _, _, _, _, _⟩) (v := ?vvd2_21_47) rfl (by kernel_rfl) (by kernel_rfl) (by kernel_rfl) (by kernel_rfl) (fun _ _ _ h => h) (fun h => by first | cases h | simp at h) (by rfl) ?hhd2_21_47 ?rrd2_21_47
          case hhd2_21_47 => (intro W; go_simp; try with_reducible rfl)
          (try simp only [Act.put, List.setIfInBounds_toArray, List.set_cons_zero, List.set_cons_succ])
          refine wpAnyL_done (by kernel_rfl) ?_ _
          go_wp2
          go_meet
          case rel => exact ⟨g6, g7, A', c', rfl, rfl, rfl, K6.out, K7.out, HI.out, HT.out, HB.out, hg6, hg7⟩
        exact wpAnyLs_nil
      refine wpAnyLs_cons (oi := ⟨some 7, _, _, _, _, _⟩) rfl (fun K hK => ?_) ?_
      · go_simp
        have K7 := hide (Bk.new x_17 86 #[.int .u64 0, .bool false, .bool false, .slice none 0 0])
        have hg7 : w.heap.size ≤ (x_17).heap.size := HB.out.size
        replace K6 := hide (K6.out.alloc (.cells #[.int .u64 0, .bool false, .bool false, .slice none 0 0] 86))
        replace HB := hide (HB.out.trans ((below_new x_17 (.cells #[.int .u64 0, .bool false, .bool false, .slice none 0 0] 86)).mono HB.out.size))
        generalize (World.alloc x_17 (.cells #[.int .u64 0, .bool false, .bool false, .slice none 0 0] 86)) = x_17_18 at *
        generalize (x_17).heap.size = g7 at *
        refine hK.out _ _ (fun _ => (TT.out _ HB.out)) ?_
        clear hK K
        (try simp only [Act.put, List.setIfInBounds_toArray, List.set_cons_zero, List.set_cons_succ])
        refine wpAnyL_one (i := 11) (oi := ⟨some 33, _, _, _, _, _⟩) rfl (by kernel_rfl) (fun K hK => ?_)
        refine step_call _ (by rfl) 48 _ (by go_simp) (NX.out _ HB.out) ?_
        rintro e x_11_17_18 ⟨rfl, hb⟩
        refine ⟨_, rfl, ?_⟩
        replace K6 := hide (K6.out.below hb K6.out.lt)
        replace K7 := hide (K7.out.below hb K7.out.lt)
        replace HB := hide (HB.out.trans (hb.mono HB.out.size))
        clear hb
        refine hK.out _ _ (fun _ => (TT.out _ HB.out)) ?_
        clear hK K
        (try simp only [Act.put, List.setIfInBounds_toArray, List.set_cons_zero, List.set_cons_succ])
        refine wpAnyL_one (i := 12) (oi := ⟨some 34, _, _, _, _, _⟩) rfl (by kernel_rfl) (fun K hK => ?_)
        refine step_call _ (by rfl) 47 _ (by go_simp) (AP.out _ HB.out) ?_
        rintro e x_11_12_17_18 ⟨A', c', rfl, hi', ht', hb⟩
        refine ⟨_, rfl, ?_⟩
        replace K6 := hide (K6.out.below hb K6.out.lt)
        replace K7 := hide (K7.out.below hb K7.out.lt)
        have HI := hide hi'
        have HT := hide ht'
        clear hi' ht'
        replace HB := hide (HB.out.trans (hb.mono HB.out.size))
        clear hb
        refine hK.out _ _ (fun _ => (TT.out _ HB.out)) ?_
        clear hK K
        (try simp only [Act.put, List.setIfInBounds_toArray, List.set_cons_zero, List.set_cons_succ])
        refine wpAnyL_any (i := 13) (oi := ⟨some 21, _, _, _, _, _⟩) (v := ?vvd2_13_48) rfl (by kernel_rfl) (by kernel_rfl) (by kernel_rfl) (by kernel_rfl) (fun _ _ _ h => h) (fun _ => (TT.out _ HB.out)) (by rfl) ?hhd2_13_48 ?rrd2_13_48
        case hhd2_13_48 => (intro W; go_simp; try with_reducible rfl)
        (try simp only [Act.put, List.setIfInBounds_toArray, List.set_cons_zero, List.set_cons_succ])
        refine wpAnyL_any (i := 14) (oi := ⟨some 35, _, _, _, _, _⟩) (v := ?vvd2_14_49) rfl (by kernel_rfl) (by kernel_rfl) (by kernel_rfl) (by kernel_rfl) (fun _ _ _ h => h) (fun _ => (TT.out _ HB.out)) (by rfl) ?hhd2_14_49 ?rrd2_14_49
        case hhd2_14_49 => (intro W; go_simp; try with_reducible rfl)
        (try simp only [Act.put, List.setIfInBounds_toArray, List.set_cons_zero, List.set_cons_succ])
        refine wpAnyL_any (i := 15) (oi := ⟨some 36, _, _, _, _, _⟩) (v := ?vvd2_15_50) rfl (by kernel_rfl) (by kernel_rfl) (by kernel_rfl) (by kernel_rfl) (fun _ _ _ h => h) (fun _ => (TT.out _ HB.out)) (by rfl) ?hhd2_15_50 ?rrd2_15_50
        case hhd2_15_50 => (intro W; go_simp; try with_reducible rfl)
        (try simp only [Act.put, List.setIfInBounds_toArray, List.set_cons_zero, List.set_cons_succ])
        refine wpAnyL_any (i := 16) (oi := ⟨some 37, _, _, _, _, _⟩) (v := ?vvd2_16_51) rfl (by kernel_rfl) (by kernel_rfl) (by kernel_rfl) (by kernel_rfl) (fun _ _ _ h => h) (fun _ => (TT.out _ HB.out)) (by rfl) ?hhd2_16_51 ?rrd2_16_51
        case hhd2_16_51 => (intro W; go_simp; try with_reducible rfl)
        (try simp only [Act.put, List.setIfInBounds_toArray, List.set_cons_zero, List.set_cons_succ])
        refine wpAnyL_one (i := 19) (oi := ⟨none, _, _, _, _, _⟩) rfl (by kernel_rfl) (fun K hK => ?_)
        obtain ⟨r0, r1, r2, rf⟩ := bkm3 K6.out
        go_simp
        clear r0 r1 r2 rf
        have ku : Kp x_11_12_17_18 (World.setCell (World.setCell (World.setCell x_11_12_17_18 ⟨g6, 0, none⟩ (.slice A' h.mn c')) ⟨g6, 1, none⟩ (.slice h.LA h.ln h.lc)) ⟨g6, 2, none⟩ (.int .i64 h.tk)) 42 := kp_sets (by decide) [.slice A' h.mn c', .slice h.LA h.ln h.lc, .int .i64 h.tk] 0 K6.out
        replace HI := hide (HI.out.kp HT.out ku)
        replace HT := hide (HT.out.kp ku)
        clear ku
        replace K7 : Hid (Bk (World.setCell (World.setCell (World.setCell x_11_12_17_18 ⟨g6, 0, none⟩ (.slice A' h.mn c')) ⟨g6, 1, none⟩ (.slice h.LA h.ln h.lc)) ⟨g6, 2, none⟩ (.int .i64 h.tk)) g7 86 _) := hide (kp_sets (T := 86) (by decide) [.slice A' h.mn c', .slice h.LA h.ln h.lc, .int .i64 h.tk] 0 K6.out _ _ K7.out)
        replace HB : Hid (Below w.heap.size w (World.setCell (World.setCell (World.setCell x_11_12_17_18 ⟨g6, 0, none⟩ (.slice A' h.mn c')) ⟨g6, 1, none⟩ (.slice h.LA h.ln h.lc)) ⟨g6, 2, none⟩ (.int .i64 h.tk))) := hide (below_setCells [.slice A' h.mn c', .slice h.LA h.ln h.lc, .int .i64 h.tk] 0 HB.out hg6)
        replace K6 : Hid (Bk (World.setCell (World.setCell (World.setCell x_11_12_17_18 ⟨g6, 0, none⟩ (.slice A' h.mn c')) ⟨g6, 1, none⟩ (.slice h.LA h.ln h.lc)) ⟨g6, 2, none⟩ (.int .i64 h.tk)) g6 33 #[.slice A' h.mn c', .slice h.LA h.ln h.lc, .int .i64 h.tk]) := hide (Bk.stored (cells := #[.slice A' h.mn c', .slice h.LA h.ln h.lc, .int .i64 h.tk]) (hide rfl) K6.out rfl)
        generalize (World.setCell (World.setCell (World.setCell x_11_12_17_18 ⟨g6, 0, none⟩ (.slice A' h.mn c')) ⟨g6, 1, none⟩ (.slice h.LA h.ln h.lc)) ⟨g6, 2, none⟩ (.int .i64 h.tk)) = x_11_12_17_18_19 at *
        refine hK.out _ _ (fun h => by first | cases h | simp at h) ?_
        clear hK K
        (try simp only [Act.put, List.setIfInBounds_toArray, List.set_cons_zero, List.set_cons_succ])
        refine wpAnyL_one (i := 20) (oi := ⟨none, _, _, _, _, _⟩) rfl (by kernel_rfl) (fun K hK => ?_)
        obtain ⟨r0, r1, r2, r3, rf⟩ := bk4 K7.out
        go_simp
        clear r0 r1 r2 r3 rf
        have ku : Kp x_11_12_17_18_19 (World.setCell (World.setCell (World.setCell (World.setCell x_11_12_17_18_19 ⟨g7, 0, none⟩ (.int .u64 va)) ⟨g7, 1, none⟩ (.bool ya)) ⟨g7, 2, none⟩ (.bool false)) ⟨g7, 3, none⟩ (.slice none 0 0)) 42 := kp_sets (by decide) [.int .u64 va, .bool ya, .bool false, .slice none 0 0] 0 K7.out
        replace HI := hide (HI.out.kp HT.out ku)
        replace HT := hide (HT.out.kp ku)
        clear ku
        replace K6 : Hid (Bk (World.setCell (World.setCell (World.setCell (World.setCell x_11_12_17_18_19 ⟨g7, 0, none⟩ (.int .u64 va)) ⟨g7, 1, none⟩ (.bool ya)) ⟨g7, 2, none⟩ (.bool false)) ⟨g7, 3, none⟩ (.slice none 0 0)) g6 33 _) := hide (kp_sets (T := 33) (by decide) [.int .u64 va, .bool ya, .bool false, .slice none 0 0] 0 K7.out _ _ K6.out)
        replace HB : Hid (Below w.heap.size w (World.setCell (World.setCell (World.setCell (World.setCell x_11_12_17_18_19 ⟨g7, 0, none⟩ (.int .u64 va)) ⟨g7, 1, none⟩ (.bool ya)) ⟨g7, 2, none⟩ (.bool false)) ⟨g7, 3, none⟩ (.slice none 0 0))) := hide (below_setCells [.int .u64 va, .bool ya, .bool false, .slice none 0 0] 0 HB.out hg7)
        replace K7 : Hid (Bk (World.setCell (World.setCell (World.setCell (World.setCell x_11_12_17_18_19 ⟨g7, 0, none⟩ (.int .u64 va)) ⟨g7, 1, none⟩ (.bool ya)) ⟨g7, 2, none⟩ (.bool false)) ⟨g7, 3, none⟩ (.slice none 0 0)) g7 86 #[.int .u64 va, .bool ya, .bool false, .slice none 0 0]) := hide (Bk.stored (cells := #[.int .u64 va, .bool ya, .bool false, .slice none 0 0]) (hide rfl) K7.out rfl)
        generalize (World.setCell (World.setCell (World.setCell (World.setCell x_11_12_17_18_19 ⟨g7, 0, none⟩ (.int .u64 va)) ⟨g7, 1, none⟩ (.bool ya)) ⟨g7, 2, none⟩ (.bool false)) ⟨g7, 3, none⟩ (.slice none 0 0)) = x_11_12_17_18_19_20 at *
        refine hK.out _ _ (fun h => by first | cases h | simp at h) ?_
        clear hK K
        (try simp only [Act.put, List.setIfInBounds_toArray, List.set_cons_zero, List.set_cons_succ])
        refine wpAnyL_any (i := 21) (oi := ⟨some 8, _, _, _, _, _⟩) (v := ?vvd2_21_52) rfl (by kernel_rfl) (by kernel_rfl) (by kernel_rfl) (by kernel_rfl) (fun _ _ _ h => h) (fun h => by first | cases h | simp at h) (by rfl) ?hhd2_21_52 ?rrd2_21_52
        case hhd2_21_52 => (intro W; go_simp; try with_reducible rfl)
        (try simp only [Act.put, List.setIfInBounds_toArray, List.set_cons_zero, List.set_cons_succ])
        refine wpAnyL_done (by kernel_rfl) ?_ _
        go_wp2
        go_meet
        case rel => exact ⟨g6, g7, A', c', rfl, rfl, rfl, K6.out, K7.out, HI.out, HT.out, HB.out, hg6, hg7⟩
      exact wpAnyLs_nil
    refine wpAnyLs_cons (oi := ⟨some 7, _, _, _, _, _⟩) rfl (fun K hK => ?_) ?_
    · go_simp
      have K7 := hide (Bk.new xd 86 #[.int .u64 0, .bool false, .bool false, .slice none 0 0])
      have hg7 : w.heap.size ≤ (xd).heap.size := HB.out.size
      replace HB := hide (HB.out.trans ((below_new xd (.cells #[.int .u64 0, .bool false, .bool false, .slice none 0 0] 86)).mono HB.out.size))
      generalize (World.alloc xd (.cells #[.int .u64 0, .bool false, .bool false, .slice none 0 0] 86)) = x_18 at *
      generalize (xd).heap.size = g7 at *
      refine hK.out _ _ (fun _ => (TT.out _ HB.out)) ?_
      clear hK K
      (try simp only [Act.put, List.setIfInBounds_toArray, List.set_cons_zero, List.set_cons_succ])
      refine wpAnyL_some 11 [17] (by kernel_rfl) ?_
      refine wpAnyLs_cons (oi := ⟨some 33, _, _, _, _, _⟩) rfl (fun K hK => ?_) ?_
      · refine step_call _ (by rfl) 48 _ (by go_simp) (NX.out _ HB.out) ?_
        rintro e x_11_18 ⟨rfl, hb⟩
        refine ⟨_, rfl, ?_⟩
        replace K7 := hide (K7.out.below hb K7.out.lt)
        replace HB := hide (HB.out.trans (hb.mono HB.out.size))
        clear hb
        refine hK.out _ _ (fun _ => (TT.out _ HB.out)) ?_
        clear hK K
        (try simp only [Act.put, List.setIfInBounds_toArray, List.set_cons_zero, List.set_cons_succ])
        refine wpAnyL_some 12 [17] (by kernel_rfl) ?_
        refine wpAnyLs_cons (oi := ⟨some 34, _, _, _, _, _⟩) rfl (fun K hK => ?_) ?_
        · refine step_call _ (by rfl) 47 _ (by go_simp) (AP.out _ HB.out) ?_
          rintro e x_11_12_18 ⟨A', c', rfl, hi', ht', hb⟩
          refine ⟨_, rfl, ?_⟩
          replace K7 := hide (K7.out.below hb K7.out.lt)
          have HI := hide hi'
          have HT := hide ht'
          clear hi' ht'
          replace HB := hide (HB.out.trans (hb.mono HB.out.size))
          clear hb
          refine hK.out _ _ (fun _ => (TT.out _ HB.out)) ?_
          clear hK K
          (try simp only [Act.put, List.setIfInBounds_toArray, List.set_cons_zero, List.set_cons_succ])
          refine wpAnyL_any (i := 13) (oi := ⟨some 21, _, _, _, _, _⟩) (v := ?vvd2_13_53) rfl (by kernel_rfl) (by kernel_rfl) (by kernel_rfl) (by kernel_rfl) (fun _ _ _ h => h) (fun _ => (TT.out _ HB.out)) (by rfl) ?hhd2_13_53 ?rrd2_13_53
          case hhd2_13_53 => (intro W; go_simp; try with_reducible rfl)
          (try simp only [Act.put, List.setIfInBounds_toArray, List.set_cons_zero, List.set_cons_succ])
          refine wpAnyL_any (i := 14) (oi := ⟨some 35, _, _, _, _, _⟩) (v := ?vvd2_14_54) rfl (by kernel_rfl) (by kernel_rfl) (by kernel_rfl) (by kernel_rfl) (fun _ _ _ h => h) (fun _ => (TT.out _ HB.out)) (by rfl) ?hhd2_14_54 ?rrd2_14_54
          case hhd2_14_54 => (intro W; go_simp; try with_reducible rfl)
          (try simp only [Act.put, List.setIfInBounds_toArray, List.set_cons_zero, List.set_cons_succ])
          refine wpAnyL_any (i := 15) (oi := ⟨some 36, _, _, _, _, _⟩) (v := ?vvd2_15_55) rfl (by kernel_rfl) (by kernel_rfl) (by kernel_rfl) (by kernel_rfl) (fun _ _ _ h => h) (fun _ => (TT.out _ HB.out)) (by rfl) ?hhd2_15_55 ?rrd2_15_55
          case hhd2_15_55 => (intro W; go_simp; try with_reducible rfl)
          (try simp only [Act.put, List.setIfInBounds_toArray, List.set_cons_zero, List.set_cons_succ])
          refine wpAnyL_any (i := 16) (oi := ⟨some 37, _, _, _, _, _⟩) (v := ?vvd2_16_56) rfl (by kernel_rfl) (by kernel_rfl) (by kernel_rfl) (by kernel_rfl) (fun _ _ _ h => h) (fun _ => (TT.out _ HB.out)) (by rfl) ?hhd2_16_56 ?rrd2_16_56
          case hhd2_16_56 => (intro W; go_simp; try with_reducible rfl)
          (try simp only [Act.put, List.setIfInBounds_toArray, List.set_cons_zero, List.set_cons_succ])
          refine wpAnyL_one (i := 17) (oi := ⟨some 6, _, _, _, _, _⟩) rfl (by kernel_rfl) (fun K hK => ?_)
          go_simp
          have K6 := hide (Bk.new x_11_12_18 33 #[.slice none 0 0, .slice none 0 0, .int .i64 0])
          have hg6 : w.heap.size ≤ (x_11_12_18).heap.size := HB.out.size
          replace K7 := hide (K7.out.alloc (.cells #[.slice none 0 0, .slice none 0 0, .int .i64 0] 33))
          replace HI := hide (HI.out.alloc (.cells #[.slice none 0 0, .slice none 0 0, .int .i64 0] 33))
          replace HT := hide (HT.out.alloc (.cells #[.slice none 0 0, .slice none 0 0, .int .i64 0] 33))
          replace HB := hide (HB.out.trans ((below_new x_11_12_18 (.cells #[.slice none 0 0, .slice none 0 0, .int .i64 0] 33)).mono HB.out.size))
          generalize (World.alloc x_11_12_18 (.cells #[.slice none 0 0, .slice none 0 0, .int .i64 0] 33)) = x_11_12_17_18 at *
          generalize (x_11_12_18).heap.size = g6 at *
          refine hK.out _ _ (fun _ => (TT.out _ HB.out)) ?_
          clear hK K
          (try simp only [Act.put, List.setIfInBounds_toArray, List.set_cons_zero, List.set_cons_succ])
          refine wpAnyL_one (i := 19) (oi := ⟨none, _, _, _, _, _⟩) rfl (by kernel_rfl) (fun K hK => ?_)
          obtain ⟨r0, r1, r2, rf⟩ := bkm3 K6.out
          go_simp
          clear r0 r1 r2 rf
          have ku : Kp x_11_12_17_18 (World.setCell (World.setCell (World.setCell x_11_12_17_18 ⟨g6, 0, none⟩ (.slice A' h.mn c')) ⟨g6, 1, none⟩ (.slice h.LA h.ln h.lc)) ⟨g6, 2, none⟩ (.int .i64 h.tk)) 42 := kp_sets (by decide) [.slice A' h.mn c', .slice h.LA h.ln h.lc, .int .i64 h.tk] 0 K6.out
          replace HI := hide (HI.out.kp HT.out ku)
          replace HT := hide (HT.out.kp ku)
          clear ku
          replace K7 : Hid (Bk (World.setCell (World.setCell (World.setCell x_11_12_17_18 ⟨g6, 0, none⟩ (.slice A' h.mn c')) ⟨g6, 1, none⟩ (.slice h.LA h.ln h.lc)) ⟨g6, 2, none⟩ (.int .i64 h.tk)) g7 86 _) := hide (kp_sets (T := 86) (by decide) [.slice A' h.mn c', .slice h.LA h.ln h.lc, .int .i64 h.tk] 0 K6.out _ _ K7.out)
          replace HB : Hid (Below w.heap.size w (World.setCell (World.setCell (World.setCell x_11_12_17_18 ⟨g6, 0, none⟩ (.slice A' h.mn c')) ⟨g6, 1, none⟩ (.slice h.LA h.ln h.lc)) ⟨g6, 2, none⟩ (.int .i64 h.tk))) := hide (below_setCells [.slice A' h.mn c', .slice h.LA h.ln h.lc, .int .i64 h.tk] 0 HB.out hg6)
          replace K6 : Hid (Bk (World.setCell (World.setCell (World.setCell x_11_12_17_18 ⟨g6, 0, none⟩ (.slice A' h.mn c')) ⟨g6, 1, none⟩ (.slice h.LA h.ln h.lc)) ⟨g6, 2, none⟩ (.int .i64 h.tk)) g6 33 #[.slice A' h.mn c', .slice h.LA h.ln h.lc, .int .i64 h.tk]) := hide (Bk.stored (cells := #[.slice A' h.mn c', .slice h.LA h.ln h.lc, .int .i64 h.tk]) (hide rfl) K6.out rfl)
          generalize (World.setCell (World.setCell (World.setCell x_11_12_17_18 ⟨g6, 0, none⟩ (.slice A' h.mn c')) ⟨g6, 1, none⟩ (.slice h.LA h.ln h.lc)) ⟨g6, 2, none⟩ (.int .i64 h.tk)) = x_11_12_17_18_19 at *
          refine hK.out _ _ (fun h => by first | cases h | simp at h) ?_
          clear hK K
          (try simp only [Act.put, List.setIfInBounds_toArray, List.set_cons_zero, List.set_cons_succ])
          refine wpAnyL_one (i := 20) (oi := ⟨none, _, _, _, _, _⟩) rfl (by kernel_rfl) (fun K hK => ?_)
          obtain ⟨r0, r1, r2, r3, rf⟩ := bk4 K7.out
          go_simp
          clear r0 r1 r2 r3 rf
          have ku : Kp x_11_12_17_18_19 (World.setCell (World.setCell (World.setCell (World.setCell x_11_12_17_18_19 ⟨g7, 0, none⟩ (.int .u64 va)) ⟨g7, 1, none⟩ (.bool ya)) ⟨g7, 2, none⟩ (.bool false)) ⟨g7, 3, none⟩ (.slice none 0 0)) 42 := kp_sets (by decide) [.int .u64 va, .bool ya, .bool false, .slice none 0 0] 0 K7.out
          replace HI := hide (HI.out.kp HT.out ku)
          replace HT := hide (HT.out.kp ku)
          clear ku
          replace K6 : Hid (Bk (World.setCell (World.setCell (World.setCell (World.setCell x_11_12_17_18_19 ⟨g7, 0, none⟩ (.int .u64 va)) ⟨g7, 1, none⟩ (.bool ya)) ⟨g7, 2, none⟩ (.bool false)) ⟨g7, 3, none⟩ (.slice none 0 0)) g6 33 _) := hide (kp_sets (T := 33) (by decide) [.int .u64 va, .bool ya, .bool false, .slice none 0 0] 0 K7.out _ _ K6.out)
          replace HB : Hid (Below w.heap.size w (World.setCell (World.setCell (World.setCell (World.setCell x_11_12_17_18_19 ⟨g7, 0, none⟩ (.int .u64 va)) ⟨g7, 1, none⟩ (.bool ya)) ⟨g7, 2, none⟩ (.bool false)) ⟨g7, 3, none⟩ (.slice none 0 0))) := hide (below_setCells [.int .u64 va, .bool ya, .bool false, .slice none 0 0] 0 HB.out hg7)
          replace K7 : Hid (Bk (World.setCell (World.setCell (World.setCell (World.setCell x_11_12_17_18_19 ⟨g7, 0, none⟩ (.int .u64 va)) ⟨g7, 1, none⟩ (.bool ya)) ⟨g7, 2, none⟩ (.bool false)) ⟨g7, 3, none⟩ (.slice none 0 0)) g7 86 #[.int .u64 va, .bool ya, .bool false, .slice none 0 0]) := hide (Bk.stored (cells := #[.int .u64 va, .bool ya, .bool false, .slice none 0 0]) (hide rfl) K7.out rfl)
          generalize (World.setCell (World.setCell (World.setCell (World.setCell x_11_12_17_18_19 ⟨g7, 0, none⟩ (.int .u64 va)) ⟨g7, 1, none⟩ (.bool ya)) ⟨g7, 2, none⟩ (.bool false)) ⟨g7, 3, none⟩ (.slice none 0 0)) = x_11_12_17_18_19_20 at *
          refine hK.out _ _ (fun h => by first | cases h | simp at h) ?_
          clear hK K
          (try simp only [Act.put, List.setIfInBounds_toArray, List.set_cons_zero, List.set_cons_succ])
          refine wpAnyL_any (i := 21) (oi := ⟨some 8, _, _, _, _, _⟩) (v := ?vvd2_21_57) rfl (by kernel_rfl) (by kernel_rfl) (by kernel_rfl) (by kernel_rfl) (fun _ _ _ h => h) (fun h => by first | cases h | simp at h) (by rfl) ?hhd2_21_57 ?rrd2_21_57
          case hhd2_21_57 => (intro W; go_simp; try with_reducible rfl)
          (try simp only [Act.put, List.setIfInBounds_toArray, List.set_cons_zero, List.set_cons_succ])
          refine wpAnyL_done (by kernel_rfl) ?_ _
          go_wp2
          go_meet
          case rel => exact ⟨g6, g7, A', c', rfl, rfl, rfl, K6.out, K7.out, HI.out, HT.out, HB.out, hg6, hg7⟩
        refine wpAnyLs_cons (oi := ⟨some 6, _, _, _, _, _⟩) rfl (fun K hK => ?_) ?_
        · go_simp
          have K6 := hide (Bk.new x_11_18 33 #[.slice none 0 0, .slice none 0 0, .int .i64 0])
          have hg6 : w.heap.size ≤ (x_11_18).heap.size := HB.out.size
          replace K7 := hide (K7.out.alloc (.cells #[.slice none 0 0, .slice none 0 0, .int .i64 0] 33))
          replace HB := hide (HB.out.trans ((below_new x_11_18 (.cells #[.slice none 0 0, .slice none 0 0, .int .i64 0] 33)).mono HB.out.size))
          generalize (World.alloc x_11_18 (.cells #[.slice none 0 0, .slice none 0 0, .int .i64 0] 33)) = x_11_17_18 at *
          generalize (x_11_18).heap.size = g6 at *
          refine hK.out _ _ (fun _ => (TT.out _ HB.out)) ?_
          clear hK K
          (try simp only [Act.put, List.setIfInBounds_toArray, List.set_cons_zero, List.set_cons_succ])
          refine wpAnyL_one (i := 12) (oi := ⟨some 34, _, _, _, _, _⟩) rfl (by kernel_rfl) (fun K hK => ?_)
          refine step_call _ (by rfl) 47 _ (by go_simp) (AP.out _ HB.out) ?_
          rintro e x_11_12_17_18 ⟨A', c', rfl, hi', ht', hb⟩
          refine ⟨_, rfl, ?_⟩
          replace K6 := hide (K6.out.below hb K6.out.lt)
          replace K7 := hide (K7.out.below hb K7.out.lt)
          have HI := hide hi'
          have HT := hide ht'
          clear hi' ht'
          replace HB := hide (HB.out.trans (hb.mono HB.out.size))
          clear hb
          refine hK.out _ _ (fun _ => (TT.out _ HB.out)) ?_
          clear hK K
          (try simp only [Act.put, List.setIfInBounds_toArray, List.set_cons_zero, List.set_cons_succ])
          refine wpAnyL_any (i := 13) (oi := ⟨some 21, _, _, _, _, _⟩) (v := ?vvd2_13_58) rfl (by kernel_rfl) (by kernel_rfl) (by kernel_rfl) (by kernel_rfl) (fun _ _ _ h => h) (fun _ => (TT.out _ HB.out)) (by rfl) ?hhd2_13_58 ?rrd2_13_58
          case hhd2_13_58 => (intro W; go_simp; try with_reducible rfl)
          (try simp only [Act.put, List.setIfInBounds_toArray, List.set_cons_zero, List.set_cons_succ])
          refine wpAnyL_any (i := 14) (oi := ⟨some 35, _, _, _, _, _⟩) (v := ?vvd2_14_59) rfl (by kernel_rfl) (by kernel_rfl) (by kernel_rfl) (by kernel_rfl) (fun _ _ _ h => h) (fun _ => (TT.out _ HB.out)) (by rfl) ?hhd2_14_59 ?rrd2_14_59
          case hhd2_14_59 => (intro W; go_simp; try with_reducible rfl)
          (try simp only [Act.put, List.setIfInBounds_toArray, List.set_cons_zero, List.set_cons_succ])
          refine wpAnyL_any (i := 15) (oi := ⟨some 36, _, _, _, _, _⟩) (v := ?vvd2_15_60) rfl (by kernel_rfl) (by kernel_rfl) (by kernel_rfl) (by kernel_rfl) (fun _ _ _ h => h) (fun _ => (TT.out _ HB.out)) (by rfl) ?hhd2_15_60 ?rrd2_15_60
          case hhd2_15_60 => (intro W; go_simp; try with_reducible rfl)
          (try simp only [Act.put, List.setIfInBounds_toArray, List.set_cons_zero, List.set_cons_succ])
          refine wpAnyL_any (i := 16) (oi := ⟨some 37, _, _, _, _, _⟩) (v := ?vvd2_16_61) rfl (by kernel_rfl) (by kernel_rfl) (by kernel_rfl) (by kernel_rfl) (fun _ _ _ h => h) (fun _ => (TT.out _ HB.out)) (by rfl) ?hhd2_16_61 ?rrd2_16_61
          case hhd2_16_61 => (intro W; go_simp; try with_reducible rfl)
          (try simp only [Act.put, List.setIfInBounds_toArray, List.set_cons_zero, List.set_cons_succ])
          refine wpAnyL_one (i := 19) (oi := ⟨none, _, _, _, _, _⟩) rfl (by kernel_rfl) (fun K hK => ?_)
          obtain ⟨r0, r1, r2, rf⟩ := bkm3 K6.out
          go_simp
          clear r0 r1 r2 rf
          have ku : Kp x_11_12_17_18 (World.setCell (World.setCell (World.setCell x_11_12_17_18 ⟨g6, 0, none⟩ (.slice A' h.mn c')) ⟨g6, 1, none⟩ (.slice h.LA h.ln h.lc)) ⟨g6, 2, none⟩ (.int .i64 h.tk)) 42 := kp_sets (by decide) [.slice A' h.mn c', .slice h.LA h.ln h.lc, .int .i64 h.tk] 0 K6.out
          replace HI := hide (HI.out.kp HT.out ku)
          replace HT := hide (HT.out.kp ku)
          clear ku
          replace K7 : Hid (Bk (World.setCell (World.setCell (World.setCell x_11_12_17_18 ⟨g6, 0, none⟩ (.slice A' h.mn c')) ⟨g6, 1, none⟩ (.slice h.LA h.ln h.lc)) ⟨g6, 2, none⟩ (.int .i64 h.tk)) g7 86 _) := hide (kp_sets (T := 86) (by decide) [.slice A' h.mn c', .slice h.LA h.ln h.lc, .int .i64 h.tk] 0 K6.out _ _ K7.out)
          replace HB : Hid (Below w.heap.size w (World.setCell (World.setCell (World.setCell x_11_12_17_18 ⟨g6, 0, none⟩ (.slice A' h.mn c')) ⟨g6, 1, none⟩ (.slice h.LA h.ln h.lc)) ⟨g6, 2, none⟩ (.int .i64 h.tk))) := hide (below_setCells [.slice A' h.mn c', .slice h.LA h.ln h.lc, .int .i64 h.tk] 0 HB.out hg6)
          replace K6 : Hid (Bk (World.setCell (World.setCell (World.setCell x_11_12_17_18 ⟨g6, 0, none⟩ (.slice A' h.mn c')) ⟨g6, 1, none⟩ (.slice h.LA h.ln h.lc)) ⟨g6, 2, none⟩ (.int .i64 h.tk)) g6 33 #[.slice A' h.mn c', .slice h.LA h.ln h.lc, .int .i64 h.tk]) := hide (Bk.stored (cells := #[.slice A' h.mn c', .slice h.LA h.ln h.lc, .int .i64 h.tk]) (hide rfl) K6.out rfl)
          generalize (World.setCell (World.setCell (World.setCell x_11_12_17_18 ⟨g6, 0, none⟩ (.slice A' h.mn c')) ⟨g6, 1, none⟩ (.slice h.LA h.ln h.lc)) ⟨g6, 2, none⟩ (.int .i64 h.tk)) = x_11_12_17_18_19 at *
          refine hK.out _ _ (fun h => by first | cases h | simp at h) ?_
          clear hK K
          (try simp only [Act.put, List.setIfInBounds_toArray, List.set_cons_zero, List.set_cons_succ])
          refine wpAnyL_one (i := 20) (oi := ⟨none, _, _, _, _, _⟩) rfl (by kernel_rfl) (fun K hK => ?_)
          obtain ⟨r0, r1, r2, r3, rf⟩ := bk4 K7.out
          go_simp
          clear r0 r1 r2 r3 rf
          have ku : Kp x_11_12_17_18_19 (World.setCell (World.setCell (World.setCell (World.setCell x_11_12_17_18_19 ⟨g7, 0, none⟩ (.int .u64 va)) ⟨g7, 1, none⟩ (.bool ya)) ⟨g7, 2, none⟩ (.bool false)) ⟨g7, 3, none⟩ (.slice none 0 0)) 42 := kp_sets (by decide) [.int .u64 va, .bool ya, .bool false, .slice none 0 0] 0 K7.out
          replace HI := hide (HI.out.kp HT.out ku)
          replace HT := hide (HT.out.kp ku)
          clear ku
          replace K6 : Hid (Bk (World.setCell (World.setCell (World.setCell (World.setCell x_11_12_17_18_19 ⟨g7, 0, none⟩ (.int .u64 va)) ⟨g7, 1, none⟩ (.bool ya)) ⟨g7, 2, none⟩ (.bool false)) ⟨g7, 3, none⟩ (.slice none 0 0)) g6 33 _) := hide (kp_sets (T := 33) (by decide) [.int .u64 va, .bool ya, .bool false, .slice none 0 0] 0 K7.out _ _ K6.out)
          replace HB : Hid (Below w.heap.size w (World.setCell (World.setCell (World.setCell (World.setCell x_11_12_17_18_19 ⟨g7, 0, none⟩ (.int .u64 va)) ⟨g7, 1, none⟩ (.bool ya)) ⟨g7, 2, none⟩ (.bool false)) ⟨g7, 3, none⟩ (.slice none 0 0))) := hide (below_setCells [.int .u64 va, .bool ya, .bool false, .slice none 0 0] 0 HB.out hg7)
          replace K7 : Hid (Bk (World.setCell (World.setCell (World.setCell (World.setCell x_11_12_17_18_19 ⟨g7, 0, none⟩ (.int .u64 va)) ⟨g7, 1, none⟩ (.bool ya)) ⟨g7, 2, none⟩ (.bool false)) ⟨g7, 3, none⟩ (.slice none 0 0)) g7 86 #[.int .u64 va, .bool ya, .bool false, .slice none 0 0]) := hide (Bk.stored (cells := #[.int .u64 va, .bool ya, .bool false, .slice none 0 0]) (hide rfl) K7.out rfl)
          generalize (World.setCell (World.setCell (World.setCell (World.setCell x_11_12_17_18_19 ⟨g7, 0, none⟩ (.int .u64 va)) ⟨g7, 1, none⟩ (.bool ya)) ⟨g7, 2, none⟩ (.bool false)) ⟨g7, 3, none⟩ (.slice none 0 0)) = x_11_12_17_18_19_20 at *
          refine hK.out _ _ (fun h => by first | cases h | simp at h) ?_
          clear hK K
          (try simp only [Act.put, List.setIfInBounds_toArray, List.set_cons_zero, List.set_cons_succ])
          refine wpAnyL_any (i := 21) (oi := ⟨some 8, _, _, _, _, _⟩) (v := ?vvd2_21_62) rfl (by kernel_rfl) (by kernel_rfl) (by kernel_rfl) (by kernel_rfl) (fun _ _ _ h => h) (fun h => by first | cases h | simp at h) (by rfl) ?hhd2_21_62 ?rrd2_21_62
          case hhd2_21_62 => (intro W; go_simp; try with_reducible rfl)
          (try simp only [Act.put, List.setIfInBounds_toArray, List.set_cons_zero, List.set_cons_succ])
          refine wpAnyL_done (by kernel_rfl) ?_ _
          go_wp2
          go_meet
          case rel => exact ⟨g6, g7, A', c', rfl, rfl, rfl, K6.out, K7.out, HI.out, HT.out, HB.out, hg6, hg7⟩
        exact wpAnyLs_nil
      refine wpAnyLs_cons (oi := ⟨some 6, _, _, _, _, _⟩) rfl (fun K hK => ?_) ?_
      · go_simp
        have K6 := hide (Bk.new x_18 33 #[.slice none 0 0, .slice none 0 0, .int .i64 0])
        have hg6 : w.heap.size ≤ (x_18).heap.size := HB.out.size
        replace K7 := hide (K7.out.alloc (.cells #[.slice none 0 0, .slice none 0 0, .int .i64 0] 33))
        replace HB := hide (HB.out.trans ((below_new x_18 (.cells #[.slice none 0 0, .slice none 0 0, .int .i64 0] 33)).mono HB.out.size))
        generalize (World.alloc x_18 (.cells #[.slice none 0 0, .slice none 0 0, .int .i64 0] 33)) = x_17_18 at *
        generalize (x_18).heap.size = g6 at *
        refine hK.out _ _ (fun _ => (TT.out _ HB.out)) ?_
        clear hK K
        (try simp only [Act.put, List.setIfInBounds_toArray, List.set_cons_zero, List.set_cons_succ])
        refine wpAnyL_one (i := 11) (oi := ⟨some 33, _, _, _, _, _⟩) rfl (by kernel_rfl) (fun K hK => ?_)
        refine step_call _ (by rfl) 48 _ (by go_simp) (NX.out _ HB.out) ?_
        rintro e x_11_17_18 ⟨rfl, hb⟩
        refine ⟨_, rfl, ?_⟩
        replace K6 := hide (K6.out.below hb K6.out.lt)
        replace K7 := hide (K7.out.below hb K7.out.lt)
        replace HB := hide (HB.out.trans (hb.mono HB.out.size))
        clear hb
        refine hK.out _ _ (fun _ => (TT.out _ HB.out)) ?_
        clear hK K
        (try simp only [Act.put, List.setIfInBounds_toArray, List.set_cons_zero, List.set_cons_succ])
        refine wpAnyL_one (i := 12) (oi := ⟨some 34, _, _, _, _, _⟩) rfl (by kernel_rfl) (fun K hK => ?_)
        refine step_call _ (by rfl) 47 _ (by go_simp) (AP.out _ HB.out) ?_
        rintro e x_11_12_17_18 ⟨A', c', rfl, hi', ht', hb⟩
        refine ⟨_, rfl, ?_⟩
        replace K6 := hide (K6.out.below hb K6.out.lt)
        replace K7 := hide (K7.out.below hb K7.out.lt)
        have HI := hide hi'
        have HT := hide ht'
        clear hi' ht'
        replace HB := hide (HB.out.trans (hb.mono HB.out.size))
        clear hb
        refine hK.out _ _ (fun _ => (TT.out _ HB.out)) ?_
        clear hK K
        (try simp only [Act.put, List.setIfInBounds_toArray, List.set_cons_zero, List.set_cons_succ])
        refine wpAnyL_any (i := 13) (oi := ⟨some 21, _, _, _, _, _⟩) (v := ?vvd2_13_63) rfl (by kernel_rfl) (by kernel_rfl) (by kernel_rfl) (by kernel_rfl) (fun _ _ _ h => h) (fun _ => (TT.out _ HB.out)) (by rfl) ?hhd2_13_63 ?rrd2_13_63
        case hhd2_13_63 => (intro W; go_simp; try with_reducible rfl)
        (try simp only [Act.put, List.setIfInBounds_toArray, List.set_cons_zero, List.set_cons_succ])
        refine wpAnyL_any (i := 14) (oi := ⟨some 35, _, _, _, _, _⟩) (v := ?vvd2_14_64) rfl (by kernel_rfl) (by kernel_rfl) (by kernel_rfl) (by kernel_rfl) (fun _ _ _ h => h) (fun _ => (TT.out _ HB.out)) (by rfl) ?hhd2_14_64 ?rrd2_14_64
        case hhd2_14_64 => (intro W; go_simp; try with_reducible rfl)
        (try simp only [Act.put, List.setIfInBounds_toArray, List.set_cons_zero, List.set_cons_succ])
        refine wpAnyL_any (i := 15) (oi := ⟨some 36, _, _, _, _, _⟩) (v := ?vvd2_15_65) rfl (by kernel_rfl) (by kernel_rfl) (by kernel_rfl) (by kernel_rfl) (fun _ _ _ h => h) (fun _ => (TT.out _ HB.out)) (by rfl) ?hhd2_15_65 ?rrd2_15_65
        case hhd2_15_65 => (intro W; go_simp; try with_reducible rfl)
        (try simp only [Act.put, List.setIfInBounds_toArray, List.set_cons_zero, List.set_cons_succ])
        refine wpAnyL_any (i := 16) (oi := ⟨some 37, _, _, _, _, _⟩) (v := ?vvd2_16_66) rfl (by kernel_rfl) (by kernel_rfl) (by kernel_rfl) (by kernel_rfl) (fun _ _ _ h => h) (fun _ => (TT.out _ HB.out)) (by rfl) ?hhd2_16_66 ?rrd2_16_66
        case hhd2_16_66 => (intro W; go_simp; try with_reducible rfl)
        (try simp only [Act.put, List.setIfInBounds_toArray, List.set_cons_zero, List.set_cons_succ])
        refine wpAnyL_one (i := 19) (oi := ⟨none, _, _, _, _, _⟩) rfl (by kernel_rfl) (fun K hK => ?_)
        obtain ⟨r0, r1, r2, rf⟩ := bkm3 K6.out
        go_simp
        clear r0 r1 r2 rf
        have ku : Kp x_11_12_17_18 (World.setCell (World.setCell (World.setCell x_11_12_17_18 ⟨g6, 0, none⟩ (.slice A' h.mn c')) ⟨g6, 1, none⟩ (.slice h.LA h.ln h.lc)) ⟨g6, 2, none⟩ (.int .i64 h.tk)) 42 := kp_sets (by decide) [.slice A' h.mn c', .slice h.LA h.ln h.lc, .int .i64 h.tk] 0 K6.out
        replace HI := hide (HI.out.kp HT.out ku)
        replace HT := hide (HT.out.kp ku)
        clear ku
        replace K7 : Hid (Bk (World.setCell (World.setCell (World.setCell x_11_12_17_18 ⟨g6, 0, none⟩ (.slice A' h.mn c')) ⟨g6, 1, none⟩ (.slice h.LA h.ln h.lc)) ⟨g6, 2, none⟩ (.int .i64 h.tk)) g7 86 _) := hide (kp_sets (T := 86) (by decide) [.slice A' h.mn c', .slice h.LA h.ln h.lc, .int .i64 h.tk] 0 K6.out _ _ K7.out)
        replace HB : Hid (Below w.heap.size w (World.setCell (World.setCell (World.setCell x_11_12_17_18 ⟨g6, 0, none⟩ (.slice A' h.mn c')) ⟨g6, 1, none⟩ (.slice h.LA h.ln h.lc)) ⟨g6, 2, none⟩ (.int .i64 h.tk))) := hide (below_setCells [.slice A' h.mn c', .slice h.LA h.ln h.lc, .int .i64 h.tk] 0 HB.out hg6)
        replace K6 : Hid (Bk (World.setCell (World.setCell (World.setCell x_11_12_17_18 ⟨g6, 0, none⟩ (.slice A' h.mn c')) ⟨g6, 1, none⟩ (.slice h.LA h.ln h.lc)) ⟨g6, 2, none⟩ (.int .i64 h.tk)) g6 33 #[.slice A' h.mn c', .slice h.LA h.ln h.lc, .int .i64 h.tk]) := hide (Bk.stored (cells := #[.slice A' h.mn c', .slice h.LA h.ln h.lc, .int .i64 h.tk]) (hide rfl) K6.out rfl)
        generalize (World.setCell (World.setCell (World.setCell x_11_12_17_18 ⟨g6, 0, none⟩ (.slice A' h.mn c')) ⟨g6, 1, none⟩ (.slice h.LA h.ln h.lc)) ⟨g6, 2, none⟩ (.int .i64 h.tk)) = x_11_12_17_18_19 at *
        refine hK.out _ _ (fun h => by first | cases h | simp at h) ?_
        clear hK K
        (try simp only [Act.put, List.setIfInBounds_toArray, List.set_cons_zero, List.set_cons_succ])
        refine wpAnyL_one (i := 20) (oi := ⟨none, _, _, _, _, _⟩) rfl (by kernel_rfl) (fun K hK => ?_)
        obtain ⟨r0, r1, r2, r3, rf⟩ := bk4 K7.out
        go_simp
        clear r0 r1 r2 r3 rf
        have ku : Kp x_11_12_17_18_19 (World.setCell (World.setCell (World.setCell (World.setCell x_11_12_17_18_19 ⟨g7, 0, none⟩ (.int .u64 va)) ⟨g7, 1, none⟩ (.bool ya)) ⟨g7, 2, none⟩ (.bool false)) ⟨g7, 3, none⟩ (.slice none 0 0)) 42 := kp_sets (by decide) [.int .u64 va, .bool ya, .bool false, .slice none 0 0] 0 K7.out
        replace HI := hide (HI.out.kp HT.out ku)
        replace HT := hide (HT.out.kp ku)
        clear ku
        replace K6 : Hid (Bk (World.setCell (World.setCell (World.setCell (World.setCell x_11_12_17_18_19 ⟨g7, 0, none⟩ (.int .u64 va)) ⟨g7, 1, none⟩ (.bool ya)) ⟨g7, 2, none⟩ (.bool false)) ⟨g7, 3, none⟩ (.slice none 0 0)) g6 33 _) := hide (kp_sets (T := 33) (by decide) [.int .u64 va, .bool ya, .bool false, .slice none 0 0] 0 K7.out _ _ K6.out)
        replace HB : Hid (Below w.heap.size w (World.setCell (World.setCell (World.setCell (World.setCell x_11_12_17_18_19 ⟨g7, 0, none⟩ (.int .u64 va)) ⟨g7, 1, none⟩ (.bool ya)) ⟨g7, 2, none⟩ (.bool false)) ⟨g7, 3, none⟩ (.slice none 0 0))) := hide (below_setCells [.int .u64 va, .bool ya, .bool false, .slice none 0 0] 0 HB.out hg7)
        replace K7 : Hid (Bk (World.setCell (World.setCell (World.setCell (World.setCell x_11_12_17_18_19 ⟨g7, 0, none⟩ (.int .u64 va)) ⟨g7, 1, none⟩ (.bool ya)) ⟨g7, 2, none⟩ (.bool false)) ⟨g7, 3, none⟩ (.slice none 0 0)) g7 86 #[.int .u64 va, .bool ya, .bool false, .slice none 0 0]) := hide (Bk.stored (cells := #[.int .u64 va, .bool ya, .bool false, .slice none 0 0]) (hide rfl) K7.out rfl)
        generalize (World.setCell (World.setCell (World.setCell (World.setCell x_11_12_17_18_19 ⟨g7, 0, none⟩ (.int .u64 va)) ⟨g7, 1, none⟩ (.bool ya)) ⟨g7, 2, none⟩ (.bool false)) ⟨g7, 3, none⟩ (.slice none 0 0)) = x_11_12_17_18_19_20 at *
        refine hK.out _ _ (fun h => by first | cases h | simp at h) ?_
        clear hK K
        (try simp only [Act.put, List.setIfInBounds_toArray, List.set_cons_zero, List.set_cons_succ])
        refine wpAnyL_any (i := 21) (oi := ⟨some 8, _, _, _, _, _⟩) (v := ?vvd2_21_67) rfl (by kernel_rfl) (by kernel_rfl) (by kernel_rfl) (by kernel_rfl) (fun _ _ _ h => h) (fun h => by first | cases h | simp at h) (by rfl) ?hhd2_21_67 ?rrd2_21_67
        case hhd2_21_67 => (intro W; go_simp; try with_reducible rfl)
        (try simp only [Act.put, List.setIfInBounds_toArray, List.set_cons_zero, List.set_cons_succ])
        refine wpAnyL_done (by kernel_rfl) ?_ _
        go_wp2
        go_meet
        case rel => exact ⟨g6, g7, A', c', rfl, rfl, rfl, K6.out, K7.out, HI.out, HT.out, HB.out, hg6, hg7⟩
      exact wpAnyLs_nil
    exact wpAnyLs_nil
  case rest =>
  obtain ⟨g6, g7, A', c', rfl, rfl, rfl, hk6, hk7, hi', ht', hbw, hg6, hg7⟩ := hcut
  obtain ⟨w3, hw3⟩ : ∃ q, q = wc := ⟨_, rfl⟩
  subst hw3
  have K6 := hide hk6
  have K7 := hide hk7
  have HI := hide hi'
  have HT := hide ht'
  have HBW := hide hbw
  clear hk6 hk7 hi' ht' hbw AP HB1
  obtain ⟨ti, hti, htz, htsz, htby⟩ := info_parts Tryz.it_inf
  obtain ⟨mi0, hmi, hmz, hmsz, hmby⟩ := info_parts Tryz.me_inf
  have HP6 : Hid (h.vP.ownBlock ≠ some g6) := hide fun e => by have := (HH.out.rP.lt _ e).2; omega
  have HPS : Hid (h.ps.length ≤ 1000000) := hide (by rw [HH.out.pa.1, II.out.pl]; exact ht)
  go_upto_region 4 with fail
  have T4 := hide (fun (W : World) (hW : Below w.heap.size w W) (hK : Bk W g7 86 #[.int .u64 va, .bool ya, .bool false, .slice none 0 0]) => show W.cell? ⟨G, 7, none⟩ = some h.vT ∧ W.cell? ⟨G, 6, none⟩ = some (.slice (some ⟨gL, 0, none⟩) ls0 cL) ∧ W.cell? ⟨gL, i * 7, none⟩ = some (.int .i64 wh) ∧ W.cell? ⟨gL, i * 7 + 1, none⟩ = some (.int .u64 val) ∧ W.cell? ⟨gL, i * 7 + 2, none⟩ = some (.int .i64 code) ∧ W.cell? ⟨gL, i * 7 + 3, none⟩ = some (.int .i64 pc) ∧ W.cell? ⟨gL, i * 7 + 4, none⟩ = some (.slice FA fn fc) ∧ W.cell? ⟨gL, i * 7 + 5, none⟩ = some (.slice FB fm fd) ∧ W.cell? ⟨gL, i * 7 + 6, none⟩ = some (.slice none 0 0) ∧ W.cell? ⟨g7, 0, none⟩ = some (.int .u64 va) ∧ W.cell? ⟨g7, 1, none⟩ = some (.bool ya) ∧ W.cell? ⟨g7, 2, none⟩ = some (.bool false) ∧ W.cell? ⟨g7, 3, none⟩ = some (.slice none 0 0) from by
    obtain ⟨-, -, -, x6, y0, y1, y2, y3, y4, y5, y6⟩ := CELLS.out W hW
    obtain ⟨z0, z1, z2, z3, -⟩ := bk4 hK
    exact ⟨(HH.out.below hW).bk.cell 7, x6, y0, y1, y2, y3, y4, y5, y6, z0, z1, z2, z3⟩)
  refine wp_region_L (fun W => W.cell? ⟨G, 7, none⟩ = some h.vT ∧ W.cell? ⟨G, 6, none⟩ = some (.slice (some ⟨gL, 0, none⟩) ls0 cL) ∧ W.cell? ⟨gL, i * 7, none⟩ = some (.int .i64 wh) ∧ W.cell? ⟨gL, i * 7 + 1, none⟩ = some (.int .u64 val) ∧ W.cell? ⟨gL, i * 7 + 2, none⟩ = some (.int .i64 code) ∧ W.cell? ⟨gL, i * 7 + 3, none⟩ = some (.int .i64 pc) ∧ W.cell? ⟨gL, i * 7 + 4, none⟩ = some (.slice FA fn fc) ∧ W.cell? ⟨gL, i * 7 + 5, none⟩ = some (.slice FB fm fd) ∧ W.cell? ⟨gL, i * 7 + 6, none⟩ = some (.slice none 0 0) ∧ W.cell? ⟨g7, 0, none⟩ = some (.int .u64 va) ∧ W.cell? ⟨g7, 1, none⟩ = some (.bool ya) ∧ W.cell? ⟨g7, 2, none⟩ = some (.bool false) ∧ W.cell? ⟨g7, 3, none⟩ = some (.slice none 0 0)) 17 (by kernel_rfl) ?_
  have HB := hide (HBW.out.trans ((Below.refl w3.heap.size w3).drew.mono HBW.out.size))
  replace K6 := hide (K6.out.below (Below.refl w3.heap.size w3).drew K6.out.lt)
  replace K7 := hide (K7.out.below (Below.refl w3.heap.size w3).drew K7.out.lt)
  replace HI := hide (HI.out.below (Below.refl w3.heap.size w3).drew)
  replace HT := hide (HT.out.below (Below.refl w3.heap.size w3).drew)
  clear HBW
  generalize w3.drew = yd at *
  refine wpAnyL_any (i := 0) (oi := ⟨some 40, _, _, _, _, _⟩) (v := ?vvd4_0_1) rfl (by kernel_rfl) (by kernel_rfl) (by kernel_rfl) (by kernel_rfl) (fun _ _ _ h => h) (fun _ => (T4.out _ HB.out K7.out)) (by rfl) ?hhd4_0_1 ?rrd4_0_1
  case hhd4_0_1 => (intro W; go_simp; try with_reducible rfl)
  (try simp only [Act.put, List.setIfInBounds_toArray, List.set_cons_zero, List.set_cons_succ])
  refine wpAnyL_any (i := 1) (oi := ⟨some 41, _, _, _, _, _⟩) (v := ?vvd4_1_2) rfl (by kernel_rfl) (by kernel_rfl) (by kernel_rfl) (by kernel_rfl) (fun _ _ _ h => h) (fun _ => (T4.out _ HB.out K7.out)) (by rfl) ?hhd4_1_2 ?rrd4_1_2
  case hhd4_1_2 => (intro W; go_simp; try with_reducible rfl)
  (try simp only [Act.put, List.setIfInBounds_toArray, List.set_cons_zero, List.set_cons_succ])
  refine wpAnyL_any (i := 2) (oi := ⟨some 42, _, _, _, _, _⟩) (v := ?vvd4_2_3) rfl (by kernel_rfl) (by kernel_rfl) (by kernel_rfl) (by kernel_rfl) (fun _ _ _ h => h) (fun _ => (T4.out _ HB.out K7.out)) (by rfl) ?hhd4_2_3 ?rrd4_2_3
  case hhd4_2_3 => (intro W; go_simp; try with_reducible rfl)
  (try simp only [Act.put, List.setIfInBounds_toArray, List.set_cons_zero, List.set_cons_succ])
  refine wpAnyL_any (i := 3) (oi := ⟨some 43, _, _, _, _, _⟩) (v := ?vvd4_3_4) rfl (by kernel_rfl) (by kernel_rfl) (by kernel_rfl) (by kernel_rfl) (fun _ _ _ h => h) (fun _ => (T4.out _ HB.out K7.out)) (by rfl) ?hhd4_3_4 ?rrd4_3_4
  case hhd4_3_4 => (intro W; go_simp; try with_reducible rfl)
  (try simp only [Act.put, List.setIfInBounds_toArray, List.set_cons_zero, List.set_cons_succ])
  refine wpAnyL_take (i := 4) (oi := ⟨some 44, _, _, _, _, _⟩) [17, 18, 19, 20] (v := ?vvd4_4_5) rfl (by kernel_rfl) (by kernel_rfl) (by kernel_rfl) (by kernel_rfl) (fun _ _ _ h => h) (T4.out _ HB.out K7.out) (by rfl) ?hhd4_4_5 ?rrd4_4_5
  case hhd4_4_5 => (intro W hW; obtain ⟨k7, k6, m0, m1, m2, m3, m4, m5, m6, c0, c1, c2, c3⟩ := hW; go_simp; try with_reducible rfl)
  (try simp only [Act.put, List.setIfInBounds_toArray, List.set_cons_zero, List.set_cons_succ])
  refine wpAnyL_any (i := 5) (oi := ⟨some 45, _, _, _, _, _⟩) (v := ?vvd4_5_6) rfl (by kernel_rfl) (by kernel_rfl) (by kernel_rfl) (by kernel_rfl) (fun _ _ _ h => h) (fun _ => (T4.out _ HB.out K7.out)) (by rfl) ?hhd4_5_6 ?rrd4_5_6
  case hhd4_5_6 => (intro W; go_simp; try with_reducible rfl)
  (try simp only [Act.put, List.setIfInBounds_toArray, List.set_cons_zero, List.set_cons_succ])
  refine wpAnyL_any (i := 6) (oi := ⟨some 46, _, _, _, _, _⟩) (v := ?vvd4_6_7) rfl (by kernel_rfl) (by kernel_rfl) (by kernel_rfl) (by kernel_rfl) (fun _ _ _ h => h) (fun _ => (T4.out _ HB.out K7.out)) (by rfl) ?hhd4_6_7 ?rrd4_6_7
  case hhd4_6_7 => (intro W; go_simp; try with_reducible rfl)
  (try simp only [Act.put, List.setIfInBounds_toArray, List.set_cons_zero, List.set_cons_succ])
  refine wpAnyL_any (i := 7) (oi := ⟨some 47, _, _, _, _, _⟩) (v := ?vvd4_7_8) rfl (by kernel_rfl) (by kernel_rfl) (by kernel_rfl) (by kernel_rfl) (fun _ _ _ h => h) (fun _ => (T4.out _ HB.out K7.out)) (by rfl) ?hhd4_7_8 ?rrd4_7_8
  case hhd4_7_8 => (intro W; go_simp; try with_reducible rfl)
  (try simp only [Act.put, List.setIfInBounds_toArray, List.set_cons_zero, List.set_cons_succ])
  refine wpAnyL_any (i := 8) (oi := ⟨some 48, _, _, _, _, _⟩) (v := ?vvd4_8_9) rfl (by kernel_rfl) (by kernel_rfl) (by kernel_rfl) (by kernel_rfl) (fun _ _ _ h => h) (fun _ => (T4.out _ HB.out K7.out)) (by rfl) ?hhd4_8_9 ?rrd4_8_9
  case hhd4_8_9 => (intro W; go_simp; try with_reducible rfl)
  (try simp only [Act.put, List.setIfInBounds_toArray, List.set_cons_zero, List.set_cons_succ])
  refine wpAnyL_take (i := 9) (oi := ⟨some 49, _, _, _, _, _⟩) [11, 12, 13, 15, 16, 17, 18, 19, 20] (v := ?vvd4_9_10) rfl (by kernel_rfl) (by kernel_rfl) (by kernel_rfl) (by kernel_rfl) (fun _ _ _ h => h) (T4.out _ HB.out K7.out) (by rfl) ?hhd4_9_10 ?rrd4_9_10
  case hhd4_9_10 => (intro W hW; obtain ⟨k7, k6, m0, m1, m2, m3, m4, m5, m6, c0, c1, c2, c3⟩ := hW; go_simp; try with_reducible rfl)
  (try simp only [Act.put, List.setIfInBounds_toArray, List.set_cons_zero, List.set_cons_succ])
  refine wpAnyL_any (i := 10) (oi := ⟨some 50, _, _, _, _, _⟩) (v := ?vvd4_10_11) rfl (by kernel_rfl) (by kernel_rfl) (by kernel_rfl) (by kernel_rfl) (fun _ _ _ h => h) (fun _ => (T4.out _ HB.out K7.out)) (by rfl) ?hhd4_10_11 ?rrd4_10_11
  case hhd4_10_11 => (intro W; go_simp; try with_reducible rfl)
  (try simp only [Act.put, List.setIfInBounds_toArray, List.set_cons_zero, List.set_cons_succ])
  refine wpAnyL_any (i := 11) (oi := ⟨some 51, _, _, _, _, _⟩) (v := ?vvd4_11_12) rfl (by kernel_rfl) (by kernel_rfl) (by kernel_rfl) (by kernel_rfl) (fun _ _ _ h => h) (fun _ => (T4.out _ HB.out K7.out)) (by rfl) ?hhd4_11_12 ?rrd4_11_12
  case hhd4_11_12 => (intro W; go_simp; try with_reducible rfl)
  (try simp only [Act.put, List.setIfInBounds_toArray, List.set_cons_zero, List.set_cons_succ])
  refine wpAnyL_take (i := 12) (oi := ⟨some 52, _, _, _, _, _⟩) [13, 15, 16, 17, 18, 19, 20] (v := ?vvd4_12_13) rfl (by kernel_rfl) (by kernel_rfl) (by kernel_rfl) (by kernel_rfl) (fun _ _ _ h => h) (T4.out _ HB.out K7.out) (by rfl) ?hhd4_12_13 ?rrd4_12_13
  case hhd4_12_13 => (intro W hW; obtain ⟨k7, k6, m0, m1, m2, m3, m4, m5, m6, c0, c1, c2, c3⟩ := hW; go_simp; try with_reducible rfl)
  (try simp only [Act.put, List.setIfInBounds_toArray, List.set_cons_zero, List.set_cons_succ])
  refine wpAnyL_take (i := 14) (oi := ⟨some 54, _, _, _, _, _⟩) [15, 16, 17, 18, 19, 20] (v := ?vvd4_14_14) rfl (by kernel_rfl) (by kernel_rfl) (by kernel_rfl) (by kernel_rfl) (fun _ _ _ h => h) (T4.out _ HB.out K7.out) (by rfl) ?hhd4_14_14 ?rrd4_14_14
  case hhd4_14_14 => (intro W hW; obtain ⟨k7, k6, m0, m1, m2, m3, m4, m5, m6, c0, c1, c2, c3⟩ := hW; go_simp; try with_reducible rfl)
  (try simp only [Act.put, List.setIfInBounds_toArray, List.set_cons_zero, List.set_cons_succ])
  refine wpAnyL_one (i := 13) (oi := ⟨some 53, _, _, _, _, _⟩) rfl (by kernel_rfl) (fun K hK => ?_)
  refine step_call _ (by rfl) 48 _ (by go_simp) (NX.out _ HB.out) ?_
  rintro e v4_13 ⟨rfl, hb⟩
  refine ⟨_, rfl, ?_⟩
  replace K6 := hide (K6.out.below hb K6.out.lt)
  replace K7 := hide (K7.out.below hb K7.out.lt)
  replace HI := hide (HI.out.below hb)
  replace HT := hide (HT.out.below hb)
  replace HB := hide (HB.out.trans (hb.mono HB.out.size))
  clear hb
  refine hK.out _ _ (fun _ => (T4.out _ HB.out K7.out)) ?_
  clear hK K
  (try simp only [Act.put, List.setIfInBounds_toArray, List.set_cons_zero, List.set_cons_succ])
  refine wpAnyL_one (i := 15) (oi := ⟨some 55, _, _, _, _, _⟩) rfl (by kernel_rfl) (fun K hK => ?_)
  refine step_call _ (by rfl) 49 _ (by go_simp) (mitem_any _ i a va ya false none 0 0) ?_
  rintro e v4_13_15 ⟨rfl, hb⟩
  refine ⟨_, rfl, ?_⟩
  replace K6 := hide (K6.out.below hb K6.out.lt)
  replace K7 := hide (K7.out.below hb K7.out.lt)
  replace HI := hide (HI.out.below hb)
  replace HT := hide (HT.out.below hb)
  replace HB := hide (HB.out.trans (hb.mono HB.out.size))
  clear hb
  refine hK.out _ _ (fun _ => (T4.out _ HB.out K7.out)) ?_
  clear hK K
  (try simp only [Act.put, List.setIfInBounds_toArray, List.set_cons_zero, List.set_cons_succ])
  refine wpAnyL_one (i := 16) (oi := ⟨some 56, _, _, _, _, _⟩) rfl (by kernel_rfl) (fun K hK => ?_)
  go_simp
  have KE := hide (Bk.new v4_13_15 58 #[.int .i64 i, .int .i64 a.k, .int .i64 a.a, .int .u64 a.o, .int .u64 a.n, .int .i64 0, .int .u64 va, .bool ya])
  have hb := below_new v4_13_15 (.cells #[.int .i64 i, .int .i64 a.k, .int .i64 a.a, .int .u64 a.o, .int .u64 a.n, .int .i64 0, .int .u64 va, .bool ya] 58)
  replace K6 := hide (K6.out.below hb K6.out.lt)
  replace K7 := hide (K7.out.below hb K7.out.lt)
  replace HI := hide (HI.out.below hb)
  replace HT := hide (HT.out.below hb)
  replace HB := hide (HB.out.trans (hb.mono HB.out.size))
  clear hb
  generalize (World.alloc v4_13_15 (.cells #[.int .i64 i, .int .i64 a.k, .int .i64 a.a, .int .u64 a.o, .int .u64 a.n, .int .i64 0, .int .u64 va, .bool ya] 58)) = v4_13_15_16 at *
  generalize (v4_13_15).heap.size = gE at *
  have HR := hide (HH.out.below HB.out)
  refine hK.out _ _ (fun _ => (T4.out _ HB.out K7.out)) ?_
  clear hK K
  (try simp only [Act.put, List.setIfInBounds_toArray, List.set_cons_zero, List.set_cons_succ])
  refine wpAnyL_one (i := 17) (oi := ⟨some 57, _, _, _, _, _⟩) rfl (by kernel_rfl) (fun K hK => ?_)
  refine step_push3 v4_13_15_16 (by rfl) (.tmp 44) (.tmp 56) _ (by rfl) base 58 ti _ 8 64 Tryz.underlying35 hti htz htsz htby (by rfl) (by decide) _ _ _ (by rfl) HR.out.rT [.int .i64 i, .int .i64 a.k, .int .i64 a.a, .int .u64 a.o, .int .u64 a.n, .int .i64 0, .int .u64 va, .bool ya] ⟨gE, 0, none⟩ (by rfl) (cells_bkR KE.out) (by rfl) (by simp [Value.oneCell']) (by omega) (by omega) HR.out.base_le ?_
  intro vT2 v4_13_15_16_17 hown hg hv
  obtain ⟨TA, TC, rfl, -⟩ := own_form hown
  have kk : ∀ T, T ≠ 58 → Kp v4_13_15_16 v4_13_15_16_17 T := fun T hne => kp_oth hg (Oth.own HR.out.rT hne)
  replace K6 := hide (kk 33 (by decide) _ _ K6.out)
  replace K7 := hide (kk 86 (by decide) _ _ K7.out)
  replace HI := hide (HI.out.kp HT.out (kk _ (by decide)))
  replace HT := hide (HT.out.kp (kk _ (by decide)))
  have BB := hide (own_below HR.out.rT hg (Nat.le_refl _) HR.out.base_le)
  have HR2 := hide (HR.out.pushT ⟨i, a, va, ya⟩ (.slice TA (st.tr.length + 1) TC) hown hg)
  have bkR := hide (kk 37 (by decide) _ _ HR.out.bk)
  clear kk hown hg hv KE HR
  refine hK.out _ _ (fun h => by first | cases h | simp at h) ?_
  clear hK K
  (try simp only [Act.put, List.setIfInBounds_toArray, List.set_cons_zero, List.set_cons_succ])
  refine wpAnyL_any (i := 18) (oi := ⟨some 58, _, _, _, _, _⟩) (v := ?vvd4_18_15) rfl (by kernel_rfl) (by kernel_rfl) (by kernel_rfl) (by kernel_rfl) (fun _ _ _ h => h) (fun h => by first | cases h | simp at h) (by rfl) ?hhd4_18_15 ?rrd4_18_15
  case hhd4_18_15 => (intro W; go_simp; try with_reducible rfl)
  (try simp only [Act.put, List.setIfInBounds_toArray, List.set_cons_zero, List.set_cons_succ])
  refine wpAnyL_any (i := 19) (oi := ⟨some 59, _, _, _, _, _⟩) (v := ?vvd4_19_16) rfl (by kernel_rfl) (by kernel_rfl) (by kernel_rfl) (by kernel_rfl) (fun _ _ _ h => h) (fun h => by first | cases h | simp at h) (by rfl) ?hhd4_19_16 ?rrd4_19_16
  case hhd4_19_16 => (intro W; go_simp; try with_reducible rfl)
  (try simp only [Act.put, List.setIfInBounds_toArray, List.set_cons_zero, List.set_cons_succ])
  refine wpAnyL_one (i := 20) (oi := ⟨none, _, _, _, _, _⟩) rfl (by kernel_rfl) (fun K hK => ?_)
  have bkr := bkR.out
  rw [Hr.cells] at bkr
  obtain ⟨-, -, -, -, -, -, -, k7, -, kf⟩ := bk9 bkr
  go_simp
  clear k7 kf bkr
  have hs : Below base w (World.setCell v4_13_15_16_17 ⟨G, 7, none⟩ (.slice TA (st.tr.length + 1) TC)) := ((HB.out.mono hbl).trans BB.out).setCell (p := ⟨G, 7, none⟩) HR2.out.hG (.slice TA (st.tr.length + 1) TC)
  have kk : ∀ T, T ≠ 37 → Kp v4_13_15_16_17 (World.setCell v4_13_15_16_17 ⟨G, 7, none⟩ (.slice TA (st.tr.length + 1) TC)) T := fun T hne => kp_set bkR.out hne 7 (.slice TA (st.tr.length + 1) TC)
  replace K6 := hide (kk 33 (by decide) _ _ K6.out)
  replace K7 := hide (kk 86 (by decide) _ _ K7.out)
  replace HI := hide (HI.out.kp HT.out (kk _ (by decide)))
  replace HT := hide (HT.out.kp (kk _ (by decide)))
  have HS := hide hs
  clear kk hs bkR BB
  generalize (World.setCell v4_13_15_16_17 ⟨G, 7, none⟩ (.slice TA (st.tr.length + 1) TC)) = v4_13_15_16_17_20 at *
  refine hK.out _ _ (fun h => by first | cases h | simp at h) ?_
  clear hK K
  (try simp only [Act.put, List.setIfInBounds_toArray, List.set_cons_zero, List.set_cons_succ])
  refine wpAnyL_done (by kernel_rfl) ?_ _

  clear T4 NX
  obtain ⟨w4, hw4⟩ : ∃ q, q = v4_13_15_16_17_20 := ⟨_, rfl⟩
  subst hw4
  go_upto_region 5 with fail
  have HR := HR2
  clear HR2
  have T5 := hide (fun (W : World) (hR : RgH W base G { h with vT := .slice TA (st.tr.length + 1) TC } { st with tr := st.tr ++ [⟨i, a, va, ya⟩] }) => show W.cell? ⟨G, 8, none⟩ = some h.vP ∧ W.cell? ⟨G, 3, none⟩ = some (.slice h.MA h.mn h.mc) ∧ W.cell? ⟨G, 4, none⟩ = some (.slice h.LA h.ln h.lc) ∧ W.cell? ⟨G, 5, none⟩ = some (.int .i64 h.tk) from
    ⟨hR.bk.cell 8, hR.bk.cell 3, hR.bk.cell 4, hR.bk.cell 5⟩)
  refine wp_region_L (fun W => W.cell? ⟨G, 8, none⟩ = some h.vP ∧ W.cell? ⟨G, 3, none⟩ = some (.slice h.MA h.mn h.mc) ∧ W.cell? ⟨G, 4, none⟩ = some (.slice h.LA h.ln h.lc) ∧ W.cell? ⟨G, 5, none⟩ = some (.int .i64 h.tk)) 10 (by kernel_rfl) ?_
  replace HS := hide (HS.out.trans ((Below.refl w4.heap.size w4).drew.mono HR.out.base_le))
  replace HR := hide (HR.out.below (Below.refl w4.heap.size w4).drew)
  replace K6 := hide (K6.out.below (Below.refl w4.heap.size w4).drew K6.out.lt)
  replace K7 := hide (K7.out.below (Below.refl w4.heap.size w4).drew K7.out.lt)
  replace HI := hide (HI.out.below (Below.refl w4.heap.size w4).drew)
  replace HT := hide (HT.out.below (Below.refl w4.heap.size w4).drew)
  generalize w4.drew = yd at *
  refine wpAnyL_any (i := 0) (oi := ⟨some 60, _, _, _, _, _⟩) (v := ?vvd5_0_1) rfl (by kernel_rfl) (by kernel_rfl) (by kernel_rfl) (by kernel_rfl) (fun _ _ _ h => h) (fun _ => (T5.out _ HR.out)) (by rfl) ?hhd5_0_1 ?rrd5_0_1
  case hhd5_0_1 => (intro W; go_simp; try with_reducible rfl)
  (try simp only [Act.put, List.setIfInBounds_toArray, List.set_cons_zero, List.set_cons_succ])
  refine wpAnyL_any (i := 1) (oi := ⟨some 61, _, _, _, _, _⟩) (v := ?vvd5_1_2) rfl (by kernel_rfl) (by kernel_rfl) (by kernel_rfl) (by kernel_rfl) (fun _ _ _ h => h) (fun _ => (T5.out _ HR.out)) (by rfl) ?hhd5_1_2 ?rrd5_1_2
  case hhd5_1_2 => (intro W; go_simp; try with_reducible rfl)
  (try simp only [Act.put, List.setIfInBounds_toArray, List.set_cons_zero, List.set_cons_succ])
  refine wpAnyL_any (i := 2) (oi := ⟨some 62, _, _, _, _, _⟩) (v := ?vvd5_2_3) rfl (by kernel_rfl) (by kernel_rfl) (by kernel_rfl) (by kernel_rfl) (fun _ _ _ h => h) (fun _ => (T5.out _ HR.out)) (by rfl) ?hhd5_2_3 ?rrd5_2_3
  case hhd5_2_3 => (intro W; go_simp; try with_reducible rfl)
  (try simp only [Act.put, List.setIfInBounds_toArray, List.set_cons_zero, List.set_cons_succ])
  refine wpAnyL_any (i := 3) (oi := ⟨some 63, _, _, _, _, _⟩) (v := ?vvd5_3_4) rfl (by kernel_rfl) (by kernel_rfl) (by kernel_rfl) (by kernel_rfl) (fun _ _ _ h => h) (fun _ => (T5.out _ HR.out)) (by rfl) ?hhd5_3_4 ?rrd5_3_4
  case hhd5_3_4 => (intro W; go_simp; try with_reducible rfl)
  (try simp only [Act.put, List.setIfInBounds_toArray, List.set_cons_zero, List.set_cons_succ])
  refine wpAnyL_take (i := 4) (oi := ⟨some 64, _, _, _, _, _⟩) [10, 11, 12, 13] (v := ?vvd5_4_5) rfl (by kernel_rfl) (by kernel_rfl) (by kernel_rfl) (by kernel_rfl) (fun _ _ _ h => h) (T5.out _ HR.out) (by rfl) ?hhd5_4_5 ?rrd5_4_5
  case hhd5_4_5 => (intro W hW; obtain ⟨k8, k3, k4, k5⟩ := hW; go_simp; try with_reducible rfl)
  (try simp only [Act.put, List.setIfInBounds_toArray, List.set_cons_zero, List.set_cons_succ])
  refine wpAnyL_any (i := 5) (oi := ⟨some 65, _, _, _, _, _⟩) (v := ?vvd5_5_6) rfl (by kernel_rfl) (by kernel_rfl) (by kernel_rfl) (by kernel_rfl) (fun _ _ _ h => h) (fun _ => (T5.out _ HR.out)) (by rfl) ?hhd5_5_6 ?rrd5_5_6
  case hhd5_5_6 => (intro W; go_simp; try with_reducible rfl)
  (try simp only [Act.put, List.setIfInBounds_toArray, List.set_cons_zero, List.set_cons_succ])
  refine wpAnyL_any (i := 6) (oi := ⟨some 66, _, _, _, _, _⟩) (v := ?vvd5_6_7) rfl (by kernel_rfl) (by kernel_rfl) (by kernel_rfl) (by kernel_rfl) (fun _ _ _ h => h) (fun _ => (T5.out _ HR.out)) (by rfl) ?hhd5_6_7 ?rrd5_6_7
  case hhd5_6_7 => (intro W; go_simp; try with_reducible rfl)
  (try simp only [Act.put, List.setIfInBounds_toArray, List.set_cons_zero, List.set_cons_succ])
  refine wpAnyL_any (i := 7) (oi := ⟨some 67, _, _, _, _, _⟩) (v := ?vvd5_7_8) rfl (by kernel_rfl) (by kernel_rfl) (by kernel_rfl) (by kernel_rfl) (fun _ _ _ h => h) (fun _ => (T5.out _ HR.out)) (by rfl) ?hhd5_7_8 ?rrd5_7_8
  case hhd5_7_8 => (intro W; go_simp; try with_reducible rfl)
  (try simp only [Act.put, List.setIfInBounds_toArray, List.set_cons_zero, List.set_cons_succ])
  refine wpAnyL_take (i := 8) (oi := ⟨some 68, _, _, _, _, _⟩) [9, 10, 11, 12, 13] (v := ?vvd5_8_9) rfl (by kernel_rfl) (by kernel_rfl) (by kernel_rfl) (by kernel_rfl) (fun _ _ _ h => h) (T5.out _ HR.out) (by rfl) ?hhd5_8_9 ?rrd5_8_9
  case hhd5_8_9 => (intro W hW; obtain ⟨k8, k3, k4, k5⟩ := hW; go_simp; try with_reducible rfl)
  (try simp only [Act.put, List.setIfInBounds_toArray, List.set_cons_zero, List.set_cons_succ])
  refine wpAnyL_one (i := 9) (oi := ⟨some 69, _, _, _, _, _⟩) rfl (by kernel_rfl) (fun K hK => ?_)
  go_simp
  have KE := hide (Bk.new yd 33 #[.slice h.MA h.mn h.mc, .slice h.LA h.ln h.lc, .int .i64 h.tk])
  have hb := below_new yd (.cells #[.slice h.MA h.mn h.mc, .slice h.LA h.ln h.lc, .int .i64 h.tk] 33)
  replace K6 := hide (K6.out.below hb K6.out.lt)
  replace K7 := hide (K7.out.below hb K7.out.lt)
  replace HI := hide (HI.out.below hb)
  replace HT := hide (HT.out.below hb)
  replace HS := hide (HS.out.trans (hb.mono HR.out.base_le))
  replace HR := hide (HR.out.below hb)
  clear hb
  generalize (World.alloc yd (.cells #[.slice h.MA h.mn h.mc, .slice h.LA h.ln h.lc, .int .i64 h.tk] 33)) = v5_9 at *
  generalize (yd).heap.size = gE at *
  refine hK.out _ _ (fun _ => (T5.out _ HR.out)) ?_
  clear hK K
  (try simp only [Act.put, List.setIfInBounds_toArray, List.set_cons_zero, List.set_cons_succ])
  refine wpAnyL_one (i := 10) (oi := ⟨some 70, _, _, _, _, _⟩) rfl (by kernel_rfl) (fun K hK => ?_)
  have rP : World.ownsRow v5_9 base 33 3 h.vP h.ps.length (h.ps.flatMap Array.toList) := HR.out.rP
  refine step_push3 v5_9 (by rfl) (.tmp 64) (.tmp 69) _ (by rfl) base 33 mi0 _ 3 56 Tryz.underlying26 hmi hmz hmsz hmby (by rfl) (by decide) _ _ _ (by rfl) rP [.slice h.MA h.mn h.mc, .slice h.LA h.ln h.lc, .int .i64 h.tk] ⟨gE, 0, none⟩ (by rfl) (cells_bkR KE.out) (by rfl) (by simp [Value.oneCell']) (by have := HPS.out; omega) (by omega) HR.out.base_le ?_
  intro vP2 v5_9_10 hown hg hv
  obtain ⟨PA, PC, rfl, -⟩ := own_form hown
  have kk : ∀ T, T ≠ 33 → Kp v5_9 v5_9_10 T := fun T hne => kp_oth hg (Oth.own rP hne)
  replace K6 := hide (K6.out.grown hg (fun e => HP6.out e.symm))
  replace K7 := hide (kk 86 (by decide) _ _ K7.out)
  replace HI := hide (HI.out.kp HT.out (kk _ (by decide)))
  replace HT := hide (HT.out.kp (kk _ (by decide)))
  have BB := hide (own_below rP hg (Nat.le_refl _) HR.out.base_le)
  have HR2 := hide (HR.out.pushP #[.slice h.MA h.mn h.mc, .slice h.LA h.ln h.lc, .int .i64 h.tk] st.ws ⟨_, _, _, _, _, _, _, rfl, HR.out.mi, HR.out.mty, HR.out.mn⟩ (.slice PA (h.ps.length + 1) PC) hown hg)
  have bkR := hide (kk 37 (by decide) _ _ HR.out.bk)
  clear kk hown hg hv KE HR rP
  refine hK.out _ _ (fun h => by first | cases h | simp at h) ?_
  clear hK K
  (try simp only [Act.put, List.setIfInBounds_toArray, List.set_cons_zero, List.set_cons_succ])
  refine wpAnyL_any (i := 11) (oi := ⟨some 71, _, _, _, _, _⟩) (v := ?vvd5_11_10) rfl (by kernel_rfl) (by kernel_rfl) (by kernel_rfl) (by kernel_rfl) (fun _ _ _ h => h) (fun h => by first | cases h | simp at h) (by rfl) ?hhd5_11_10 ?rrd5_11_10
  case hhd5_11_10 => (intro W; go_simp; try with_reducible rfl)
  (try simp only [Act.put, List.setIfInBounds_toArray, List.set_cons_zero, List.set_cons_succ])
  refine wpAnyL_any (i := 12) (oi := ⟨some 72, _, _, _, _, _⟩) (v := ?vvd5_12_11) rfl (by kernel_rfl) (by kernel_rfl) (by kernel_rfl) (by kernel_rfl) (fun _ _ _ h => h) (fun h => by first | cases h | simp at h) (by rfl) ?hhd5_12_11 ?rrd5_12_11
  case hhd5_12_11 => (intro W; go_simp; try with_reducible rfl)
  (try simp only [Act.put, List.setIfInBounds_toArray, List.set_cons_zero, List.set_cons_succ])
  refine wpAnyL_one (i := 13) (oi := ⟨none, _, _, _, _, _⟩) rfl (by kernel_rfl) (fun K hK => ?_)
  have bkr := bkR.out
  rw [Hr.cells] at bkr
  obtain ⟨-, -, -, -, -, -, -, -, k8, kf⟩ := bk9 bkr
  go_simp
  clear k8 kf bkr
  have hs : Below base w (World.setCell v5_9_10 ⟨G, 8, none⟩ (.slice PA (h.ps.length + 1) PC)) := (HS.out.trans BB.out).setCell (p := ⟨G, 8, none⟩) HR2.out.hG (.slice PA (h.ps.length + 1) PC)
  have kk : ∀ T, T ≠ 37 → Kp v5_9_10 (World.setCell v5_9_10 ⟨G, 8, none⟩ (.slice PA (h.ps.length + 1) PC)) T := fun T hne => kp_set bkR.out hne 8 (.slice PA (h.ps.length + 1) PC)
  replace K6 := hide (kk 33 (by decide) _ _ K6.out)
  replace K7 := hide (kk 86 (by decide) _ _ K7.out)
  replace HI := hide (HI.out.kp HT.out (kk _ (by decide)))
  replace HT := hide (HT.out.kp (kk _ (by decide)))
  replace HS := hide hs
  clear kk hs bkR BB
  generalize (World.setCell v5_9_10 ⟨G, 8, none⟩ (.slice PA (h.ps.length + 1) PC)) = v5_9_10_13 at *
  refine hK.out _ _ (fun h => by first | cases h | simp at h) ?_
  clear hK K
  (try simp only [Act.put, List.setIfInBounds_toArray, List.set_cons_zero, List.set_cons_succ])
  refine wpAnyL_done (by kernel_rfl) ?_ _

  clear T5
  obtain ⟨w5, hw5⟩ : ∃ q, q = v5_9_10_13 := ⟨_, rfl⟩
  subst hw5
  go_upto_region 6 with fail
  have HR := HR2
  clear HR2
  have bkr := HR.out.bk
  rw [Hr.cells] at bkr
  obtain ⟨-, -, -, k3, k4, k5, -, -, -, kf⟩ := bk9 bkr
  obtain ⟨c0, c1, c2, cf⟩ := bkm3 K6.out
  have BKR := hide bkr
  clear bkr
  go_upto_region 7 with fail
  clear k3 k4 k5 kf c0 c1 c2 cf
  have K7b : Hid (Bk (((w5.setCell ⟨G, 3, none⟩ (.slice A' h.mn c')).setCell ⟨G, 4, none⟩ (.slice h.LA h.ln h.lc)).setCell ⟨G, 5, none⟩ (.int .i64 h.tk)) g7 86 #[.int .u64 va, .bool ya, .bool false, .slice none 0 0]) := hide (kp_sets (T := 86) (by decide) [.slice A' h.mn c', .slice h.LA h.ln h.lc, .int .i64 h.tk] 3 BKR.out _ _ K7.out)
  have HR3 : Hid (RgH (((w5.setCell ⟨G, 3, none⟩ (.slice A' h.mn c')).setCell ⟨G, 4, none⟩ (.slice h.LA h.ln h.lc)).setCell ⟨G, 5, none⟩ (.int .i64 h.tk)) base G _ _) := hide (HR.out.setM HI.out HT.out HH.out.mn h.LA h.ln h.lc h.tk)
  have HS3 : Hid (Below base w (((w5.setCell ⟨G, 3, none⟩ (.slice A' h.mn c')).setCell ⟨G, 4, none⟩ (.slice h.LA h.ln h.lc)).setCell ⟨G, 5, none⟩ (.int .i64 h.tk))) := hide (below_setCells [.slice A' h.mn c', .slice h.LA h.ln h.lc, .int .i64 h.tk] 3 HS.out HR.out.hG)
  clear K7 HR HS BKR K6 HI HT
  generalize (((w5.setCell ⟨G, 3, none⟩ (.slice A' h.mn c')).setCell ⟨G, 4, none⟩ (.slice h.LA h.ln h.lc)).setCell ⟨G, 5, none⟩ (.int .i64 h.tk)) = w6 at *
  have K7 := hide (K7b.out.below (Below.refl w6.heap.size w6).drew K7b.out.lt)
  have HS := hide (HS3.out.trans ((Below.refl w6.heap.size w6).drew.mono HR3.out.base_le))
  have HR := hide (HR3.out.below (Below.refl w6.heap.size w6).drew)
  clear K7b HS3 HR3
  have EL2 : Hid (h.vL = .slice (some ⟨gL, 0, none⟩) h.ls.length cL) := hide (by rw [EL.out])
  have XW := hide (show (mres st.l x va ya).what = wh by rw [mres_what]; exact HWH.out)
  have RS := hide (fun (W : World) (hM : Mq W st.l #[.int .i64 wh, .int .u64 val, .int .i64 code, .int .i64 pc, .slice FA fn fc, .slice FB fm fd, .slice none 0 0] x) => mq_resume W st.l _ x hM II.out.cap MV.out va ya false none 0 0 HMU.out)
  have T7 := hide (fun (W : World) (hR : RgH W base G { h with MA := A', mn := h.mn, mc := c', LA := h.LA, ln := h.ln, lc := h.lc, tk := h.tk, vT := .slice TA (st.tr.length + 1) TC, vP := .slice PA (h.ps.length + 1) PC, ps := h.ps ++ [#[.slice h.MA h.mn h.mc, .slice h.LA h.ln h.lc, .int .i64 h.tk]] } { st with tr := st.tr ++ [⟨i, a, va, ya⟩], pa := st.pa ++ [st.ws], ws := ws' }) (hK : Bk W g7 86 #[.int .u64 va, .bool ya, .bool false, .slice none 0 0]) => show W.cell? ⟨G, 6, none⟩ = some (.slice (some ⟨gL, 0, none⟩) ls0 cL) ∧ W.cell? ⟨gL, i * 7, none⟩ = some (.int .i64 wh) ∧ W.cell? ⟨gL, i * 7 + 1, none⟩ = some (.int .u64 val) ∧ W.cell? ⟨gL, i * 7 + 2, none⟩ = some (.int .i64 code) ∧ W.cell? ⟨gL, i * 7 + 3, none⟩ = some (.int .i64 pc) ∧ W.cell? ⟨gL, i * 7 + 4, none⟩ = some (.slice FA fn fc) ∧ W.cell? ⟨gL, i * 7 + 5, none⟩ = some (.slice FB fm fd) ∧ W.cell? ⟨gL, i * 7 + 6, none⟩ = some (.slice none 0 0) ∧ W.cell? ⟨g7, 0, none⟩ = some (.int .u64 va) ∧ W.cell? ⟨g7, 1, none⟩ = some (.bool ya) ∧ W.cell? ⟨g7, 2, none⟩ = some (.bool false) ∧ W.cell? ⟨g7, 3, none⟩ = some (.slice none 0 0) from by
    have r0 : W.ownsRow base 53 7 h.vL h.ls.length (h.ls.flatMap Array.toList) := hR.rL
    rw [EL2.out] at r0
    have rg := own_rangeA hR.lsz r0 HCS.out
    obtain ⟨y0, y1, y2, y3, y4, y5, y6⟩ := rg7 (a0 := .int .i64 wh) (a1 := .int .u64 val) (a2 := .int .i64 code) (a3 := .int .i64 pc) (a4 := .slice FA fn fc) (a5 := .slice FB fm fd) (a6 := .slice none 0 0) rg
    obtain ⟨z0, z1, z2, z3, -⟩ := bk4 hK
    have x6 : W.cell? ⟨G, 6, none⟩ = some h.vL := hR.bk.cell 6
    rw [EL2.out, HLS.out] at x6
    exact ⟨x6, y0, y1, y2, y3, y4, y5, y6, z0, z1, z2, z3⟩)
  refine wp_region_L (fun W => W.cell? ⟨G, 6, none⟩ = some (.slice (some ⟨gL, 0, none⟩) ls0 cL) ∧ W.cell? ⟨gL, i * 7, none⟩ = some (.int .i64 wh) ∧ W.cell? ⟨gL, i * 7 + 1, none⟩ = some (.int .u64 val) ∧ W.cell? ⟨gL, i * 7 + 2, none⟩ = some (.int .i64 code) ∧ W.cell? ⟨gL, i * 7 + 3, none⟩ = some (.int .i64 pc) ∧ W.cell? ⟨gL, i * 7 + 4, none⟩ = some (.slice FA fn fc) ∧ W.cell? ⟨gL, i * 7 + 5, none⟩ = some (.slice FB fm fd) ∧ W.cell? ⟨gL, i * 7 + 6, none⟩ = some (.slice none 0 0) ∧ W.cell? ⟨g7, 0, none⟩ = some (.int .u64 va) ∧ W.cell? ⟨g7, 1, none⟩ = some (.bool ya) ∧ W.cell? ⟨g7, 2, none⟩ = some (.bool false) ∧ W.cell? ⟨g7, 3, none⟩ = some (.slice none 0 0)) 15 (by kernel_rfl) ?_
  generalize w6.drew = yd at *
  refine wpAnyL_any (i := 0) (oi := ⟨some 77, _, _, _, _, _⟩) (v := ?vvd7_0_1) rfl (by kernel_rfl) (by kernel_rfl) (by kernel_rfl) (by kernel_rfl) (fun _ _ _ h => h) (fun _ => (T7.out _ HR.out K7.out)) (by rfl) ?hhd7_0_1 ?rrd7_0_1
  case hhd7_0_1 => (intro W; go_simp; try with_reducible rfl)
  (try simp only [Act.put, List.setIfInBounds_toArray, List.set_cons_zero, List.set_cons_succ])
  refine wpAnyL_any (i := 1) (oi := ⟨some 78, _, _, _, _, _⟩) (v := ?vvd7_1_2) rfl (by kernel_rfl) (by kernel_rfl) (by kernel_rfl) (by kernel_rfl) (fun _ _ _ h => h) (fun _ => (T7.out _ HR.out K7.out)) (by rfl) ?hhd7_1_2 ?rrd7_1_2
  case hhd7_1_2 => (intro W; go_simp; try with_reducible rfl)
  (try simp only [Act.put, List.setIfInBounds_toArray, List.set_cons_zero, List.set_cons_succ])
  refine wpAnyL_any (i := 2) (oi := ⟨some 79, _, _, _, _, _⟩) (v := ?vvd7_2_3) rfl (by kernel_rfl) (by kernel_rfl) (by kernel_rfl) (by kernel_rfl) (fun _ _ _ h => h) (fun _ => (T7.out _ HR.out K7.out)) (by rfl) ?hhd7_2_3 ?rrd7_2_3
  case hhd7_2_3 => (intro W; go_simp; try with_reducible rfl)
  (try simp only [Act.put, List.setIfInBounds_toArray, List.set_cons_zero, List.set_cons_succ])
  refine wpAnyL_take (i := 3) (oi := ⟨some 80, _, _, _, _, _⟩) [14, 15] (v := ?vvd7_3_4) rfl (by kernel_rfl) (by kernel_rfl) (by kernel_rfl) (by kernel_rfl) (fun _ _ _ h => h) (T7.out _ HR.out K7.out) (by rfl) ?hhd7_3_4 ?rrd7_3_4
  case hhd7_3_4 => (intro W hW; obtain ⟨k6, m0, m1, m2, m3, m4, m5, m6, c0, c1, c2, c3⟩ := hW; go_simp; try with_reducible rfl)
  (try simp only [Act.put, List.setIfInBounds_toArray, List.set_cons_zero, List.set_cons_succ])
  refine wpAnyL_any (i := 4) (oi := ⟨some 81, _, _, _, _, _⟩) (v := ?vvd7_4_5) rfl (by kernel_rfl) (by kernel_rfl) (by kernel_rfl) (by kernel_rfl) (fun _ _ _ h => h) (fun _ => (T7.out _ HR.out K7.out)) (by rfl) ?hhd7_4_5 ?rrd7_4_5
  case hhd7_4_5 => (intro W; go_simp; try with_reducible rfl)
  (try simp only [Act.put, List.setIfInBounds_toArray, List.set_cons_zero, List.set_cons_succ])
  refine wpAnyL_any (i := 5) (oi := ⟨some 82, _, _, _, _, _⟩) (v := ?vvd7_5_6) rfl (by kernel_rfl) (by kernel_rfl) (by kernel_rfl) (by kernel_rfl) (fun _ _ _ h => h) (fun _ => (T7.out _ HR.out K7.out)) (by rfl) ?hhd7_5_6 ?rrd7_5_6
  case hhd7_5_6 => (intro W; go_simp; try with_reducible rfl)
  (try simp only [Act.put, List.setIfInBounds_toArray, List.set_cons_zero, List.set_cons_succ])
  refine wpAnyL_any (i := 6) (oi := ⟨some 83, _, _, _, _, _⟩) (v := ?vvd7_6_7) rfl (by kernel_rfl) (by kernel_rfl) (by kernel_rfl) (by kernel_rfl) (fun _ _ _ h => h) (fun _ => (T7.out _ HR.out K7.out)) (by rfl) ?hhd7_6_7 ?rrd7_6_7
  case hhd7_6_7 => (intro W; go_simp; try with_reducible rfl)
  (try simp only [Act.put, List.setIfInBounds_toArray, List.set_cons_zero, List.set_cons_succ])
  refine wpAnyL_any (i := 7) (oi := ⟨some 84, _, _, _, _, _⟩) (v := ?vvd7_7_8) rfl (by kernel_rfl) (by kernel_rfl) (by kernel_rfl) (by kernel_rfl) (fun _ _ _ h => h) (fun _ => (T7.out _ HR.out K7.out)) (by rfl) ?hhd7_7_8 ?rrd7_7_8
  case hhd7_7_8 => (intro W; go_simp; try with_reducible rfl)
  (try simp only [Act.put, List.setIfInBounds_toArray, List.set_cons_zero, List.set_cons_succ])
  refine wpAnyL_take (i := 8) (oi := ⟨some 85, _, _, _, _, _⟩) [10, 11, 13, 14, 15] (v := ?vvd7_8_9) rfl (by kernel_rfl) (by kernel_rfl) (by kernel_rfl) (by kernel_rfl) (fun _ _ _ h => h) (T7.out _ HR.out K7.out) (by rfl) ?hhd7_8_9 ?rrd7_8_9
  case hhd7_8_9 => (intro W hW; obtain ⟨k6, m0, m1, m2, m3, m4, m5, m6, c0, c1, c2, c3⟩ := hW; go_simp; try with_reducible rfl)
  (try simp only [Act.put, List.setIfInBounds_toArray, List.set_cons_zero, List.set_cons_succ])
  refine wpAnyL_any (i := 9) (oi := ⟨some 86, _, _, _, _, _⟩) (v := ?vvd7_9_10) rfl (by kernel_rfl) (by kernel_rfl) (by kernel_rfl) (by kernel_rfl) (fun _ _ _ h => h) (fun _ => (T7.out _ HR.out K7.out)) (by rfl) ?hhd7_9_10 ?rrd7_9_10
  case hhd7_9_10 => (intro W; go_simp; try with_reducible rfl)
  (try simp only [Act.put, List.setIfInBounds_toArray, List.set_cons_zero, List.set_cons_succ])
  refine wpAnyL_any (i := 10) (oi := ⟨some 87, _, _, _, _, _⟩) (v := ?vvd7_10_11) rfl (by kernel_rfl) (by kernel_rfl) (by kernel_rfl) (by kernel_rfl) (fun _ _ _ h => h) (fun _ => (T7.out _ HR.out K7.out)) (by rfl) ?hhd7_10_11 ?rrd7_10_11
  case hhd7_10_11 => (intro W; go_simp; try with_reducible rfl)
  (try simp only [Act.put, List.setIfInBounds_toArray, List.set_cons_zero, List.set_cons_succ])
  refine wpAnyL_take (i := 11) (oi := ⟨some 88, _, _, _, _, _⟩) [13, 14, 15] (v := ?vvd7_11_12) rfl (by kernel_rfl) (by kernel_rfl) (by kernel_rfl) (by kernel_rfl) (fun _ _ _ h => h) (T7.out _ HR.out K7.out) (by rfl) ?hhd7_11_12 ?rrd7_11_12
  case hhd7_11_12 => (intro W hW; obtain ⟨k6, m0, m1, m2, m3, m4, m5, m6, c0, c1, c2, c3⟩ := hW; go_simp; try with_reducible rfl)
  (try simp only [Act.put, List.setIfInBounds_toArray, List.set_cons_zero, List.set_cons_succ])
  refine wpAnyL_take (i := 12) (oi := ⟨some 89, _, _, _, _, _⟩) [13, 14, 15] (v := ?vvd7_12_13) rfl (by kernel_rfl) (by kernel_rfl) (by kernel_rfl) (by kernel_rfl) (fun _ _ _ h => h) (T7.out _ HR.out K7.out) (by rfl) ?hhd7_12_13 ?rrd7_12_13
  case hhd7_12_13 => (intro W hW; obtain ⟨k6, m0, m1, m2, m3, m4, m5, m6, c0, c1, c2, c3⟩ := hW; go_simp; try with_reducible rfl)
  (try simp only [Act.put, List.setIfInBounds_toArray, List.set_cons_zero, List.set_cons_succ])
  refine wpAnyL_one (i := 13) (oi := ⟨some 90, _, _, _, _, _⟩) rfl (by kernel_rfl) (fun K hK => ?_)
  refine step_call _ (by rfl) 50 _ (by go_simp) (RS.out _ (HR.out.ml.2 i _ _ HCS.out HX.out)) ?_
  rintro e v7_13 ⟨cs2, rfl, hm2, hb⟩
  obtain ⟨val2, code2, pc2, FA2, fn2, fc2, FB2, fm2, fd2, q2, rfl, -, -⟩ := id hm2
  refine ⟨_, rfl, ?_⟩
  rw [XW.out] at hm2 ⊢
  unfold mqc at hm2 ⊢
  have MQ2 := hide hm2
  replace K7 := hide (K7.out.below hb K7.out.lt)
  replace HS := hide (HS.out.trans (hb.mono HR.out.base_le))
  replace HR := hide (HR.out.below hb)
  clear hb hm2
  refine hK.out _ _ (fun _ => (T7.out _ HR.out K7.out)) ?_
  clear hK K
  (try simp only [Act.put, List.setIfInBounds_toArray, List.set_cons_zero, List.set_cons_succ])
  refine wpAnyL_any (i := 14) (oi := ⟨some 91, _, _, _, _, _⟩) (v := ?vvd7_14_14) rfl (by kernel_rfl) (by kernel_rfl) (by kernel_rfl) (by kernel_rfl) (fun _ _ _ h => h) (fun _ => (T7.out _ HR.out K7.out)) (by rfl) ?hhd7_14_14 ?rrd7_14_14
  case hhd7_14_14 => (intro W; go_simp; try with_reducible rfl)
  (try simp only [Act.put, List.setIfInBounds_toArray, List.set_cons_zero, List.set_cons_succ])
  refine wpAnyL_one (i := 15) (oi := ⟨none, _, _, _, _, _⟩) rfl (by kernel_rfl) (fun K hK => ?_)
  obtain ⟨k6, m0, m1, m2, m3, m4, m5, m6, c0, c1, c2, c3⟩ := T7.out _ HR.out K7.out
  have kf := HR.out.frozL EL2.out
  go_simp
  clear k6 m0 m1 m2 m3 m4 m5 m6 c0 c1 c2 c3 kf
  have hfin := HR.out.setL (i := i) (x := mres st.l x va ya) EL2.out HIL.out MQ2.out
  have hsf : Below base w (World.setCells v7_13 gL (i * 7) [.int .i64 wh, .int .u64 val2, .int .i64 code2, .int .i64 pc2, .slice FA2 fn2 fc2, .slice FB2 fm2 fd2, .slice none 0 0]) := below_setCells _ _ HS.out hgL
  have HF := hide hfin
  have HSF := hide hsf
  clear hfin hsf
  refine hK.out _ _ (fun h => by first | cases h | simp at h) ?_
  clear hK K
  (try simp only [Act.put, List.setIfInBounds_toArray, List.set_cons_zero, List.set_cons_succ])
  refine wpAnyL_done (by kernel_rfl) ?_ _
  go_wp2
  refine bodyPost_end (v := .tuple #[]) (by simp [results, Tryz.results25, go_sem]) rfl ?_
  exact ⟨rfl, ⟨⟨_, by rw [ST.out]; exact HF.out⟩, IS.out⟩, HSF.out⟩

end Go.Proofs.YtepngbdjobckbaaGreat

