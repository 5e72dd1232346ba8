/- The walk of ClaimAccesses. -/
import Derived.Test.YtadaoobdnnleaaaW12a
namespace Go.Proofs.Ytadaoobdnnleaaa
open Go.RowKit
set_option linter.unusedVariables false
theorem cl_lt {l : List Int} {t tn : Nat} (hl : Cap l) (ht : t < tn) : clN l t + 10 < (totI l tn : Int) ∧ 0 ≤ clN l t ∧ totI l tn ≤ 100000 + 11 * tn := by
  have := hl.tl l.length (Nat.le_refl _)
  have h8 := hl.1
  unfold clN totI
  omega
set_option maxHeartbeats 4000000 in
set_option maxRecDepth 100000 in
theorem claimAccesses_walk (a0 : Option Addr) (len0 cap0 : Nat) (z0 : List Int) (a1 : Option Addr) (len1 cap1 : Nat) (z1 : List Int) (a2 a3 : Int) (w : World) (w0 : Row .u8 w a0 len0 cap0 z0) (w1 : Row .u8 w a1 len1 cap1 z1) (w2 : (Lit.int .u8 a2).wf = true) (w3 : (Lit.int .u64 a3).wf = true) :
    Calls Try.prog 6 #[.slice a0 len0 cap0, .slice a1 len1 cap1, .int .u8 a2, .int .u64 a3] w fun e w' => e = .returned (.bool true) ∧ Below w.heap.size w w' := by
  have hb2 := bounds_u8 w2
  have hb3 := bounds_u64 w3
  obtain ⟨hI1, hc1, hm1, hwf1⟩ := w0.isI
  obtain ⟨hI2, hc2, hm2, hwf2⟩ := w1.isI
  have H1 := hide hI1
  have HB1 := hide (show ∀ x ∈ z0.take len0, 0 ≤ x ∧ x ≤ 255 from fun x hx => bounds_u8 (hwf1 x hx))
  have H2 := hide hI2
  have HB2 := hide (show ∀ x ∈ z1.take len1, 0 ≤ x ∧ x ≤ 255 from fun x hx => bounds_u8 (hwf2 x hx))
  clear hwf1 w0 hI1 hwf2 w1 hI2 w2 w3
  generalize z0.take len0 = l0 at H1 HB1
  generalize z1.take len1 = l1 at H2 HB2
  have hcm1 : cap0 ≤ 9223372036854775807 := hm1
  have hcm2 : cap1 ≤ 9223372036854775807 := hm2
  have HAB := hide (show 0 < len1 → ∀ ad, a1 = some ad → ad.block < w.heap.size from fun h0 ad e => by
    obtain ⟨ad', e', _, hcl⟩ := H2.out.at_ h0
    rw [e] at e'
    cases e'
    have := block_lt hcl
    rwa [block_add] at this)
  obtain ⟨q6, hq6⟩ : ∃ q : Nat, a2 % 6 = q := Int.eq_ofNat_of_zero_le (Int.emod_nonneg _ (by omega))
  have hq6l : q6 < 6 := by omega
  have eT : a2.tmod 6 = (q6 : Int) := by rw [Int.tmod_eq_emod_of_nonneg hb2.1, hq6]
  have eW8 : IntKind.u8.wrap (q6 : Int) = (q6 : Int) := by simp [IntKind.wrap, IntKind.bits, IntKind.signed]; omega
  have eW64 : IntKind.u64.wrap (q6 : Int) = (q6 : Int) := by rw [wrap_u64]; omega
  have ET := hide eT
  have E8 := hide eW8
  have E64 := hide eW64
  have hu3 := hide (show u64 a3 from hb3)
  clear hm1 hm2 eT eW8 eW64 hq6 hb3
  go_enter Try.func6, Try.ntmps6
  go_wp2_with fail
  refine (awake12_any _).mono ?_
  rintro e y1 ⟨rfl, hb1⟩
  have hs1 := hb1.size
  go_wp2_with fail
  refine (new_any y1 _ _ _ _ 40 (H1.out.below hb1) HB1.out (by omega) hc1 hcm1).mono ?_
  rintro e y2 ⟨rfl, hcd, hb2'⟩
  have BW2 := hide (hb1.trans (hb2'.mono hs1))
  have CD2 := hide hcd
  clear hb1 hb2' hcd H1 HB1
  generalize hgC : y1.heap.size = gC at *
  clear hgC
  go_wp2_with fail
  refine (config_cf2 _ _ _ _ CD2.out).mono ?_
  rintro e y3 ⟨A, n, c, B, d, tn, l, s, r', rfl, hcf, hty, hsi, hn1, hn3, hst, ht2, ht4, hcd3, hg⟩
  have BW3 := hide (below_grownBy BW2.out hg (Nat.le_refl _) hs1)
  have CF := hide hcf
  have TY := hide hty
  have SI := hide hsi
  have SB := hide hst
  have CD3 := hide hcd3
  have hgC3 := hcd3.lt
  clear hcf hty hsi hst hcd3 hg CD2 BW2
  go_wp2_with fail
  refine (begin_any y3 A n c l B d s tn CF.out SI.out SB.out (by omega) (by omega)).mono ?_
  rintro e y4 ⟨gW, gL, rfl, hk, hgw, hb4⟩
  have hgCW : gC < gW := Nat.lt_of_lt_of_le hgC3 hgw
  have BW4 := hide (BW3.out.trans (hb4.mono BW3.out.size))
  have hgW : w.heap.size ≤ gW := Nat.le_trans BW3.out.size hgw
  have CD4 := hide (Cd.belowB CD3.out hb4 hgC3)
  have hgC4 : gC < y4.heap.size := Nat.lt_of_lt_of_le hgC3 hb4.size
  have hln : l.length = n := CF.out.len
  have HLN := hide hln
  have HCAP : Hid (Cap l) := hide ⟨by rw [hln]; exact CF.out.2.1, CF.out.2.2⟩
  have FW := hide (Fw.new (TW := 70) (gL := gL) (B := B) (d := d) (s := s) (c := c) (tn := tn) (gW := gW) y4 (CF.out.below hb4) (TY.out.below hb4) SB.out hk)
  have hgG : gW < y4.heap.size := hk.lt
  clear hk hgw hb4 BW3 CF TY CD3 SI hgC3 SB hln
  have hwG : w.heap.size ≤ y4.heap.size := BW4.out.size
  go_upto_region 5 with fail
  have CD5 := hide (Cd.belowB CD4.out (below_new y4 (.cells #[.slice A n c, .slice B n d, .int .i64 tn, .slice (some ⟨gW, 0, none⟩) (totI l tn) (totI l tn), .slice (some ⟨gL, 0, none⟩) (2 * n) (2 * n), .int .i64 0, .slice none 0 0, .slice none 0 0, .slice none 0 0, .slice none 0 0] 70)) hgC4)
  have BW5 := hide (BW4.out.trans ((below_new y4 (.cells #[.slice A n c, .slice B n d, .int .i64 tn, .slice (some ⟨gW, 0, none⟩) (totI l tn) (totI l tn), .slice (some ⟨gL, 0, none⟩) (2 * n) (2 * n), .int .i64 0, .slice none 0 0, .slice none 0 0, .slice none 0 0, .slice none 0 0] 70)).mono BW4.out.size))
  clear CD4 BW4
  generalize (y4.alloc (.cells #[.slice A n c, .slice B n d, .int .i64 tn, .slice (some ⟨gW, 0, none⟩) (totI l tn) (totI l tn), .slice (some ⟨gL, 0, none⟩) (2 * n) (2 * n), .int .i64 0, .slice none 0 0, .slice none 0 0, .slice none 0 0, .slice none 0 0] 70)) = y5 at *
  generalize y4.heap.size = G at *
  obtain ⟨t1, ht1⟩ := Int.eq_ofNat_of_zero_le (codeV_bd r' (tn : Int) (by omega)).1
  have ht1l := (codeV_bd r' (tn : Int) (by omega)).2
  rw [ht1] at ht1l
  have htt : t1 < tn := by omega
  have NT := hide (show Calls Try.prog 19 #[.pointer (some ⟨gC, 0, none⟩), .int .i64 tn] y5 fun e w' => e = .returned (.int .i64 (t1 : Nat)) ∧ Cd w' gC r'.tail 0 ∧ y5.grownBy w' (some gC) by
    have := codeNext y5 gC r' 0 tn CD5.out (by omega) (by omega)
    rwa [ht1] at this)
  obtain ⟨k0, k1, k2, k3, -⟩ := bk10 FW.out.kG
  clear ht1 ht1l
  go_wp2_with fail
  refine NT.out.mono ?_
  rintro e y6 ⟨rfl, hcd6, hg6⟩
  have FW6 := hide (FW.out.codes hg6 CD5.out (by decide))
  have CD6 := hide hcd6
  have BW6 := hide (below_grownBy BW5.out hg6 (Nat.le_refl _) hs1)
  clear hcd6 hg6 FW CD5 BW5 NT k0 k1 k2 k3
  obtain ⟨p, hp⟩ := Int.eq_ofNat_of_zero_le (cl_lt (tn := tn) HCAP.out htt).2.1
  have hpt := (cl_lt (tn := tn) HCAP.out htt).1
  have hNb := (cl_lt (tn := tn) HCAP.out htt).2.2
  rw [hp] at hpt
  have QC := hide (fun W (hW : Below y6.heap.size y6 W) => show Calls Try.prog 30 #[.agg #[.slice A n c, .slice B n d, .int .i64 tn], .int .i64 t1] W fun e w' => e = .returned (.int .i64 p) ∧ Below W.heap.size W w' by
    have := rclaim_any W A n c l B n d tn (FW6.out.cf.below hW) t1 (by omega)
    rwa [show tlN l n + (t1 : Int) * 11 = (p : Int) by rw [← hp, clN, HLN.out]] at this)
  have HPP := hide (show p < totI l tn by omega)
  have KX := hide FW6.out.kG
  have hxN : p < totI l tn := HPP.out
  clear hp hpt
  generalize hN : totI l tn = N at KX hxN hNb
  obtain ⟨k0, k1, k2, k3, -⟩ := bk10 KX.out
  have hGl6 := KX.out.lt
  have HB0 : Hid (Below y6.heap.size y6 y6.drew) := hide (Below.refl y6.heap.size y6).drew
  have eT := ET.out
  have e8 := E8.out
  have e64 := E64.out
  have d1 : decide ((p : Int) < 0) = false := by simp
  have d2 : decide (N ≤ p) = false := by simp; omega
  go_upto_region 6 with fail
  have HNN := hide hN
  clear hN
  go_region_held3 (fun u => u.cell? ⟨G, 0, none⟩ = some (.slice A n c) ∧ u.cell? ⟨G, 1, none⟩ = some (.slice B n d) ∧ u.cell? ⟨G, 2, none⟩ = some (.int .i64 tn) ∧ u.cell? ⟨G, 3, none⟩ = some (.slice (some ⟨gW, 0, none⟩) N N)) (go_keep) (first
    | (go_at_call 30; refine (QC.out _ HB0.out).mono ?_; rintro e w3 ⟨rfl, hb⟩; have HB3 := hide (HB0.out.trans (hb.mono HB0.out.size)); obtain ⟨k0, k1, k2, k3, -⟩ := bk10 (KX.out.below HB3.out KX.out.lt); have FW3 := hide (FW6.out.below HB3.out); have c9 := FW3.out.cell HPP.out; have f9 := FW3.out.hk.frozen p; have nGW : G ≠ gW := (by omega); have nWG := Ne.symm nGW; clear hb))
  all_goals
    have WI5 := hide (FW3.out.store (own := Own12) (Rp := Rp12) tw12 (by omega) p (q6 : Int) (by unfold u64; omega))
    have BW7 := hide ((BW6.out.trans (HB3.out.mono BW6.out.size)).setCell (p := ⟨gW, p, none⟩) hgW (.int .u64 (q6 : Int)))
    have CD7 := hide (Cd.belowB CD6.out ((HB3.out.mono (show gW ≤ y6.heap.size by omega)).setCell (p := ⟨gW, p, none⟩) (Nat.le_refl _) (.int .u64 (q6 : Int))) hgCW)
    have hGG : gC < G := hgC4
    clear k0 k1 k2 k3 c9 f9 nGW nWG FW3 HB3 HNN eT e8 e64 d1 d2 HB0 KX QC BW6 CD6 FW6 HPP hxN hNb ET E8 E64
    generalize w3.setCell ⟨gW, p, none⟩ (.int .u64 (q6 : Int)) = w4 at *
    obtain ⟨s1, WI6, e1, e2, e3⟩ : ∃ s1 : St, Hid (WI Own12 Rp12 w4 G G 70 s1) ∧ s1.l = l ∧ s1.ms = [] ∧ s1.tr = [] := ⟨_, WI5, rfl, rfl, rfl⟩
    have E1 := hide e1
    have E2 := hide e2
    have E3 := hide e3
    clear WI5 e1 e2 e3
    go_wp2
    go_loopg [12] 6 (fun g i wr => ∃ (j : Nat) (r : List Int) (ms : List Mc), g + j = 6 ∧ i = .int .i64 j ∧ ms.length = j ∧ WI Own12 Rp12 wr G G 70 { s1 with ms := ms } ∧ Cd wr gC r 0 ∧ Below w.heap.size w wr)
    case atStart => exact ⟨0, _, [], by omega, rfl, rfl, by have := WI6.out; rwa [show s1 = { s1 with ms := [] } by rw [← E2.out]] at this, CD7.out, BW7.out⟩
    case round =>
      obtain ⟨j, r, ms, hj, rfl, hml, hwi, hcd, hbw⟩ := hrel
      have HML := hide hml
      clear hml WI6 CD7 BW7
      by_cases hlt : j < 6
      · obtain ⟨q1, hq1⟩ := Int.eq_ofNat_of_zero_le (codeV_bd r 5 (by omega)).1
        have hq2 := (codeV_bd r 5 (by omega)).2
        rw [hq1] at hq2
        have hqq : q1 < 5 := by omega
        obtain ⟨wh, hwh⟩ : ∃ wh, wh = 7 + q1 := ⟨_, rfl⟩
        have eW : IntKind.i64.wrap (7 + (q1 : Int)) = (wh : Int) := by rw [show 7 + (q1 : Int) = (wh : Int) by omega]; exact IntWalk.i64_in (wh : Int) ⟨by omega, by omega⟩
        have hwh2 : 7 ≤ wh ∧ wh ≤ 11 := by omega
        obtain ⟨vv, hvv, huv⟩ : ∃ vv : Int, IntKind.u64.wrap (a3 + (j : Int)) = vv ∧ u64 vv := ⟨_, rfl, by rw [wrap_u64]; unfold u64; omega⟩
        have ej : IntKind.u64.wrap (j : Int) = (j : Int) := by rw [wrap_u64]; omega
        have HI := hide hwi
        have HC := hide hcd
        have HW := hide hbw
        have HUV := hide huv
        have N5 := hide (show Calls Try.prog 19 #[.pointer (some ⟨gC, 0, none⟩), .int .i64 5] wr fun e w' => e = .returned (.int .i64 (q1 : Nat)) ∧ Cd w' gC r.tail 0 ∧ wr.grownBy w' (some gC) by
          have := codeNext wr gC r 0 5 hcd (by omega) (by omega)
          rwa [hq1] at this)
        have AD := hide (fun W (hW : WI Own12 Rp12 W G G 70 { s1 with ms := ms }) => show Calls Try.prog 31 #[.pointer (some ⟨G, 0, none⟩), .int .i64 wh, .int .i64 0, .int .i64 t1, .int .u64 vv] W fun e w' => e = .returned (.tuple #[]) ∧ WI Own12 Rp12 w' G G 70 { s1 with ms := ms ++ [mc0 wh 0 t1 vv] } ∧ Below G W w' from
          add12_wi W G G _ wh 0 t1 vv hW hwh2 (by show 0 < s1.l.length; rw [E1.out, HLN.out]; omega) (by omega) HUV.out (by show ms.length ≤ 1000; rw [HML.out]; omega))
        clear hwi hcd hbw hq1 hq2 hwh huv hwh2
        go_wp2_with fail
        refine N5.out.mono ?_
        rintro e w5 ⟨rfl, hcd5, hg5⟩
        have WI7 := hide (WI.codes HI.out hg5 HC.out hGG)
        have CD8 := hide hcd5
        have BW8 := hide (below_grownBy HW.out hg5 (Nat.le_refl _) hs1)
        clear hcd5 hg5 HI HC HW N5
        go_wp2_with fail
        refine (AD.out _ WI7.out).mono ?_
        rintro e w6 ⟨rfl, hw6, hb6⟩
        have WI9 := hide hw6
        have CD9 := hide (Cd.belowB CD8.out hb6 hGG)
        have BW9 := hide (BW8.out.trans (hb6.mono hwG))
        clear hw6 hb6 AD WI7 CD8 BW8 eW hvv ej
        go_wp2
        go_roundg (gk - 1)
        case rel => exact ⟨j + 1, _, ms ++ [mc0 wh 0 t1 vv], by omega, by go_num, by simp [HML.out], WI9.out, CD9.out, BW9.out⟩
        case measure => omega
      · obtain rfl : j = 6 := by omega
        have PL := hide (play12_any knows12 wr G G _ a1 len1 cap1 l1 80 6 hwi (H2.out.below hbw) HB2.out (fun h0 ad e => Nat.lt_of_lt_of_le (HAB.out h0 ad e) hwG) (by omega) (by omega) (by omega) (by show 0 < ms.length; rw [HML.out]; omega) (by show ms.length ≤ 20; rw [HML.out]; omega) (by show s1.tr.length ≤ 100; rw [E3.out]; simp))
        have BW := hide hbw
        clear hwi hbw hcd
        go_wp2_with fail
        refine PL.out.mono ?_
        rintro e w9 ⟨rfl, -, hb9⟩
        have HB9 := hide (BW.out.trans (hb9.mono hwG))
        clear hb9
        go_wp2
        go_ret
        exact ⟨rfl, HB9.out⟩
end Go.Proofs.Ytadaoobdnnleaaa
