/- The walk of ClaimFires. -/
import Derived.Test.YtadaoobdnnleaaaW12a
import Derived.Test.YtadaoobdnnleaaaW12b
import Derived.Test.YtadaoobdnnleaaaY12
import Derived.Test.YtadaoobdnnleaaaS0
namespace Go.Proofs.Ytadaoobdnnleaaa
open Go.RowKit
set_option linter.unusedVariables false
set_option maxHeartbeats 4000000 in
set_option maxRecDepth 100000 in
theorem claimFires_walk (a0 : Option Addr) (len0 cap0 : Nat) (z0 : List Int) (a1 a2 : Int) (w : World) (w0 : Row .u8 w a0 len0 cap0 z0) (w1 : (Lit.int .u64 a1).wf = true) (w2 : (Lit.int .i64 a2).wf = true) :
    Calls Try.prog 9 #[.slice a0 len0 cap0, .int .u64 a1, .int .i64 a2] w fun e w' => e = .returned (.bool true) ∧ Below w.heap.size w w' := by
  have hb1 := bounds_u64 w1
  have hb2 := bounds_i64 w2
  obtain ⟨hI1, hc1, hm1, hwf1⟩ := w0.isI
  have H1 := hide hI1
  have HB1 := hide (show ∀ x ∈ z0.take len0, 0 ≤ x ∧ x ≤ 255 from fun x hx => bounds_u8 (hwf1 x hx))
  clear hwf1 w0 hI1 w1 w2
  generalize z0.take len0 = l0 at H1 HB1
  have hcm1 : cap0 ≤ 9223372036854775807 := hm1
  have hu1 := hide (show u64 a1 from hb1)
  obtain ⟨r8, hr8⟩ : ∃ q : Nat, a1 % 8 = q := Int.eq_ofNat_of_zero_le (Int.emod_nonneg _ (by omega))
  obtain ⟨r4, hr4⟩ : ∃ q : Nat, a1 % 4 = q := Int.eq_ofNat_of_zero_le (Int.emod_nonneg _ (by omega))
  have hl8 : r8 < 8 := by omega
  have hl4 : r4 < 4 := by omega
  have T8 := hide (show a1.tmod 8 = (r8 : Int) by rw [Int.tmod_eq_emod_of_nonneg hb1.1, hr8])
  have T4 := hide (show a1.tmod 4 = (r4 : Int) by rw [Int.tmod_eq_emod_of_nonneg hb1.1, hr4])
  have V8 := hide (show IntKind.u64.wrap (r8 : Int) = (r8 : Int) by rw [wrap_u64]; omega)
  have V4 := hide (show IntKind.u64.wrap (r4 : Int) = (r4 : Int) by rw [wrap_u64]; omega)
  have R8 := hide hr8
  have R4 := hide hr4
  clear hm1 hr8 hr4
  go_enter Try.func9, Try.ntmps9
  go_wp2_with fail
  refine (awake12_any _).mono ?_
  rintro e y1 ⟨rfl, hb1'⟩
  have hs1 := hb1'.size
  go_wp2_with fail
  refine (new_any y1 _ _ _ _ 40 (H1.out.below hb1') HB1.out (by omega) hc1 hcm1).mono ?_
  rintro e y2 ⟨rfl, hcd, hb2'⟩
  have BW2 := hide (hb1'.trans (hb2'.mono hs1))
  have CD2 := hide hcd
  clear hb1' hb2' hcd H1 HB1
  generalize hgC : y1.heap.size = gC at *
  clear hgC
  go_wp2_with fail
  refine (config_cf2 _ _ _ _ CD2.out).mono ?_
  rintro e y3 ⟨A, n, c, B, d, tn, l, s, r', rfl, hcf, hty, hsi, hn1, hn3, hst, ht2, ht4, hcd3, hg⟩
  have BW3 := hide (below_grownBy BW2.out hg (Nat.le_refl _) hs1)
  have CF := hide hcf
  have TY := hide hty
  have SI := hide hsi
  have SB := hide hst
  clear hcf hty hsi hst hcd3 hg CD2 BW2
  go_wp2_with fail
  refine (begin_any y3 A n c l B d s tn CF.out SI.out SB.out (by omega) (by omega)).mono ?_
  rintro e y4 ⟨gW, gL, rfl, hk, hgw, hb4⟩
  have BW4 := hide (BW3.out.trans (hb4.mono BW3.out.size))
  have hln : l.length = n := CF.out.len
  have HLN := hide hln
  have HCAP : Hid (Cap l) := hide ⟨by rw [hln]; exact CF.out.2.1, CF.out.2.2⟩
  have FW := hide (Fw.new (TW := 70) (gL := gL) (B := B) (d := d) (s := s) (c := c) (tn := tn) (gW := gW) y4 (CF.out.below hb4) (TY.out.below hb4) SB.out hk)
  clear hk hgw hb4 BW3 CF TY SI SB hln
  have hwG : w.heap.size ≤ y4.heap.size := BW4.out.size
  go_upto_region 4 with fail
  have BW5 := hide (BW4.out.trans ((below_new y4 (.cells #[.slice A n c, .slice B n d, .int .i64 tn, .slice (some ⟨gW, 0, none⟩) (totI l tn) (totI l tn), .slice (some ⟨gL, 0, none⟩) (2 * n) (2 * n), .int .i64 0, .slice none 0 0, .slice none 0 0, .slice none 0 0, .slice none 0 0] 70)).mono BW4.out.size))
  clear BW4
  generalize (y4.alloc (.cells #[.slice A n c, .slice B n d, .int .i64 tn, .slice (some ⟨gW, 0, none⟩) (totI l tn) (totI l tn), .slice (some ⟨gL, 0, none⟩) (2 * n) (2 * n), .int .i64 0, .slice none 0 0, .slice none 0 0, .slice none 0 0, .slice none 0 0] 70)) = y5 at *
  generalize y4.heap.size = G at *
  obtain ⟨t1, ht1⟩ : ∃ t : Nat, a2 % (tn : Int) = t := Int.eq_ofNat_of_zero_le (Int.emod_nonneg _ (by omega))
  have htt : t1 < tn := by have := Int.emod_lt_of_pos a2 (show 0 < (tn : Int) by omega); omega
  have MD := hide (show Calls Try.prog 33 #[.int .i64 a2, .int .i64 tn] y5 fun e w' => e = .returned (.int .i64 (t1 : Nat)) ∧ y5 = w' by
    have := mod_any a2 tn y5 (by omega) (by omega) hb2.1 hb2.2
    rwa [ht1] at this)
  obtain ⟨k0, k1, k2, k3, -⟩ := bk10 FW.out.kG
  clear ht1
  go_wp2_with fail
  refine MD.out.mono ?_
  rintro e y6 ⟨rfl, rfl⟩
  have AD := hide (add12_wi y5 G G _ 9 0 t1 a1 (FW.out.wi tw12 (by omega)) (by omega) (by show 0 < l.length; rw [HLN.out]; omega) (by omega) hu1.out (by show 0 ≤ 1000; omega))
  clear MD k0 k1 k2 k3
  go_wp2_with fail
  refine AD.out.mono ?_
  rintro e w1 ⟨rfl, hw1, hb⟩
  have WI1 := hide hw1
  have BW6 := hide (BW5.out.trans (hb.mono hwG))
  obtain ⟨p, hp⟩ := Int.eq_ofNat_of_zero_le (cl_lt (tn := tn) HCAP.out htt).2.1
  have hpt := (cl_lt (tn := tn) HCAP.out htt).1
  have hNb := (cl_lt (tn := tn) HCAP.out htt).2.2
  rw [hp] at hpt
  have hFi0 : Fi l (mc0 9 0 t1 a1) p (totI l tn) 0 { st0 l s tn with ms := [mc0 9 0 t1 a1] } := by
    refine ⟨rfl, FW.out.len, rfl, ?_, fun h => by omega, fun h => by omega, fun h => by omega, fun h => by omega⟩
    refine iniI_high HCAP.out s tn (p + 1) ?_
    have hh : tlN l l.length ≤ clN l t1 := by unfold clN; omega
    omega
  have FI0 := hide hFi0
  have HP := hide hp
  obtain ⟨N, hN⟩ : ∃ N, totI l tn = N := ⟨_, rfl⟩
  rw [hN] at hpt hNb FI0
  clear hN hp hFi0 hw1 hb AD BW5 FW
  go_wp2
  go_loopg [9] 5 (fun g i wr => ∃ (j : Nat) (st : St), g + j = 5 ∧ i = .int .i64 j ∧ Fi l (mc0 9 0 t1 a1) p N j st ∧ WI Own12 Rp12 wr G G 70 st ∧ Below w.heap.size w wr ∧ st.tr.length ≤ j)
  case atStart => exact ⟨0, _, by omega, rfl, FI0.out, WI1.out, BW6.out, Nat.le_refl _⟩
  case round =>
    obtain ⟨j, st, hj, rfl, hfi, hwi, hbw, htr⟩ := hrel
    clear WI1 FI0 BW6
    obtain ⟨A', n', c', B', m', d', k0, k1, k2, hcf⟩ := hwi.cfg
    obtain ⟨MA, mn, mc, k3, hI, -⟩ := hwi.words
    have hmn : mn = N := by rw [← hI.len]; exact hfi.len
    subst hmn
    have hGl := hwi.lt.2
    by_cases hlt : j < 5
    · obtain ⟨ad, rfl, -, hc⟩ := hI.at_ (show p + 1 < mn by omega)
      have hfl := hfi.fl
      rw [if_pos hlt] at hfl
      rw [hfl] at hc
      have hms1 : st.ms.length = 1 := by rw [hfi.ms]; rfl
      have FI := hide hfi
      have HI := hide hwi
      have HW := hide hbw
      have hth : st.th = (tn : Int) ∨ True := Or.inr trivial
      have CF := hide hcf
      have HIW := hide hI
      have hll : st.l = l := hfi.l_
      have hcl : tlN l n' + (t1 : Int) * 11 = (p : Int) := by rw [← HP.out, clN, ← hcf.len, hll]
      obtain ⟨P1, hP1⟩ : ∃ P1 : Nat, P1 = p + 1 := ⟨_, rfl⟩
      rw [← hP1] at hc
      have hPN : P1 < mn := by omega
      have QF := hide (fun W (hW : Below wr.heap.size wr W) => show Calls Try.prog 39 #[.agg #[.slice A' n' c', .slice B' m' d', .int .i64 st.th], .int .i64 t1] W fun e w' => e = .returned (.int .i64 P1) ∧ Below W.heap.size W w' by
        have := rflag_any W A' n' c' st.l B' m' d' st.th (CF.out.below hW) t1 (by omega)
        rw [hll, hcl] at this
        rwa [show (p : Int) + 1 = (P1 : Int) by omega] at this)
      have ST := hide (fun W (hW : Below wr.heap.size wr W) => step12_any knows12 W G G 0 st (HI.out.below hW) (by omega) (by omega))
      have KC := hide (fun W (hW : Below wr.heap.size wr W) => show W.cell? ⟨G, 0, none⟩ = some (.slice A' n' c') ∧ W.cell? ⟨G, 1, none⟩ = some (.slice B' m' d') ∧ W.cell? ⟨G, 2, none⟩ = some (.int .i64 st.th) ∧ W.cell? ⟨G, 3, none⟩ = some (.slice (some ad) mn mc) ∧ W.cell? (ad.add P1) = some (.int .u64 0) from
        ⟨(hW.cell hGl).trans k0, (hW.cell hGl).trans k1, (hW.cell hGl).trans k2, (hW.cell hGl).trans k3, (hW.cell (block_lt hc)).trans hc⟩)
      have d1 : decide ((P1 : Int) < 0) = false := by simp
      have d2 : decide (mn ≤ P1) = false := by simp; omega
      have HB0 : Hid (Below wr.heap.size wr wr.drew) := hide (Below.refl wr.heap.size wr).drew
      clear hwi hbw hfi hcf hI hfl hll hcl hP1 hth
      go_upto_region 9 with fail
      go_region_law (first
        | (refine step_call _ (by rfl) 39 _ (by go_simp) (QF.out wr.drew HB0.out) ?_; rintro e w3 ⟨rfl, hb3⟩; refine ⟨_, rfl, ?_⟩; have HB3 := hide (HB0.out.trans (hb3.mono HB0.out.size)); obtain ⟨y0, y1', y2', y3', yc⟩ := KC.out _ HB3.out; clear hb3)
        | (refine step_callw _ (by rfl) 40 _ (by go_simp) (ST.out w3 HB3.out) ?_; rintro e w4 ⟨rfl, hw4, hb4⟩; refine ⟨_, rfl, ?_⟩; have WI4 := hide hw4; have HB4 := hide hb4; clear hw4 hb4))
      all_goals
        have BW7 := hide ((HW.out.trans (HB3.out.mono HW.out.size)).trans (HB4.out.mono hwG))
        have FI2 := hide (FI.out.step rfl HP.out (by omega) hlt)
        have htr2 : (stp st 0).tr.length ≤ j + 1 := Nat.le_trans (stp_tr st 0) (by omega)
        clear y0 y1' y2' y3' yc k0 k1 k2 k3 hc HB3 HB4 HW FI HI KC ST QF CF HIW
        go_wp2
        go_roundg (gk - 1)
        case rel => exact ⟨j + 1, stp st 0, by omega, by go_num, FI2.out, WI4.out, BW7.out, htr2⟩
        case measure => omega
    · obtain rfl : j = 5 := by omega
      have hx : st.ms[0]? = some (mend (mto (mc0 9 0 t1 a1) 5) 1 0) := by rw [hfi.ms]; rfl
      have hms1 : st.ms.length = 1 := by rw [hfi.ms]; rfl
      obtain ⟨gF, cF, FA, fn, fc, FB, fm, fd, code, pc, k9, f0, f1, f2, f3, f4, hend⟩ := hwi.fend knows12 hx (by unfold Own12; show 7 ≤ 9; omega)
      rw [hms1] at k9
      simp only [Nat.zero_mul, Nat.zero_add] at f0 f1 f2 f3 f4
      have HE := hide (fun W (hW : Below wr.heap.size wr W) => show Calls Try.prog 38 #[.agg #[.int .i64 code, .int .i64 pc, .slice FA fn fc, .slice FB fm fd, .slice none 0 0]] W fun e w' => e = .returned (.tuple #[.agg #[.int .i64 1, .int .u64 0], .bool true]) ∧ Below W.heap.size W w' from hend W hW)
      have hll : st.l = l := hfi.l_
      have hcl : tlN l n' + (t1 : Int) * 11 = (p : Int) := by rw [← HP.out, clN, ← hcf.len, hll]
      obtain ⟨p1, hp1⟩ : ∃ q : Nat, q = p + 1 := ⟨_, rfl⟩
      obtain ⟨p2, hp2⟩ : ∃ q : Nat, q = p + 2 := ⟨_, rfl⟩
      obtain ⟨p3, hp3⟩ : ∃ q : Nat, q = p + 3 := ⟨_, rfl⟩
      obtain ⟨p4, hp4⟩ : ∃ q : Nat, q = p + 4 := ⟨_, rfl⟩
      have CF := hide hcf
      have QF := hide (fun W (hW : Below wr.heap.size wr W) => show Calls Try.prog 39 #[.agg #[.slice A' n' c', .slice B' m' d', .int .i64 st.th], .int .i64 t1] W fun e w' => e = .returned (.int .i64 p1) ∧ Below W.heap.size W w' by
        have := rflag_any W A' n' c' st.l B' m' d' st.th (CF.out.below hW) t1 (by omega)
        rw [hll, hcl] at this
        rwa [show (p : Int) + 1 = (p1 : Int) by omega] at this)
      have QK := hide (fun W (hW : Below wr.heap.size wr W) => show Calls Try.prog 42 #[.agg #[.slice A' n' c', .slice B' m' d', .int .i64 st.th], .int .i64 t1] W fun e w' => e = .returned (.int .i64 p2) ∧ Below W.heap.size W w' by
        have := rkind_any W A' n' c' st.l B' m' d' st.th (CF.out.below hW) t1 (by omega)
        rw [hll, hcl] at this
        rwa [show (p : Int) + 2 = (p2 : Int) by omega] at this)
      have QC := hide (fun W (hW : Below wr.heap.size wr W) => show Calls Try.prog 43 #[.agg #[.slice A' n' c', .slice B' m' d', .int .i64 st.th], .int .i64 t1] W fun e w' => e = .returned (.int .i64 p3) ∧ Below W.heap.size W w' by
        have := rcase_any W A' n' c' st.l B' m' d' st.th (CF.out.below hW) t1 (by omega)
        rw [hll, hcl] at this
        rwa [show (p : Int) + 3 = (p3 : Int) by omega] at this)
      have QV := hide (fun W (hW : Below wr.heap.size wr W) => show Calls Try.prog 41 #[.agg #[.slice A' n' c', .slice B' m' d', .int .i64 st.th], .int .i64 t1] W fun e w' => e = .returned (.int .i64 p4) ∧ Below W.heap.size W w' by
        have := rvalue_any W A' n' c' st.l B' m' d' st.th (CF.out.below hW) t1 (by omega)
        rw [hll, hcl] at this
        rwa [show (p : Int) + 4 = (p4 : Int) by omega] at this)
      have QL := hide (fun W (hW : Below wr.heap.size wr W) => show Calls Try.prog 30 #[.agg #[.slice A' n' c', .slice B' m' d', .int .i64 st.th], .int .i64 t1] W fun e w' => e = .returned (.int .i64 p) ∧ Below W.heap.size W w' by
        have := rclaim_any W A' n' c' st.l B' m' d' st.th (CF.out.below hW) t1 (by omega)
        rwa [hll, hcl] at this)
      obtain ⟨ad, rfl, -, hc0⟩ := hI.at_ (show p < mn by omega)
      have word : ∀ q, q < mn → wr.cell? (ad.add q) = some (.int .u64 (st.ws.getD q 0)) := fun q hq => by
        obtain ⟨ad', e, -, h⟩ := hI.at_ hq
        cases e
        exact h
      have v0 := word p (by omega)
      have v1 := word p1 (by omega)
      have v2 := word p2 (by omega)
      have v3 := word p3 (by omega)
      have v4 := word p4 (by omega)
      rw [hfi.w0 (by omega)] at v0
      rw [hp1, hfi.fl, ← hp1] at v1
      rw [hp2, hfi.w2 (by omega), ← hp2, show (mc0 9 0 t1 a1).kd % 18446744073709551616 = (r8 : Int) by have h1 := R8.out; show a1 % 8 % 18446744073709551616 = _; omega] at v2
      rw [hp3, hfi.w3 (by omega), ← hp3, show (mc0 9 0 t1 a1).ix % 18446744073709551616 = (r4 : Int) by have h1 := R4.out; show a1 % 4 % 18446744073709551616 = _; omega] at v3
      rw [hp4, hfi.w4 (by omega), ← hp4, show (mc0 9 0 t1 a1).v = a1 from rfl] at v4
      have KC := hide (fun W (hW : Below wr.heap.size wr W) => show (W.cell? ⟨G, 0, none⟩ = some (.slice A' n' c') ∧ W.cell? ⟨G, 1, none⟩ = some (.slice B' m' d') ∧ W.cell? ⟨G, 2, none⟩ = some (.int .i64 st.th) ∧ W.cell? ⟨G, 3, none⟩ = some (.slice (some ad) mn mc)) ∧ W.cell? (ad.add p) = some (.int .u64 3) ∧ W.cell? (ad.add p1) = some (.int .u64 1) ∧ W.cell? (ad.add p2) = some (.int .u64 r8) ∧ W.cell? (ad.add p3) = some (.int .u64 r4) ∧ W.cell? (ad.add p4) = some (.int .u64 a1) from
        ⟨⟨(hW.cell hGl).trans k0, (hW.cell hGl).trans k1, (hW.cell hGl).trans k2, (hW.cell hGl).trans k3⟩, (hW.cell (block_lt v0)).trans v0, (hW.cell (block_lt v1)).trans v1, (hW.cell (block_lt v2)).trans v2, (hW.cell (block_lt v3)).trans v3, (hW.cell (block_lt v4)).trans v4⟩)
      have ap : decide ((p : Int) < 0) = false := by simp
      have bp : decide (mn ≤ p) = false := by simp; omega
      have lp : p < mn := by omega
      have ap1 : decide ((p1 : Int) < 0) = false := by simp
      have bp1 : decide (mn ≤ p1) = false := by simp; omega
      have lp1 : p1 < mn := by omega
      have ap2 : decide ((p2 : Int) < 0) = false := by simp
      have bp2 : decide (mn ≤ p2) = false := by simp; omega
      have lp2 : p2 < mn := by omega
      have ap3 : decide ((p3 : Int) < 0) = false := by simp
      have bp3 : decide (mn ≤ p3) = false := by simp; omega
      have lp3 : p3 < mn := by omega
      have ap4 : decide ((p4 : Int) < 0) = false := by simp
      have bp4 : decide (mn ≤ p4) = false := by simp; omega
      have lp4 : p4 < mn := by omega
      have HW := hide hbw
      clear hwi hbw hfi hcf hI hll hcl hp1 hp2 hp3 hp4 v0 v1 v2 v3 v4 word k0 k1 k2 k3 hx hend
      have t8 := T8.out
      have t4 := T4.out
      have e8 := V8.out
      have e4 := V4.out
      go_wp2_with fail
      refine (HE.out _ (Below.refl _ _)).mono ?_
      rintro e w7 ⟨rfl, hb7⟩
      have KO := hide (Bk.new w7 50 #[.int .i64 1, .int .u64 0])
      have HB7 := hide (hb7.trans ((below_new w7 (.cells #[.int .i64 1, .int .u64 0] 50)).mono hb7.size))
      clear k9 f0 f1 f2 f3 f4 hb7 HE
      obtain ⟨⟨x0, x1, x2, x3⟩, x4, x5, x6, x7, x8⟩ := KC.out _ HB7.out
      obtain ⟨o0, o1, -⟩ := bk2 KO.out
      have hle7 := HB7.out.size
      clear KO
      go_wp2_with fail
      refine (QF.out _ HB7.out).mono ?_
      rintro e w8 ⟨rfl, hb⟩
      have HB8 := hide (HB7.out.trans (hb.mono HB7.out.size))
      clear x0 x1 x2 x3 x4 x5 x6 x7 x8 hb o0 o1 hle7
      obtain ⟨⟨x0, x1, x2, x3⟩, x4, x5, x6, x7, x8⟩ := KC.out _ HB8.out
      go_wp2_with fail
      refine (QL.out _ HB8.out).mono ?_
      rintro e w9 ⟨rfl, hb⟩
      have HB9 := hide (HB8.out.trans (hb.mono HB8.out.size))
      clear x0 x1 x2 x3 x4 x5 x6 x7 x8 hb
      obtain ⟨⟨x0, x1, x2, x3⟩, x4, x5, x6, x7, x8⟩ := KC.out _ HB9.out
      go_wp2_with fail
      refine (QV.out _ HB9.out).mono ?_
      rintro e w10 ⟨rfl, hb⟩
      have HB10 := hide (HB9.out.trans (hb.mono HB9.out.size))
      clear x0 x1 x2 x3 x4 x5 x6 x7 x8 hb
      obtain ⟨⟨x0, x1, x2, x3⟩, x4, x5, x6, x7, x8⟩ := KC.out _ HB10.out
      go_wp2_with fail
      refine (QK.out _ HB10.out).mono ?_
      rintro e w11 ⟨rfl, hb⟩
      have HB11 := hide (HB10.out.trans (hb.mono HB10.out.size))
      clear x0 x1 x2 x3 x4 x5 x6 x7 x8 hb
      obtain ⟨⟨x0, x1, x2, x3⟩, x4, x5, x6, x7, x8⟩ := KC.out _ HB11.out
      go_wp2_with fail
      refine (QC.out _ HB11.out).mono ?_
      rintro e w12 ⟨rfl, hb⟩
      have HB12 := hide (HB11.out.trans (hb.mono HB11.out.size))
      clear x0 x1 x2 x3 x4 x5 x6 x7 x8 hb
      obtain ⟨⟨x0, x1, x2, x3⟩, x4, x5, x6, x7, x8⟩ := KC.out _ HB12.out
      go_wp2
      go_ret
      exact ⟨rfl, HW.out.trans (HB12.out.mono HW.out.size)⟩
end Go.Proofs.Ytadaoobdnnleaaa
