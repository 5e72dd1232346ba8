/- The walk of LockAccesses. -/
import Derived.Test.YtadaoobdnnleaaaX6
namespace Go.Proofs.Ytadaoobdnnleaaa
open Go.RowKit
set_option linter.unusedVariables false
theorem WI.row0 {own : Nat → Prop} {Rp : List Int → Mc → Fa → Prop} {w : World} {base G : Nat} {TW : TypeId} {s : St} (H : WI own Rp w base G TW s) : ∃ A c, w.cell? ⟨G, 0, none⟩ = some (.slice A s.l.length c) := by
  obtain ⟨qs, ⟨h, H⟩, -⟩ := H
  have bk := H.bk
  have hl : s.l.length = h.n := H.cf.len
  rw [Hd.cells] at bk
  rw [hl]
  exact ⟨h.A, h.c, (bk10 bk).1⟩
set_option maxHeartbeats 4000000 in
set_option maxRecDepth 100000 in
theorem accesses_walk (a0 : Option Addr) (len0 cap0 : Nat) (z0 : List Int) (a1 : Option Addr) (len1 cap1 : Nat) (z1 : List Int) (w : World) (w0 : Row .u8 w a0 len0 cap0 z0) (w1 : Row .u8 w a1 len1 cap1 z1) :
    Calls Try.prog 3 #[.slice a0 len0 cap0, .slice a1 len1 cap1] w fun e w' => e = .returned (.bool true) ∧ Below w.heap.size w w' := by
  obtain ⟨hI1, hc1, hm1, hwf1⟩ := w0.isI
  obtain ⟨hI2, hc2, hm2, hwf2⟩ := w1.isI
  have H1 := hide hI1
  have HB1 := hide (show ∀ x ∈ z0.take len0, 0 ≤ x ∧ x ≤ 255 from fun x hx => bounds_u8 (hwf1 x hx))
  have H2 := hide hI2
  have HB2 := hide (show ∀ x ∈ z1.take len1, 0 ≤ x ∧ x ≤ 255 from fun x hx => bounds_u8 (hwf2 x hx))
  clear hwf1 w0 hI1 hwf2 w1 hI2
  generalize z0.take len0 = l0 at H1 HB1
  generalize z1.take len1 = l1 at H2 HB2
  have hcm1 : cap0 ≤ 9223372036854775807 := hm1
  have hcm2 : cap1 ≤ 9223372036854775807 := hm2
  have HAB := hide (show 0 < len1 → ∀ ad, a1 = some ad → ad.block < w.heap.size from fun h0 ad e => by
    obtain ⟨ad', e', _, hcl⟩ := H2.out.at_ h0
    rw [e] at e'
    cases e'
    have := block_lt hcl
    rwa [block_add] at this)
  clear hm1 hm2
  go_enter Try.func3, Try.ntmps3
  go_wp2_with fail
  refine (awake7_any _).mono ?_
  rintro e y1 ⟨rfl, hb1⟩
  have hs1 := hb1.size
  go_wp2_with fail
  refine (new_any y1 _ _ _ _ 40 (H1.out.below hb1) HB1.out (by omega) hc1 hcm1).mono ?_
  rintro e y2 ⟨rfl, hcd, hb2⟩
  have BW2 := hide (hb1.trans (hb2.mono hs1))
  have CD2 := hide hcd
  clear hb1 hb2 hcd H1 HB1
  generalize hgC : y1.heap.size = gC at *
  clear hgC
  go_wp2_with fail
  refine (config_cf2 _ _ _ _ CD2.out).mono ?_
  rintro e y3 ⟨A, n, c, B, d, tn, l, s, r', rfl, hcf, hty, hsi, hn1, hn3, hst, ht2, ht4, hcd3, hg⟩
  have BW3 := hide (below_grownBy BW2.out hg (Nat.le_refl _) hs1)
  have CF := hide hcf
  have TY := hide hty
  have SI := hide hsi
  have SB := hide hst
  have CD3 := hide hcd3
  have hgC3 := hcd3.lt
  clear hcf hty hsi hst hcd3 hg CD2 BW2
  go_wp2_with fail
  refine (begin_any y3 A n c l B d s tn CF.out SI.out SB.out (by omega) (by omega)).mono ?_
  rintro e y4 ⟨gW, gL, rfl, hk, hgw, hb4⟩
  have BW4 := hide (BW3.out.trans (hb4.mono BW3.out.size))
  have CF4 := hide (CF.out.below hb4)
  have TY4 := hide (TY.out.below hb4)
  have CD4 := hide (Cd.belowB CD3.out hb4 hgC3)
  have HK := hide hk
  have hgC4 : gC < y4.heap.size := Nat.lt_of_lt_of_le hgC3 hb4.size
  clear hk hgw hb4 BW3 CF TY CD3 SI hgC3
  have WI0 := hide (wi_new (own := Own7) (Rp := Rp7) (TW := 43) (gL := gL) (B := B) (d := d) (s := s) (c := c) (by unfold TWok; decide) CF4.out TY4.out SB.out (by omega) HK.out)
  have CD5 := hide (Cd.belowB CD4.out (below_new y4 (.cells #[.slice A n c, .slice B n d, .int .i64 tn, .slice (some ⟨gW, 0, none⟩) (totI l tn) (totI l tn), .slice (some ⟨gL, 0, none⟩) (2 * n) (2 * n), .int .i64 0, .slice none 0 0, .slice none 0 0, .slice none 0 0, .slice none 0 0] 43)) hgC4)
  have BW5 := hide (BW4.out.trans ((below_new y4 (.cells #[.slice A n c, .slice B n d, .int .i64 tn, .slice (some ⟨gW, 0, none⟩) (totI l tn) (totI l tn), .slice (some ⟨gL, 0, none⟩) (2 * n) (2 * n), .int .i64 0, .slice none 0 0, .slice none 0 0, .slice none 0 0, .slice none 0 0] 43)).mono BW4.out.size))
  have hln : l.length = n := CF4.out.len
  have HLN := hide hln
  have hwG : w.heap.size ≤ y4.heap.size := BW4.out.size
  clear CF4 TY4 CD4 HK BW4 SB hln
  go_wp2
  generalize y4.heap.size = G at *
  go_loopg [7] 6 (fun g i wr => ∃ (j : Nat) (r : List Int) (ms : List Mc), g + j = 6 ∧ i = .int .i64 j ∧ ms.length = j ∧ WI Own7 Rp7 wr G G 43 { st0 l s tn with ms := ms } ∧ Cd wr gC r 0 ∧ Below w.heap.size w wr)
  case atStart => exact ⟨0, _, [], by omega, rfl, rfl, WI0.out, CD5.out, BW5.out⟩
  case round =>
    obtain ⟨j, r, ms, hj, rfl, hml, hwi, hcd, hbw⟩ := hrel
    have HML := hide hml
    clear hml
    by_cases hlt : j < 6
    · obtain ⟨q1, hq1⟩ := Int.eq_ofNat_of_zero_le (codeV_bd r 2 (by omega)).1
      have hq2 := (codeV_bd r 2 (by omega)).2
      rw [hq1] at hq2
      have hqq : q1 < 2 := by omega
      obtain ⟨q3, hq3⟩ := Int.eq_ofNat_of_zero_le (codeV_bd r.tail (n : Int) (by omega)).1
      have hq4 := (codeV_bd r.tail (n : Int) (by omega)).2
      rw [hq3] at hq4
      have hqn : q3 < n := by omega
      obtain ⟨wh, hwh⟩ : ∃ wh, wh = 1 + q1 := ⟨_, rfl⟩
      have eW : IntKind.i64.wrap (1 + (q1 : Int)) = (wh : Int) := by rw [show 1 + (q1 : Int) = (wh : Int) by omega]; exact IntWalk.i64_in (wh : Int) ⟨by omega, by omega⟩
      have hwh2 : wh = 1 ∨ wh = 2 := by omega
      have HWH := hide hwh2
      clear hwh hwh2
      have HI := hide hwi
      have HC := hide hcd
      have HW := hide hbw
      obtain ⟨A6, c6, k0⟩ := hwi.row0
      rw [show (({ st0 l s tn with ms := ms } : St).l) = l from rfl, HLN.out] at k0
      have hGl := hwi.row6.2.1
      have N2 := hide (fun W (hW : Cd W gC r 0) => show Calls Try.prog 19 #[.pointer (some ⟨gC, 0, none⟩), .int .i64 2] W fun e w' => e = .returned (.int .i64 (q1 : Nat)) ∧ Cd w' gC r.tail 0 ∧ W.grownBy w' (some gC) by
        have := codeNext W gC r 0 2 hW (by omega) (by omega)
        rwa [hq1] at this)
      have N3 := hide (fun W (hW : Cd W gC r.tail 0) => show Calls Try.prog 19 #[.pointer (some ⟨gC, 0, none⟩), .int .i64 n] W fun e w' => e = .returned (.int .i64 (q3 : Nat)) ∧ Cd w' gC r.tail.tail 0 ∧ W.grownBy w' (some gC) by
        have := codeNext W gC r.tail 0 n hW (by omega) (by omega)
        rwa [hq3] at this)
      have AD := hide (fun W (hW : WI Own7 Rp7 W G G 43 { st0 l s tn with ms := ms }) => show Calls Try.prog 18 #[.pointer (some ⟨G, 0, none⟩), .int .i64 wh, .int .i64 q3, .int .i64 0, .int .u64 0] W fun e w' => e = .returned (.tuple #[]) ∧ WI Own7 Rp7 w' G G 43 { st0 l s tn with ms := ms ++ [mc0 wh q3 0 0] } ∧ Below G W w' by
        exact add7_wi W G G _ wh q3 0 0 hW HWH.out (by show q3 < l.length; rw [HLN.out]; exact hqn) (by omega) (by unfold u64; omega) (by show ms.length ≤ 1000; rw [HML.out]; omega))
      have hcl := hcd.lt
      clear hwi hcd hbw WI0 CD5 BW5 hq1 hq2 hq3 hq4
      go_upto_region 8 with fail
      go_region_law (first
        | (refine step_call _ (by rfl) 18 _ (by go_simp) (AD.out w4 WI4.out) ?_; rintro e w5 ⟨rfl, hw5, hb5⟩; refine ⟨_, rfl, ?_⟩; have WI5 := hide hw5; have CD5 := hide (Cd.belowB CD4.out hb5 hgC4); have BW5 := hide (BW4.out.trans (hb5.mono hwG)); clear hw5 hb5)
        | (refine step_call _ (by rfl) 19 _ (by go_simp) (N3.out w3 CD3'.out) ?_; rintro e w4 ⟨rfl, hcd4, hg4⟩; refine ⟨_, rfl, ?_⟩; have WI4 := hide (WI.codes WI3.out hg4 CD3'.out hgC4); have CD4 := hide hcd4; have BW4 := hide (below_grownBy BW3.out hg4 (Nat.le_refl _) hs1); obtain ⟨A8, c8, x0⟩ := WI4.out.row0; rw [show (({ st0 l s tn with ms := ms } : St).l) = l from rfl, HLN.out] at x0; clear hcd4 hg4)
        | (refine step_call _ (by rfl) 19 _ (by go_simp) (N2.out wr.drew HC.out) ?_; rintro e w3 ⟨rfl, hcd3, hg3⟩; refine ⟨_, rfl, ?_⟩; have WI3 := hide (WI.codes (HI.out.below (Below.refl wr.heap.size wr).drew) hg3 HC.out hgC4); have CD3' := hide hcd3; have BW3 := hide (below_grownBy (HW.out.trans ((Below.refl w.heap.size wr).drew)) hg3 (Nat.le_refl _) hs1); obtain ⟨A7, c7, y0⟩ := WI3.out.row0; rw [show (({ st0 l s tn with ms := ms } : St).l) = l from rfl, HLN.out] at y0; clear hcd3 hg3))
      all_goals
        go_wp2
        go_roundg (gk - 1)
        case rel => exact ⟨j + 1, _, ms ++ [mc0 wh q3 0 0], by omega, by go_num, by simp [HML.out], WI5.out, CD5.out, BW5.out⟩
        case measure => omega
    · obtain rfl : j = 6 := by omega
      have hwi := hwi
      have PL := hide (play7_any knows7 wr G G _ a1 len1 cap1 l1 60 2 hwi (H2.out.below hbw) HB2.out (fun h0 ad e => Nat.lt_of_lt_of_le (HAB.out h0 ad e) hwG) (by omega) (by omega) (by omega) (by show 0 < ms.length; rw [HML.out]; omega) (by show ms.length ≤ 20; rw [HML.out]; omega) (by show 0 ≤ 100; omega))
      have BW := hide hbw
      clear hwi hbw hcd WI0 CD5 BW5
      go_wp2_with fail
      refine PL.out.mono ?_
      rintro e w9 ⟨rfl, -, hb9⟩
      have HB9 := hide (BW.out.trans (hb9.mono hwG))
      clear hb9
      go_wp2
      go_ret
      exact ⟨rfl, HB9.out⟩
end Go.Proofs.Ytadaoobdnnleaaa
