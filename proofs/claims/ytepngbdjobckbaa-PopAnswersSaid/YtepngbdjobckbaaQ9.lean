/- The world of a ring with machines of all kinds (others). -/
import Derived.Test.YtepngbdjobckbaaQ0
namespace Go.Proofs.Ytepngbdjobckbaa
open Go.RowKit
set_option linter.unusedVariables false
/-- How a machine is added to the world. -/
def AddOk9 (Rp : List Int → Mc → Fa → Prop) : Prop := ∀ (w : World) (base G : Nat) (s : St) (what ch th : Nat) (v : Int), WI Own9 Rp w base G 75 s → 1 ≤ what ∧ what ≤ 11 → ch < s.l.length → th ≤ 8 → u64 v → s.ms.length ≤ 1000 →
    Calls Try.prog 28 #[.pointer (some ⟨G, 0, none⟩), .int .i64 what, .int .i64 ch, .int .i64 th, .int .u64 v] w fun e w' => e = .returned (.tuple #[]) ∧ WI Own9 Rp w' base G 75 { s with ms := s.ms ++ [mc0 what ch th v] } ∧ Below base w w' ∧ Kp w w' 3
theorem tw9 : TWok 75 := by unfold TWok; decide
set_option maxHeartbeats 4000000 in
set_option maxRecDepth 100000 in
theorem others9_any {Rp : List Int → Mc → Fa → Prop} (AO : AddOk9 Rp) (w : World) (a0 : Option Addr) (len0 cap0 : Nat) (l0 : List Int) (hI1 : IsI .u8 w a0 len0 l0) (hB1 : ∀ x ∈ l0, 0 ≤ x ∧ x ≤ 255) (hc1 : len0 ≤ cap0) (hcm1 : cap0 ≤ 9223372036854775807) (most : Nat) (hmost : most ≤ 100) :
    Calls Try.prog 27 #[.slice a0 len0 cap0, .int .i64 most] w fun e w' => ∃ (G : Nat) (l s : List Int) (tn : Nat) (ms : List Mc), e = .returned (.pointer (some ⟨G, 0, none⟩)) ∧ w.heap.size ≤ G ∧ WI Own9 Rp w' G G 75 { st0 l s tn with ms := ms } ∧ OthOk most l s tn ms ∧ Below w.heap.size w w' := by
  have H1 := hide hI1
  have HB1 := hide hB1
  clear hI1 hB1
  go_enter Try.func27, Try.ntmps27
  go_wp2_with fail
  refine (new_any w _ _ _ _ 40 H1.out HB1.out (by omega) hc1 hcm1).mono ?_
  rintro e y2 ⟨rfl, hcd, hb2⟩
  have BW2 := hide hb2
  have CD2 := hide hcd
  clear hb2 hcd H1 HB1
  generalize hgC : w.heap.size = gC at *
  have hCw : gC ≤ w.heap.size := Nat.le_of_eq hgC.symm
  have HGC := hide hgC
  clear hgC
  go_wp2_with fail
  refine (config_own _ _ _ _ CD2.out).mono ?_
  rintro e y3 ⟨gA, n, c, B, d, tn, l, s, r', rfl, hgA, hown, hln, hlb, hsi, hsty, hn1, hn3, hsl, hst, ht2, ht4, hcd3, hg⟩
  have BW3 := hide (below_grownBy BW2.out hg hCw (Nat.le_refl _))
  have OW := hide hown
  have SI := hide hsi
  have STY := hide hsty
  have HLB := hide hlb
  have SB := hide hst
  have CD3 := hide hcd3
  have HSL := hide hsl
  have hgC3 := hcd3.lt
  have hgCA : gC < gA := Nat.lt_of_lt_of_le CD2.out.lt hgA
  clear hown hlb hsi hsty hst hcd3 hg CD2 BW2 hsl
  go_upto_region 3 with fail
  have KX := hide (Bk.new y3 36 #[.slice (some ⟨gA, 0, none⟩) n c, .slice B n d, .int .i64 tn])
  have HB4 := hide (below_new y3 (.cells #[.slice (some ⟨gA, 0, none⟩) n c, .slice B n d, .int .i64 tn] 36))
  have OW4 := hide (own_bel OW.out HB4.out)
  have SI4 := hide (SI.out.below HB4.out)
  have ST4 := hide (STY.out.below HB4.out)
  have CD4 := hide (Cd.below CD3.out HB4.out)
  have BW4 := hide (BW3.out.trans (HB4.out.mono (by omega)))
  have hgX : gA < y3.heap.size := (OW.out.lt gA rfl).2
  clear OW SI STY CD3 BW3 HB4
  generalize (y3.alloc (.cells #[.slice (some ⟨gA, 0, none⟩) n c, .slice B n d, .int .i64 tn] 36)) = y4 at *
  generalize y3.heap.size = gX at *
  obtain ⟨v4, hv4⟩ : ∃ v, codeV r' 4 = v := ⟨_, rfl⟩
  have hv4b := codeV_bd r' 4 (by omega)
  rw [hv4] at hv4b
  obtain ⟨cv, hcv⟩ : ∃ cv : Int, 1 + v4 = cv := ⟨_, rfl⟩
  have eW : IntKind.i64.wrap (1 + v4) = cv := by rw [hcv]; exact IntWalk.i64_in cv ⟨by omega, by omega⟩
  have hcvb : 1 ≤ cv ∧ cv ≤ 4 := by omega
  have HCV := hide hcvb
  have NT := hide (fun W (hW : Cd W gC r' 0) => show Calls Try.prog 20 #[.pointer (some ⟨gC, 0, none⟩), .int .i64 4] W fun e w' => e = .returned (.int .i64 v4) ∧ Cd w' gC r'.tail 0 ∧ W.grownBy w' (some gC) by
    have := codeNext W gC r' 0 4 hW (by omega) (by omega)
    rwa [hv4] at this)
  have d2 : decide (n ≤ 0) = false := by simp; omega
  have dn : ¬ n = 0 := by omega
  have dn2 : 0 < n := by omega
  obtain ⟨f0, f1, f2, -⟩ := bkm3 KX.out
  clear hv4 hcv hv4b hcvb
  go_cut [] (fun wx => Cf wx (some ⟨gA, 0, none⟩) n (l.set 0 cv) ∧ TyA wx (some ⟨gA, 0, none⟩) n 3 ∧ IsI .u64 wx B n s ∧ Bk wx gX 36 #[.slice (some ⟨gA, 0, none⟩) n c, .slice B n d, .int .i64 tn] ∧ Cd wx gC r'.tail 0 ∧ Below gC w wx)
  case first =>
    go_region_law (first
      | (refine step_call _ (by rfl) 20 _ (by go_simp) (NT.out _ (CD4.out.drewN 1)) ?_; rintro e w4 ⟨rfl, hcd5, hg5⟩; refine ⟨_, rfl, ?_⟩; have OW5 := hide (own_codes (own_bel OW4.out (Below.refl y4.heap.size y4).drew) hg5 (CD4.out.drewN 1) (by decide)); have KX5 := hide (bk_codes (KX.out.below (Below.refl y4.heap.size y4).drew KX.out.lt) hg5 (CD4.out.drewN 1) (by decide)); have SI5 := hide (isI_codes (SI4.out.below (Below.refl y4.heap.size y4).drew) (ST4.out.below (Below.refl y4.heap.size y4).drew) hg5 (CD4.out.drewN 1) (by decide)); have BW5 := hide (below_grownBy (BW4.out.trans (Below.refl gC y4).drew) hg5 hCw (Nat.le_refl _)); have CD5 := hide hcd5; obtain ⟨f0, f1, f2, -⟩ := bkm3 KX5.out; have a0 := own_cell0 OW5.out hln hn1; have af := OW5.out.frozenAt 0; clear hcd5 hg5))
    all_goals
      go_wp2_with fail
      go_meet
      case rel =>
        have CS := cap_set OW5.out hln (by omega) HLB.out (v := cv) (by have := HCV.out; omega)
        exact ⟨CS.1, CS.2.1, SI5.out.1.kp SI5.out.2 (CS.2.2 _ (by decide)), CS.2.2 _ (by decide) _ _ KX5.out, Cd.belowB CD5.out ((Below.refl gA _).setCell (p := ⟨gA, 0, none⟩) (Nat.le_refl _) _) hgCA, BW5.out.setCell (p := ⟨gA, 0, none⟩) (Nat.le_of_lt hgCA) _⟩
  case rest =>
  obtain ⟨hcf, hty, hsi, hkx, hcd, hbw⟩ := hcut
  have CF := hide hcf
  have TY := hide hty
  have SI := hide hsi
  have CD := hide hcd
  have BW := hide hbw
  obtain ⟨f0, f1, f2, -⟩ := bkm3 hkx
  have hgw6 : gX < wc.heap.size := hkx.lt
  have hl2 : (l.set 0 cv).length = n := by rw [List.length_set, hln]
  have HC0 : Hid (1 ≤ (l.set 0 cv).getD 0 0 ∧ (l.set 0 cv).getD 0 0 ≤ 4) := hide (by rw [getD_set_self (by omega)]; exact HCV.out)
  have HL2 := hide hl2
  clear hcf hty hsi hkx hcd hbw OW4 SI4 ST4 CD4 BW4 KX NT eW d2 dn HLB hl2 HCV
  generalize l.set 0 cv = l1 at *
  clear hln
  go_wp2_with fail
  refine (begin_any wc (some ⟨gA, 0, none⟩) n c l1 B d s tn CF.out SI.out SB.out (by omega) (by omega)).mono ?_
  rintro e y5 ⟨gW, gL, rfl, hk, hgw, hb5⟩
  have hgC6 : gC < y5.heap.size := Nat.lt_of_lt_of_le CD.out.lt hb5.size
  have BW5 := hide (BW.out.trans (hb5.mono (Nat.le_of_lt CD.out.lt)))
  have CD5 := hide (Cd.below CD.out hb5)
  have FW := hide (Fw.new (TW := 75) (gL := gL) (B := B) (d := d) (s := s) (c := c) (tn := tn) (gW := gW) y5 (CF.out.below hb5) (TY.out.below hb5) SB.out hk)
  clear hk hgw hb5 BW CF TY SI CD f0 f1 f2
  go_upto_region 5 with fail
  have CD6 := hide (Cd.below CD5.out (below_new y5 (.cells #[.slice (some ⟨gA, 0, none⟩) n c, .slice B n d, .int .i64 tn, .slice (some ⟨gW, 0, none⟩) (totI l1 tn) (totI l1 tn), .slice (some ⟨gL, 0, none⟩) (2 * n) (2 * n), .int .i64 0, .slice none 0 0, .slice none 0 0, .slice none 0 0, .slice none 0 0] 75)))
  have BW6 := hide (BW5.out.trans ((below_new y5 (.cells #[.slice (some ⟨gA, 0, none⟩) n c, .slice B n d, .int .i64 tn, .slice (some ⟨gW, 0, none⟩) (totI l1 tn) (totI l1 tn), .slice (some ⟨gL, 0, none⟩) (2 * n) (2 * n), .int .i64 0, .slice none 0 0, .slice none 0 0, .slice none 0 0, .slice none 0 0] 75)).mono (Nat.le_of_lt hgC6)))
  clear CD5 BW5
  generalize (y5.alloc (.cells #[.slice (some ⟨gA, 0, none⟩) n c, .slice B n d, .int .i64 tn, .slice (some ⟨gW, 0, none⟩) (totI l1 tn) (totI l1 tn), .slice (some ⟨gL, 0, none⟩) (2 * n) (2 * n), .int .i64 0, .slice none 0 0, .slice none 0 0, .slice none 0 0, .slice none 0 0] 75)) = y6 at *
  generalize y5.heap.size = G at *
  have WI6 : Hid (WI Own9 Rp y6 G G 75 { st0 l1 s tn with ms := [] }) := hide (FW.out.wi tw9 (by omega))
  have hGy : G < y6.heap.size := FW.out.kG.lt
  clear FW
  go_upto_region 6 with fail
  have KN : Hid (Bk (y6.alloc (.cells #[.int .i64 3, .int .i64 3, .int .i64 4, .int .i64 4, .int .i64 5, .int .i64 6, .int .i64 3, .int .i64 4] 3)) y6.heap.size 3 ((kindsI.map (Value.int .i64)).toArray)) := hide (Bk.new y6 3 _)
  have HB7 := hide (below_new y6 (.cells #[.int .i64 3, .int .i64 3, .int .i64 4, .int .i64 4, .int .i64 5, .int .i64 6, .int .i64 3, .int .i64 4] 3))
  have WI7 := hide (WI6.out.below HB7.out)
  have CD7 := hide (Cd.below CD6.out HB7.out)
  have BW7 := hide (BW6.out.trans (HB7.out.mono (by omega)))
  clear WI6 CD6 BW6 HB7
  generalize (y6.alloc (.cells #[.int .i64 3, .int .i64 3, .int .i64 4, .int .i64 4, .int .i64 5, .int .i64 6, .int .i64 3, .int .i64 4] 3)) = y7 at *
  generalize y6.heap.size = gK at *
  go_wp2
  go_loopg [9] most (fun g i wr => ∃ (j : Nat) (r : List Int) (ms : List Mc), g + j = most ∧ i = .int .i64 j ∧ ms.length = j ∧ (∀ x ∈ ms, ∃ (wh : Nat) (v : Int), 3 ≤ wh ∧ wh ≤ 6 ∧ Go.Proofs.Ytepngbdjobckbaa.u64 v ∧ x = mc0 wh 0 0 v) ∧ WI Own9 Rp wr G G 75 { st0 l1 s tn with ms := ms } ∧ Cd wr gC r 0 ∧ Bk wr gK 3 ((kindsI.map (Value.int .i64)).toArray) ∧ Below gC w wr)
  case atStart => exact ⟨0, _, [], by omega, rfl, rfl, fun x hx => by simp at hx, WI7.out, CD7.out, KN.out, BW7.out⟩
  case round =>
    obtain ⟨j, r, ms, hj, rfl, hml, hall, hwi, hcd, hkn, hbw⟩ := hrel
    have HML := hide hml
    have HALL := hide hall
    have HW := hide hwi
    have HC := hide hcd
    have HK := hide hkn
    have HBW := hide hbw
    clear hml hall hwi hcd hkn hbw WI7 CD7 KN BW7
    have fin : Hid (∀ W, Below wr.heap.size wr W → ∃ (G' : Nat) (l s' : List Int) (tn : Nat) (ms : List Mc), Ending.returned (.pointer (some ⟨G, 0, none⟩)) = .returned (.pointer (some ⟨G', 0, none⟩)) ∧ w.heap.size ≤ G' ∧ WI Own9 Rp W G' G' 75 { st0 l s' tn with ms := ms } ∧ OthOk most l s' tn ms ∧ Below w.heap.size w W) := hide fun W hW => by rw [HGC.out]; exact ⟨G, l1, s, tn, ms, rfl, by omega, HW.out.below hW, ⟨HC0.out, by rw [HL2.out]; exact ⟨hn1, hn3⟩, by rw [HSL.out, HL2.out], SB.out, ⟨ht2, ht4⟩, by rw [HML.out]; omega, HALL.out⟩, HBW.out.trans (hW.mono (by have := HC.out.lt; omega))⟩
    by_cases hlt : j < most
    · cases r with
      | nil =>
        have LF := hide (show Calls Try.prog 44 #[.pointer (some ⟨gC, 0, none⟩)] wr fun e w' => e = .returned (.bool false) ∧ Below wr.heap.size wr w' from left_bel wr gC [] 0 HC.out)
        clear HW HC HK HBW
        go_wp2_with fail
        refine LF.out.mono ?_
        rintro e w5 ⟨rfl, hb5⟩
        have HB5 := hide hb5
        clear hb5 LF
        go_wp2
        go_ret
        first
          | exact fin.out _ HB5.out
          | (obtain ⟨G', l, s', tn, ms, h1, h2, h3, h4, h5⟩ := fin.out _ HB5.out; exact ⟨G', h1, h2, l, s', tn, ms, h3, h4, h5⟩)
      | cons b r2 =>
        have LF := hide (show Calls Try.prog 44 #[.pointer (some ⟨gC, 0, none⟩)] wr fun e w' => e = .returned (.bool true) ∧ Below wr.heap.size wr w' from left_bel wr gC (b :: r2) 0 HC.out)
        clear fin
        obtain ⟨q1, hq1⟩ := Int.eq_ofNat_of_zero_le (codeV_bd (b :: r2) 8 (by omega)).1
        have hq2 := (codeV_bd (b :: r2) 8 (by omega)).2
        rw [hq1] at hq2
        have hqq : q1 < 8 := by omega
        have N8 := hide (fun W (hW : Cd W gC (b :: r2) 0) => show Calls Try.prog 20 #[.pointer (some ⟨gC, 0, none⟩), .int .i64 8] W fun e w' => e = .returned (.int .i64 (q1 : Nat)) ∧ Cd w' gC r2 0 ∧ W.grownBy w' (some gC) by
          have := codeNext W gC (b :: r2) 0 8 hW (by omega) (by omega)
          rwa [hq1] at this)
        obtain ⟨wh, hwh, hwb⟩ := kinds_at q1 hqq
        have HWB := hide hwb
        have HWH := hide hwh
        obtain ⟨vv, hvv⟩ : ∃ vv : Int, 10 + (j : Int) = vv := ⟨_, rfl⟩
        have eV1 : IntKind.i64.wrap (10 + (j : Int)) = vv := by rw [hvv]; exact IntWalk.i64_in vv ⟨by omega, by omega⟩
        have eV2 : IntKind.u64.wrap vv = vv := by rw [wrap_u64]; omega
        have HUV := hide (show Go.Proofs.Ytepngbdjobckbaa.u64 vv from by unfold Go.Proofs.Ytepngbdjobckbaa.u64; omega)
        have d1 : decide ((q1 : Int) < 0) = false := by simp
        have d2 : decide (8 ≤ q1) = false := by simp; omega
        clear hq1 hq2 hwh hwb hvv
        go_wp2_with fail
        refine LF.out.mono ?_
        rintro e w5 ⟨rfl, hb5⟩
        have HW5 := hide (HW.out.below hb5)
        have HC5 := hide (Cd.below HC.out hb5)
        have HK5 := hide (HK.out.below hb5 HK.out.lt)
        have HBW5 := hide (HBW.out.trans (hb5.mono (by have := HC.out.lt; omega)))
        clear hb5 LF HW HC HK HBW
        go_wp2_with fail
        refine (N8.out _ HC5.out).mono ?_
        rintro e w6 ⟨rfl, hcd6, hg6⟩
        have HW6 := hide (WI.codes HW5.out hg6 HC5.out hgC6)
        have HK6 := hide (bk_codes HK5.out hg6 HC5.out (by decide))
        have HBW6 := hide (below_grownBy HBW5.out hg6 hCw (Nat.le_refl _))
        have HC6 := hide hcd6
        clear hcd6 hg6 HW5 HC5 HK5 HBW5 N8
        have c8 := bk6 HK6.out q1 (by show q1 < 8; omega)
        rw [HWH.out] at c8
        have AD := hide (AO w6 G G _ wh 0 0 vv HW6.out (by have := HWB.out; omega) (by show 0 < l1.length; rw [HL2.out]; omega) (by omega) HUV.out (by show ms.length ≤ 1000; rw [HML.out]; omega))
        go_wp2_with fail
        refine AD.out.mono ?_
        rintro e w7 ⟨rfl, hw7, hb7, hk7⟩
        have HW7 := hide hw7
        have HC7 := hide (Cd.belowB HC6.out hb7 hgC6)
        have HK7 := hide (hk7 _ _ HK6.out)
        have HBW7 := hide (HBW6.out.trans (hb7.mono (Nat.le_of_lt hgC6)))
        clear hw7 hb7 hk7 AD c8 HW6 HC6 HK6 HBW6 eV1 eV2
        go_wp2
        go_roundg (gk - 1)
        case rel =>
          refine ⟨j + 1, _, ms ++ [mc0 wh 0 0 vv], by omega, by go_num, by simp [HML.out], fun x hx => ?_, HW7.out, HC7.out, HK7.out, HBW7.out⟩
          rcases List.mem_append.1 hx with h | h
          · exact HALL.out x h
          · rw [List.mem_singleton.1 h]
            exact ⟨wh, vv, HWB.out.1, HWB.out.2, HUV.out, rfl⟩
        case measure => omega
    · obtain rfl : j = most := by omega
      clear HW HC HK HBW
      go_wp2
      go_ret
      first
        | exact fin.out _ (Below.refl _ _)
        | (obtain ⟨G', l, s', tn, ms, h1, h2, h3, h4, h5⟩ := fin.out _ (Below.refl _ _); exact ⟨G', h1, h2, l, s', tn, ms, h3, h4, h5⟩)
end Go.Proofs.Ytepngbdjobckbaa
