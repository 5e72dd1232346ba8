/- The walk of ClaimOnce. -/
import Derived.Test.YtadaoobdnnleaaaW12a
import Derived.Test.YtadaoobdnnleaaaY12
namespace Go.Proofs.Ytadaoobdnnleaaa
open Go.RowKit
set_option linter.unusedVariables false
theorem pl2_len (s : St) (K : Nat) : ∀ n, (pl2 K s n).ms.length = s.ms.length := by
  intro n
  induction n with
  | zero => rfl
  | succ n ih => rw [pl2, pl3_len, ih]
theorem plays_len (p : List Int) (most turns : Nat) (s : St) : (plays p most turns s).ms.length = s.ms.length := by
  rw [plays, pl2_len, pl1_len]
theorem arm_cla {p : Nat} (hp : p < 31) {ms : List Mc} (hc : clN [1] 1 = (p : Int)) (h : ∀ x ∈ ms, x = mc0 7 0 1 0 ∨ x = mc0 10 0 1 0) : ClA p { sArm p with ms := ms } := by
  have hl : (iniI [1] [0] 2).length = 31 := by decide +kernel
  refine ⟨⟨by show p < ((iniI [1] [0] 2).set p 1).length; simp [hl]; omega, fun i x hx => ?_⟩, ?_, fun i x hx => ?_⟩
  · rcases h x (List.mem_of_getElem? hx) with rfl | rfl
    · exact ⟨Or.inl rfl, hc⟩
    · exact ⟨Or.inr rfl, hc⟩
  · show ((iniI [1] [0] 2).set p 1).getD p 0 = 1
    exact getD_set_self (by omega) _
  · rcases h x (List.mem_of_getElem? hx) with rfl | rfl <;> rfl
def wonN (k j : Nat) : Int := if k < j then 1 else 0
set_option maxHeartbeats 4000000 in
set_option maxRecDepth 100000 in
theorem claimOnce_walk (a0 : Option Addr) (len0 cap0 : Nat) (z0 : List Int) (a1 : Option Addr) (len1 cap1 : Nat) (z1 : List Int) (w : World) (w0 : Row .u8 w a0 len0 cap0 z0) (w1 : Row .u8 w a1 len1 cap1 z1) :
    Calls Try.prog 8 #[.slice a0 len0 cap0, .slice a1 len1 cap1] w fun e w' => e = .returned (.bool true) ∧ Below w.heap.size w w' := by
  obtain ⟨hI1, hc1, hm1, hwf1⟩ := w0.isI
  obtain ⟨hI2, hc2, hm2, hwf2⟩ := w1.isI
  have H1 := hide hI1
  have HB1 := hide (show ∀ x ∈ z0.take len0, 0 ≤ x ∧ x ≤ 255 from fun x hx => bounds_u8 (hwf1 x hx))
  have H2 := hide hI2
  have HB2 := hide (show ∀ x ∈ z1.take len1, 0 ≤ x ∧ x ≤ 255 from fun x hx => bounds_u8 (hwf2 x hx))
  clear hwf1 w0 hI1 hwf2 w1 hI2
  generalize z0.take len0 = l0 at H1 HB1
  generalize z1.take len1 = l1 at H2 HB2
  have hcm1 : cap0 ≤ 9223372036854775807 := hm1
  have hcm2 : cap1 ≤ 9223372036854775807 := hm2
  have HAB := hide (show 0 < len1 → ∀ ad, a1 = some ad → ad.block < w.heap.size from fun h0 ad e => by
    obtain ⟨ad', e', _, hcl⟩ := H2.out.at_ h0
    rw [e] at e'
    cases e'
    have := block_lt hcl
    rwa [block_add] at this)
  clear hm1 hm2
  go_enter Try.func8, Try.ntmps8
  go_wp2_with fail
  refine (awake12_any _).mono ?_
  rintro e y1 ⟨rfl, hb1⟩
  have hs1 := hb1.size
  go_wp2_with fail
  refine (new_any y1 _ _ _ _ 40 (H1.out.below hb1) HB1.out (by omega) hc1 hcm1).mono ?_
  rintro e y2 ⟨rfl, hcd, hb2'⟩
  have BW2 := hide (hb1.trans (hb2'.mono hs1))
  have CD2 := hide hcd
  clear hb1 hb2' hcd H1 HB1
  generalize hgC : y1.heap.size = gC at *
  clear hgC
  go_wp2_with fail
  refine (one12_ty y2).mono ?_
  rintro e y3 ⟨A, B, rfl, hcf, hty, hsi, hb3⟩
  have BW3 := hide (BW2.out.trans (hb3.mono BW2.out.size))
  have CF := hide hcf
  have TY := hide hty
  have SI := hide hsi
  have hgC2 := CD2.out.lt
  have CD3 := hide (Cd.below CD2.out hb3)
  have hgC3 : gC < y3.heap.size := Nat.lt_of_lt_of_le hgC2 hb3.size
  clear hcf hty hsi hb3 BW2 CD2
  go_wp2_with fail
  refine (begin_one y3 A B CF.out SI.out).mono ?_
  rintro e y4 ⟨gW, gL, rfl, hk, hgw, hb4⟩
  have hgW : w.heap.size ≤ gW := Nat.le_trans BW3.out.size hgw
  have hgCW : gC < gW := Nat.lt_of_lt_of_le hgC3 hgw
  have BW4 := hide (BW3.out.trans (hb4.mono BW3.out.size))
  have CF4 := hide (CF.out.below hb4)
  have TY4 := hide (TY.out.below hb4)
  have CD4 := hide (Cd.below CD3.out hb4)
  have HK := hide hk
  have hgG : gW < y4.heap.size := hk.lt
  clear hk hb4 BW3 CF TY SI CD3 hgw hgC2 hgC3
  go_upto_region 5 with fail
  have KG := hide (Bk.new y4 70 #[.slice A 1 1, .slice B 1 1, .int .i64 2, .slice (some ⟨gW, 0, none⟩) 31 31, .slice (some ⟨gL, 0, none⟩) 2 2, .int .i64 0, .slice none 0 0, .slice none 0 0, .slice none 0 0, .slice none 0 0])
  have HB5 := hide (below_new y4 (.cells #[.slice A 1 1, .slice B 1 1, .int .i64 2, .slice (some ⟨gW, 0, none⟩) 31 31, .slice (some ⟨gL, 0, none⟩) 2 2, .int .i64 0, .slice none 0 0, .slice none 0 0, .slice none 0 0, .slice none 0 0] 70))
  have hwG : w.heap.size ≤ y4.heap.size := BW4.out.size
  have CF5 := hide (CF4.out.below HB5.out)
  have TY5 := hide (TY4.out.below HB5.out)
  have HK5 := hide (HK.out.below HB5.out HK.out.lt)
  have CD5 := hide (Cd.below CD4.out HB5.out)
  have BW5 := hide (BW4.out.trans (HB5.out.mono hwG))
  clear CF4 TY4 HK BW4 HB5 CD4
  generalize (y4.alloc (.cells #[.slice A 1 1, .slice B 1 1, .int .i64 2, .slice (some ⟨gW, 0, none⟩) 31 31, .slice (some ⟨gL, 0, none⟩) 2 2, .int .i64 0, .slice none 0 0, .slice none 0 0, .slice none 0 0, .slice none 0 0] 70)) = y5 at *
  generalize y4.heap.size = G at *
  have hGl5 := KG.out.lt
  obtain ⟨k0, k1, k2, k3, -⟩ := bk10 KG.out
  have HB0 : Hid (Below y5.heap.size y5 y5.drew) := hide (Below.refl y5.heap.size y5).drew
  have QC := hide (fun W (hW : Below y5.heap.size y5 W) => show Calls Try.prog 30 #[.agg #[.slice A 1 1, .slice B 1 1, .int .i64 2], .int .i64 1] W fun e w' => e = .returned (.int .i64 20) ∧ Below W.heap.size W w' from rclaim_any W A 1 1 [1] B 1 1 2 (CF5.out.below hW) 1 (by omega))
  go_region_held3 (fun u => u.cell? ⟨G, 0, none⟩ = some (.slice A 1 1) ∧ u.cell? ⟨G, 1, none⟩ = some (.slice B 1 1) ∧ u.cell? ⟨G, 2, none⟩ = some (.int .i64 2) ∧ u.cell? ⟨G, 3, none⟩ = some (.slice (some ⟨gW, 0, none⟩) 31 31)) (go_keep) (first
    | (go_at_call 30; refine (QC.out _ HB0.out).mono ?_; rintro e w3 ⟨rfl, hb⟩; have HB3 := hide (HB0.out.trans (hb.mono HB0.out.size)); obtain ⟨k0, k1, k2, k3, -⟩ := bk10 (KG.out.below HB3.out KG.out.lt); have HK3 := hide (HK5.out.below HB3.out HK5.out.lt); have c9 := wc_cell HK3.out (k := 20) (by decide +kernel); have f9 := HK3.out.frozen 20; have nGW : G ≠ gW := (by omega); have nWG := Ne.symm nGW; clear hb))
  all_goals
    have WI5 := hide (wi_one (own := Own12) (Rp := Rp12) tw12 (KG.out.below HB3.out KG.out.lt) (CF5.out.below HB3.out) (TY5.out.below HB3.out) HK3.out 20 1 (by unfold u64; omega))
    have BW6 := hide ((BW5.out.trans (HB3.out.mono BW5.out.size)).setCell (p := ⟨gW, 20, none⟩) hgW (.int .u64 1))
    have CD6 := hide (Cd.belowB CD5.out ((HB3.out.mono (show gW ≤ y5.heap.size by omega)).setCell (p := ⟨gW, 20, none⟩) (Nat.le_refl _) (.int .u64 1)) hgCW)
    have hGG : gC < G := by omega
    clear k0 k1 k2 k3 HK3 c9 f9 nGW nWG QC HB0 BW5 HK5 TY5 CF5 KG HB3 CD5
    generalize w3.setCell ⟨gW, 20, none⟩ (.int .u64 1) = w4 at *
    have WI6 : Hid (WI Own12 Rp12 w4 G G 70 { sArm 20 with ms := [] }) := WI5
    clear WI5
    go_wp2
    go_loopg [7] 6 (fun g i wr => ∃ (j : Nat) (r : List Int) (ms : List Mc), g + j = 6 ∧ i = .int .i64 j ∧ ms.length = j ∧ (∀ x ∈ ms, x = mc0 7 0 1 0 ∨ x = mc0 10 0 1 0) ∧ WI Own12 Rp12 wr G G 70 { sArm 20 with ms := ms } ∧ Cd wr gC r 0 ∧ Below w.heap.size w wr)
    case atStart => exact ⟨0, _, [], by omega, rfl, rfl, fun x hx => by simp at hx, WI6.out, CD6.out, BW6.out⟩
    case round =>
      obtain ⟨j, r, ms, hj, rfl, hml, hall, hwi, hcd, hbw⟩ := hrel
      have HML := hide hml
      have HALL := hide hall
      clear hml hall WI6 CD6 BW6
      obtain ⟨q1, hq1⟩ := Int.eq_ofNat_of_zero_le (codeV_bd r 4 (by omega)).1
      have hq2 := (codeV_bd r 4 (by omega)).2
      rw [hq1] at hq2
      have hqq : q1 < 4 := by omega
      obtain ⟨m, hm⟩ : ∃ m, m = 2 + q1 := ⟨_, rfl⟩
      have eM : IntKind.i64.wrap (2 + (q1 : Int)) = (m : Int) := by rw [show 2 + (q1 : Int) = (m : Int) by omega]; exact IntWalk.i64_in (m : Int) ⟨by omega, by omega⟩
      have hm5 : m ≤ 5 := by omega
      have hm2' : 2 ≤ m := by omega
      have N4 := hide (show Calls Try.prog 19 #[.pointer (some ⟨gC, 0, none⟩), .int .i64 4] wr fun e w' => e = .returned (.int .i64 (q1 : Nat)) ∧ Cd w' gC r.tail 0 ∧ wr.grownBy w' (some gC) by
        have := codeNext wr gC r 0 4 hcd (by omega) (by omega)
        rwa [hq1] at this)
      have HI := hide hwi
      have HC := hide hcd
      have HW := hide hbw
      clear hwi hcd hbw hq1 hq2 hm
      go_wp2_with fail
      refine N4.out.mono ?_
      rintro e w5 ⟨rfl, hcd5, hg5⟩
      have WI7 := hide (WI.codes HI.out hg5 HC.out hGG)
      have CD8 := hide hcd5
      have BW8 := hide (below_grownBy HW.out hg5 (Nat.le_refl _) hs1)
      have hGw5 := WI7.out.lt.2
      clear hcd5 hg5 HI HC HW N4
      by_cases hlt : j < m
      · obtain ⟨q3, hq3⟩ := Int.eq_ofNat_of_zero_le (codeV_bd r.tail 2 (by omega)).1
        have hq4 := (codeV_bd r.tail 2 (by omega)).2
        rw [hq3] at hq4
        have hq32 : q3 = 0 ∨ q3 = 1 := by omega
        have hj5 : j ≤ 4 := by omega
        have N2 := hide (fun (W : World) (hW : Cd W gC r.tail 0) => show Calls Try.prog 19 #[.pointer (some ⟨gC, 0, none⟩), .int .i64 2] W fun e w' => e = .returned (.int .i64 (q3 : Nat)) ∧ Cd w' gC r.tail.tail 0 ∧ W.grownBy w' (some gC) by
          have := codeNext W gC r.tail 0 2 hW (by omega) (by omega)
          rwa [hq3] at this)
        have HQ := hide hq32
        clear hq3 hq4 hq32
        go_wp2_with fail
        refine (N2.out _ (CD8.out.alloc _)).mono ?_
        rintro e w6 ⟨rfl, hcd6, hg6⟩
        have WI9 := hide (WI.codes (WI7.out.below (below_new w5 (.cells #[.int .i64 7, .int .i64 10] 3))) hg6 (CD8.out.alloc _) hGG)
        have CD9 := hide hcd6
        have BW9 := hide (below_grownBy (BW8.out.trans ((below_new w5 (.cells #[.int .i64 7, .int .i64 10] 3)).mono BW8.out.size)) hg6 (Nat.le_refl _) hs1)
        have KS := (Bk.new w5 3 #[.int .i64 7, .int .i64 10]).grown hg6 (by simp; omega)
        obtain ⟨c0, c1, -⟩ := bk2 KS
        have AD := hide (fun (wh : Nat) (hw : wh = 7 ∨ wh = 10) => show Calls Try.prog 31 #[.pointer (some ⟨G, 0, none⟩), .int .i64 wh, .int .i64 0, .int .i64 1, .int .u64 0] w6 fun e w' => e = .returned (.tuple #[]) ∧ WI Own12 Rp12 w' G G 70 { sArm 20 with ms := ms ++ [mc0 wh 0 1 0] } ∧ Below G w6 w' from
          add12_wi w6 G G _ wh 0 1 0 WI9.out (by omega) (by show 0 < 1; omega) (by omega) z_u64 (by show ms.length ≤ 1000; rw [HML.out]; omega))
        have HAL2 := hide (fun (wh : Nat) (hw : wh = 7 ∨ wh = 10) => show ∀ x ∈ ms ++ [mc0 wh 0 1 0], x = mc0 7 0 1 0 ∨ x = mc0 10 0 1 0 from fun x hx => by
          rcases List.mem_append.1 hx with h | h
          · exact HALL.out x h
          · rw [List.mem_singleton.1 h]
            rcases hw with rfl | rfl
            · exact Or.inl rfl
            · exact Or.inr rfl)
        clear hcd6 hg6 KS WI7 CD8 BW8 N2 hGw5 eM WI9
        rcases HQ.out with rfl | rfl
        · go_wp2_with fail
          refine (AD.out 7 (Or.inl rfl)).mono ?_
          rintro e w7 ⟨rfl, hw7, hb7⟩
          have WI10 := hide hw7
          have CD10 := hide (Cd.belowB CD9.out hb7 hGG)
          have BW10 := hide (BW9.out.trans (hb7.mono hwG))
          clear hw7 hb7 AD CD9 BW9 c0 c1
          go_wp2
          go_roundg (gk - 1)
          case rel => exact ⟨j + 1, _, ms ++ [mc0 7 0 1 0], by omega, by go_num, by simp [HML.out], HAL2.out 7 (Or.inl rfl), WI10.out, CD10.out, BW10.out⟩
          case measure => omega
        · go_wp2_with fail
          refine (AD.out 10 (Or.inr rfl)).mono ?_
          rintro e w7 ⟨rfl, hw7, hb7⟩
          have WI10 := hide hw7
          have CD10 := hide (Cd.belowB CD9.out hb7 hGG)
          have BW10 := hide (BW9.out.trans (hb7.mono hwG))
          clear hw7 hb7 AD CD9 BW9 c0 c1
          go_wp2
          go_roundg (gk - 1)
          case rel => exact ⟨j + 1, _, ms ++ [mc0 10 0 1 0], by omega, by go_num, by simp [HML.out], HAL2.out 10 (Or.inr rfl), WI10.out, CD10.out, BW10.out⟩
          case measure => omega
      · have PL := hide (play12_any knows12 w5 G G _ a1 len1 cap1 l1 60 1 WI7.out (H2.out.below BW8.out) HB2.out (fun h0 ad e => Nat.lt_of_lt_of_le (HAB.out h0 ad e) hwG) (by omega) (by omega) (by omega) (by show 0 < ms.length; rw [HML.out]; omega) (by show ms.length ≤ 20; rw [HML.out]; omega) (by show 0 ≤ 100; omega))
        obtain ⟨k, hkl, hclb⟩ := (arm_cla (p := 20) (by omega) (by decide) HALL.out).plays (by show 0 < ms.length; rw [HML.out]; omega) l1 60
        have hkj : k < j := by have : ({ sArm 20 with ms := ms } : St).ms.length = j := HML.out; omega
        have hlF : (plays l1 60 1 { sArm 20 with ms := ms }).ms.length = j := by rw [plays_len]; exact HML.out
        have HLF := hide hlF
        have HCB := hide hclb
        have hj6 : j ≤ 6 := by omega
        clear hkl hclb hlF WI7 CD8
        go_wp2_with fail
        refine PL.out.mono ?_
        rintro e w9 ⟨rfl, hw9, hb9⟩
        generalize plays l1 60 1 { sArm 20 with ms := ms } = sF at *
        have HB9 := hide (BW8.out.trans (hb9.mono hwG))
        have WI9 := hide hw9
        obtain ⟨FA0, fc0, k9⟩ := hw9.rowF
        rw [HLF.out] at k9
        clear hb9 hw9 PL BW8 eM HAB H2 HB2
        go_wp2
        go_loopg [8, 9, 10, 11, 56] j (fun g s8 s9 s10 s11 s56 wr2 => ∃ i : Nat, g + i = j ∧ s56 = .int .i64 i ∧ s8 = .int .i64 (wonN k i) ∧ WI Own12 Rp12 wr2 G G 70 sF ∧ Below w.heap.size w wr2)
        case atStart => exact ⟨0, by omega, rfl, rfl, WI9.out, HB9.out⟩
        case round =>
          obtain ⟨i, hi, rfl, rfl, hwi, hbw⟩ := hrel
          clear WI9 HB9 k9
          by_cases hij : i < j
          · have hx : sF.ms[i]? = some (sF.ms[i]'(by rw [HLF.out]; exact hij)) := List.getElem?_eq_getElem _
            generalize sF.ms[i]'(by rw [HLF.out]; exact hij) = x at hx
            have hwhat := (HCB.out.1.ms i x hx).1
            obtain ⟨gF, cF, FA, fn, fc, FB, fm, fd, code, pc, k9, f0, f1, f2, f3, f4, hend⟩ := hwi.fend knows12 hx (by unfold Own12; omega)
            rw [HLF.out] at k9
            have d1 : decide ((i : Int) < 0) = false := by simp
            have d2 : decide (j ≤ i) = false := by simp; omega
            have hcs : (i = k ∧ x.at_ = 0 ∧ x.ok = 7) ∨ (i ≠ k ∧ ((x.at_ = 0 ∧ x.ok = 8) ∨ x.at_ = 1)) := by
              by_cases e : i = k
              · left
                obtain ⟨y, hy, h0, h7⟩ := HCB.out.2.2.1
                rw [e, hy] at hx
                cases hx
                exact ⟨e, h0, h7⟩
              · exact Or.inr ⟨e, HCB.out.2.2.2 i x hx e⟩
            have HWI := hide hwi
            have HBW := hide hbw
            clear hwi hbw
            rcases hcs with ⟨hik, h0, h7⟩ | ⟨hik, ⟨h0, h7⟩ | h0⟩
            · have HIK := hide hik
              have e8 : wonN k i = 0 := by unfold wonN; rw [if_neg (by omega)]
              clear hik
              have HE := hide (fun W (hW : Below wr.heap.size wr W) => show Calls Try.prog 38 #[.agg #[.int .i64 code, .int .i64 pc, .slice FA fn fc, .slice FB fm fd, .slice none 0 0]] W fun e w' => e = .returned (.tuple #[.agg #[.int .i64 7, .int .u64 x.ov], .bool true]) ∧ Below W.heap.size W w' from by have h := hend W hW; rw [h0, h7] at h; exact h)
              clear hend HCB hwhat hx
              generalize x.at_ = xk at *
              generalize x.ov = xo at *
              go_wp2_with fail
              refine (HE.out _ (Below.refl _ _)).mono ?_
              rintro e w10 ⟨rfl, hb10⟩
              have WI11 := hide ((HWI.out.below hb10).below (below_new w10 (.cells #[.int .i64 7, .int .u64 xo] 50)))
              have BW11 := hide ((HBW.out.trans (hb10.mono HBW.out.size)).trans ((below_new w10 (.cells #[.int .i64 7, .int .u64 xo] 50)).mono (Nat.le_trans HBW.out.size hb10.size)))
              clear k9 f0 f1 f2 f3 f4 hb10 HE HWI HBW
              go_wp2
              go_roundg (gk - 1)
              case rel => exact ⟨i + 1, by omega, by go_num, by have := HIK.out; unfold wonN; rw [if_pos (by omega)], WI11.out, BW11.out⟩
              case measure => omega
            · have E9 : Hid (wonN k i = wonN k (i + 1)) := hide (by unfold wonN; by_cases h : k < i <;> simp [h] <;> omega)
              clear hik
              have HE := hide (fun W (hW : Below wr.heap.size wr W) => show Calls Try.prog 38 #[.agg #[.int .i64 code, .int .i64 pc, .slice FA fn fc, .slice FB fm fd, .slice none 0 0]] W fun e w' => e = .returned (.tuple #[.agg #[.int .i64 8, .int .u64 x.ov], .bool true]) ∧ Below W.heap.size W w' from by have h := hend W hW; rw [h0, h7] at h; exact h)
              clear hend HCB hwhat hx
              generalize x.at_ = xk at *
              generalize x.ov = xo at *
              go_wp2_with fail
              refine (HE.out _ (Below.refl _ _)).mono ?_
              rintro e w10 ⟨rfl, hb10⟩
              have WI11 := hide ((HWI.out.below hb10).below (below_new w10 (.cells #[.int .i64 8, .int .u64 xo] 50)))
              have BW11 := hide ((HBW.out.trans (hb10.mono HBW.out.size)).trans ((below_new w10 (.cells #[.int .i64 8, .int .u64 xo] 50)).mono (Nat.le_trans HBW.out.size hb10.size)))
              clear k9 f0 f1 f2 f3 f4 hb10 HE HWI HBW
              go_wp2
              go_roundg (gk - 1)
              case rel => exact ⟨i + 1, by omega, by go_num, by rw [E9.out], WI11.out, BW11.out⟩
              case measure => omega
            · have E9 : Hid (wonN k i = wonN k (i + 1)) := hide (by unfold wonN; by_cases h : k < i <;> simp [h] <;> omega)
              clear hik
              have HE := hide (fun W (hW : Below wr.heap.size wr W) => show Calls Try.prog 38 #[.agg #[.int .i64 code, .int .i64 pc, .slice FA fn fc, .slice FB fm fd, .slice none 0 0]] W fun e w' => e = .returned (.tuple #[.agg #[.int .i64 x.ok, .int .u64 x.ov], .bool false]) ∧ Below W.heap.size W w' from by have h := hend W hW; rw [h0] at h; exact h)
              clear hend HCB hwhat hx
              generalize x.at_ = xk at *
              generalize x.ov = xo at *
              go_wp2_with fail
              refine (HE.out _ (Below.refl _ _)).mono ?_
              rintro e w10 ⟨rfl, hb10⟩
              have WI11 := hide ((HWI.out.below hb10).below (below_new w10 (.cells #[.int .i64 x.ok, .int .u64 xo] 50)))
              have BW11 := hide ((HBW.out.trans (hb10.mono HBW.out.size)).trans ((below_new w10 (.cells #[.int .i64 x.ok, .int .u64 xo] 50)).mono (Nat.le_trans HBW.out.size hb10.size)))
              clear k9 f0 f1 f2 f3 f4 hb10 HE HWI HBW
              go_wp2
              go_roundg (gk - 1)
              case rel => exact ⟨i + 1, by omega, by go_num, by rw [E9.out], WI11.out, BW11.out⟩
              case measure => omega
          · obtain rfl : i = j := by omega
            have e8 : wonN k i = 1 := by unfold wonN; rw [if_pos hkj]
            have HBW := hide hbw
            clear hwi hbw
            go_wp2
            go_ret
            exact ⟨rfl, HBW.out⟩
end Go.Proofs.Ytadaoobdnnleaaa
