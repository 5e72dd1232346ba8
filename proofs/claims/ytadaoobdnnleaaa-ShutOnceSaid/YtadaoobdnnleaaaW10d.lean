/- The walk of ShutOnce. -/
import Derived.Test.YtadaoobdnnleaaaA10
import Derived.Test.YtadaoobdnnleaaaY10
import Derived.Test.YtadaoobdnnleaaaYI
namespace Go.Proofs.Ytadaoobdnnleaaa
open Go.RowKit
set_option linter.unusedVariables false
def wonN (k j : Nat) : Int := if k < j then 1 else 0
theorem once_sha {l s : List Int} {tn : Nat} (hl : Cap l) (hn : 1 ≤ l.length) (K : Nat) : ShA (pk (s.getD 0 0) false) { st0 l s tn with ms := List.replicate K (mc0 5 0 0 0) } := by
  have g := hl.at_ (show 0 < l.length by omega)
  have g1 := sz_bd _ g.1 g.2
  have g3 := tot_lo hl hn tn
  refine ⟨⟨?_, fun i x hx => ?_⟩, ini_0 hl hn tn, fun i x hx => ?_⟩
  · show 0 < (iniI l s tn).length
    rw [ini_len]
    omega
  · rw [List.eq_of_mem_replicate (List.mem_of_getElem? hx)]
    exact ⟨rfl, rfl⟩
  · rw [List.eq_of_mem_replicate (List.mem_of_getElem? hx)]
    exact Or.inl rfl
set_option maxHeartbeats 4000000 in
set_option maxRecDepth 100000 in
theorem shutOnce_walk (a0 : Option Addr) (len0 cap0 : Nat) (z0 : List Int) (a1 : Int) (a2 : Option Addr) (len2 cap2 : Nat) (z2 : List Int) (w : World) (w0 : Row .u8 w a0 len0 cap0 z0) (w1 : (Lit.int .u8 a1).wf = true) (w2 : Row .u8 w a2 len2 cap2 z2) :
    Calls Try.prog 13 #[.slice a0 len0 cap0, .int .u8 a1, .slice a2 len2 cap2] w fun e w' => e = .returned (.bool true) ∧ Below w.heap.size w w' := by
  have hb1 := bounds_u8 w1
  obtain ⟨hI1, hc1, hm1, hwf1⟩ := w0.isI
  obtain ⟨hI2, hc2, hm2, hwf2⟩ := w2.isI
  have H1 := hide hI1
  have HB1 := hide (show ∀ x ∈ z0.take len0, 0 ≤ x ∧ x ≤ 255 from fun x hx => bounds_u8 (hwf1 x hx))
  have H2 := hide hI2
  have HB2 := hide (show ∀ x ∈ z2.take len2, 0 ≤ x ∧ x ≤ 255 from fun x hx => bounds_u8 (hwf2 x hx))
  clear hwf1 w0 hI1 hwf2 w2 hI2 w1
  generalize z0.take len0 = l0 at H1 HB1
  generalize z2.take len2 = l2 at H2 HB2
  have hcm1 : cap0 ≤ 9223372036854775807 := hm1
  have hcm2 : cap2 ≤ 9223372036854775807 := hm2
  have HAB := hide (show 0 < len0 → ∀ ad, a0 = some ad → ad.block < w.heap.size from fun h0 ad e => by
    obtain ⟨ad', e', _, hcl⟩ := H1.out.at_ h0
    rw [e] at e'
    cases e'
    have := block_lt hcl
    rwa [block_add] at this)
  obtain ⟨q5, hq5⟩ : ∃ q : Nat, a1 % 5 = q := Int.eq_ofNat_of_zero_le (Int.emod_nonneg _ (by omega))
  have hq5l : q5 < 5 := by omega
  have ET := hide (show a1.tmod 5 = (q5 : Int) by rw [Int.tmod_eq_emod_of_nonneg hb1.1, hq5])
  have E8 := hide (show IntKind.u8.wrap (q5 : Int) = (q5 : Int) by simp [IntKind.wrap, IntKind.bits, IntKind.signed]; omega)
  have E64 := hide (show IntKind.i64.wrap (q5 : Int) = (q5 : Int) from IntWalk.i64_in _ ⟨by omega, by omega⟩)
  clear hm1 hm2 hq5
  go_enter Try.func13, Try.ntmps13
  go_wp2_with fail
  refine (awake10_any _).mono ?_
  rintro e y1 ⟨rfl, hb1'⟩
  have hs1 := hb1'.size
  have HB1' := hide hb1'
  clear hb1'
  go_wp2_with fail
  refine (others10_any addOk10 y1 _ _ _ _ (H2.out.below HB1'.out) HB2.out hc2 hcm2 0 (by omega)).mono ?_
  rintro e y2 ⟨G, l, s, tn, ms, rfl, hG, hwi, hok, hb2⟩
  obtain rfl : ms = [] := List.length_eq_zero_iff.1 (by have := hok.k; omega)
  have hwG : w.heap.size ≤ G := Nat.le_trans hs1 hG
  have BW2 := hide (HB1'.out.trans (hb2.mono hs1))
  have WI2 := hide hwi
  have OK := hide hok
  have HCAP : Hid (Cap l) := hide hwi.cap
  clear hwi hok hb2 HB1' H2 HB2
  obtain ⟨MA, mn, mc, k3, hI, hmn⟩ := WI2.out.words
  have g1 := sz_bd _ (show 0 ≤ l.getD 0 0 by have := OK.out.c; omega) (by have := OK.out.c; omega)
  have g3 := tot_lo HCAP.out OK.out.n.1 tn
  have hmlen : mn = totI l tn := by rw [← hI.len]; exact ini_len l s tn
  obtain ⟨b, hb⟩ : ∃ b, pk (s.getD 0 0) false = b := ⟨_, rfl⟩
  have hbb : 0 ≤ b ∧ b < 18446744073709551615 ∧ b % 2 = 0 := by rw [← hb]; unfold pk; simp; omega
  obtain ⟨ad, rfl, -, hc⟩ := hI.at_ (show 0 < mn by omega)
  have hg0 : ({ st0 l s tn with ms := [] } : St).ws.getD 0 0 = b := by rw [← hb]; exact ini_0 HCAP.out OK.out.n.1 tn
  rw [hg0] at hc
  have c00 : y2.cell? ad = some (.int .u64 b) := by rwa [show ad.add 0 = ad by rcases ad with ⟨_, _, _ | _⟩ <;> rfl] at hc
  have hmn1 : 0 < mn := by omega
  have d0 : decide (mn ≤ 0) = false := by simp; omega
  have HB := hide hb
  have hGl := WI2.out.lt.2
  clear hI hmlen hg0 hc hb g1 g3
  have eT := ET.out
  have e8 := E8.out
  have e64 := E64.out
  have WI3 : Hid (WI Own10 Rp10 y2 G G 82 { st0 l s tn with ms := List.replicate 0 (mc0 5 0 0 0) }) := WI2
  clear WI2
  go_wp2
  go_loopg [9] (q5 + 1) (fun g i wr => ∃ j : Nat, g + j = q5 + 1 ∧ i = .int .i64 j ∧ WI Own10 Rp10 wr G G 82 { st0 l s tn with ms := List.replicate j (mc0 5 0 0 0) } ∧ Below w.heap.size w wr)
  case atStart => exact ⟨0, by omega, rfl, WI3.out, BW2.out⟩
  case round =>
    obtain ⟨j, hj, rfl, hwi, hbw⟩ := hrel
    have HW := hide hwi
    have HBW := hide hbw
    clear hwi hbw WI3 BW2 k3 c00 d0
    by_cases hlt : j ≤ q5
    · have d1 : decide ((j : Int) ≤ (q5 : Int)) = true := by simp; omega
      have AD := hide (add10_wi wr G G _ 5 0 0 0 HW.out (by omega) (by show 0 < l.length; have := OK.out.n; omega) (by omega) (by unfold Go.Proofs.Ytadaoobdnnleaaa.u64; omega) (by show (List.replicate j (mc0 5 0 0 0)).length ≤ 1000; rw [List.length_replicate]; omega))
      go_wp2_with fail
      refine AD.out.mono ?_
      rintro e w5 ⟨rfl, hw5, hb5, -⟩
      have HW5 := hide hw5
      have HBW5 := hide (HBW.out.trans (hb5.mono hwG))
      clear hw5 hb5 AD HW HBW
      go_wp2
      go_roundg (gk - 1)
      case rel => exact ⟨j + 1, by omega, by go_num, by rw [List.replicate_succ']; exact HW5.out, HBW5.out⟩
      case measure => omega
    · have hjq : j ≤ q5 + 1 ∧ 0 < j := by omega
      have d1 : decide ((j : Int) ≤ (q5 : Int)) = false := by simp; omega
      have HK : Hid ((List.replicate j (mc0 5 0 0 0)).length = j) := hide (List.length_replicate ..)
      have PL := hide (play10_any knows10 wr G G _ a0 len0 cap0 l0 60 12 HW.out (H1.out.below HBW.out) HB1.out (fun h0 ad e => Nat.lt_of_lt_of_le (HAB.out h0 ad e) hwG) (by omega) (by omega) (by omega) (by show 0 < (List.replicate j (mc0 5 0 0 0)).length; rw [HK.out]; omega) (by show (List.replicate j (mc0 5 0 0 0)).length ≤ 20; rw [HK.out]; omega) (by show 0 ≤ 100; omega))
      have hsha := once_sha (l := l) (s := s) (tn := tn) HCAP.out OK.out.n.1 j
      rw [HB.out] at hsha
      obtain ⟨k, hsb⟩ := ShA.plays hbb.1 (by omega) hbb.2.2 hsha (by show 0 < (List.replicate j (mc0 5 0 0 0)).length; rw [HK.out]; omega) l0 60 12 (by omega)
      have hlF : (plays l0 60 12 { st0 l s tn with ms := List.replicate j (mc0 5 0 0 0) }).ms.length = j := by rw [plays_len]; exact HK.out
      have HLF := hide hlF
      have HSB := hide hsb
      clear hsha hsb hlF HW
      generalize plays l0 60 12 { st0 l s tn with ms := List.replicate j (mc0 5 0 0 0) } = sF at *
      obtain ⟨K, hK⟩ : ∃ K, j = K := ⟨_, rfl⟩
      have hK5 : K ≤ 5 := by omega
      rw [hK] at HLF
      have hkK : k < K := by
        obtain ⟨y, hy, -⟩ := HSB.out.2.2.1
        have := (List.getElem?_eq_some_iff.1 hy).1
        rwa [HLF.out] at this
      clear hK HK
      go_wp2_with fail
      refine PL.out.mono ?_
      rintro e w9 ⟨rfl, hw9, hb9⟩
      have HB9 := hide (HBW.out.trans (hb9.mono hwG))
      have WI9 := hide hw9
      obtain ⟨FA0, fc0, k9⟩ := hw9.rowF
      rw [HLF.out] at k9
      clear hb9 hw9 PL HBW HAB H1 HB1 d1 eT e8 e64
      go_wp2
      go_loopg [10, 11, 12, 13, 44] K (fun g s10 s11 s12 s13 s44 wr2 => ∃ i : Nat, g + i = K ∧ s44 = .int .i64 i ∧ s10 = .int .i64 (wonN k i) ∧ WI Own10 Rp10 wr2 G G 82 sF ∧ Below w.heap.size w wr2)
      case atStart => exact ⟨0, by omega, rfl, rfl, WI9.out, HB9.out⟩
      case round =>
        obtain ⟨i, hi, rfl, rfl, hwi, hbw⟩ := hrel
        clear WI9 HB9 k9
        have HWI := hide hwi
        have HBW := hide hbw
        clear hwi hbw
        by_cases hij : i < K
        · have hx : sF.ms[i]? = some (sF.ms[i]'(by rw [HLF.out]; exact hij)) := List.getElem?_eq_getElem _
          generalize sF.ms[i]'(by rw [HLF.out]; exact hij) = x at hx
          have hwhat := (HSB.out.1.ms i x hx).1
          obtain ⟨gF, cF, FA, fn, fc, FB, fm, fd, code, pc, k9, f0, f1, f2, f3, f4, hend⟩ := HWI.out.fend knows10 hx hwhat
          rw [HLF.out] at k9
          have d1 : decide ((i : Int) < 0) = false := by simp
          have d2 : decide (K ≤ i) = false := by simp; omega
          obtain ⟨h0, hcs⟩ := ShB.all HSB.out hx
          rcases hcs with ⟨hik, h7⟩ | ⟨hik, h7⟩
          · have HIK := hide hik
            have e8 : wonN k i = 0 := by unfold wonN; rw [if_neg (by omega)]
            clear hik
            have HE := hide (fun W (hW : Below wr.heap.size wr W) => show Calls Try.prog 50 #[.agg #[.int .i64 code, .int .i64 pc, .slice FA fn fc, .slice FB fm fd, .slice none 0 0]] W fun e w' => e = .returned (.tuple #[.agg #[.int .i64 1, .int .u64 x.ov], .bool true]) ∧ Below W.heap.size W w' from by have h := hend W hW; rw [h0, h7] at h; exact h)
            clear hend hwhat hx h0 h7
            generalize x.ov = xo at *
            go_wp2_with fail
            refine (HE.out _ (Below.refl _ _)).mono ?_
            rintro e w10 ⟨rfl, hb10⟩
            have WI11 := hide ((HWI.out.below hb10).below (below_new w10 (.cells #[.int .i64 1, .int .u64 xo] 50)))
            have BW11 := hide ((HBW.out.trans (hb10.mono HBW.out.size)).trans ((below_new w10 (.cells #[.int .i64 1, .int .u64 xo] 50)).mono (Nat.le_trans HBW.out.size hb10.size)))
            clear k9 f0 f1 f2 f3 f4 hb10 HE HWI HBW
            go_wp2
            go_roundg (gk - 1)
            case rel => exact ⟨i + 1, by omega, by go_num, by have := HIK.out; unfold wonN; rw [if_pos (by omega)], WI11.out, BW11.out⟩
            case measure => omega
          · have E9 : Hid (wonN k i = wonN k (i + 1)) := hide (by unfold wonN; by_cases h : k < i <;> simp [h] <;> omega)
            clear hik
            have HE := hide (fun W (hW : Below wr.heap.size wr W) => show Calls Try.prog 50 #[.agg #[.int .i64 code, .int .i64 pc, .slice FA fn fc, .slice FB fm fd, .slice none 0 0]] W fun e w' => e = .returned (.tuple #[.agg #[.int .i64 4, .int .u64 x.ov], .bool true]) ∧ Below W.heap.size W w' from by have h := hend W hW; rw [h0, h7] at h; exact h)
            clear hend hwhat hx h0 h7
            generalize x.ov = xo at *
            go_wp2_with fail
            refine (HE.out _ (Below.refl _ _)).mono ?_
            rintro e w10 ⟨rfl, hb10⟩
            have WI11 := hide ((HWI.out.below hb10).below (below_new w10 (.cells #[.int .i64 4, .int .u64 xo] 50)))
            have BW11 := hide ((HBW.out.trans (hb10.mono HBW.out.size)).trans ((below_new w10 (.cells #[.int .i64 4, .int .u64 xo] 50)).mono (Nat.le_trans HBW.out.size hb10.size)))
            clear k9 f0 f1 f2 f3 f4 hb10 HE HWI HBW
            go_wp2
            go_roundg (gk - 1)
            case rel => exact ⟨i + 1, by omega, by go_num, by rw [E9.out], WI11.out, BW11.out⟩
            case measure => omega
        · obtain rfl : i = K := by omega
          have e8 : wonN k i = 1 := by unfold wonN; rw [if_pos hkK]
          obtain ⟨MA', mn', mc', k3, hI, -⟩ := HWI.out.words
          have hwl := HSB.out.1.wl
          have hmn' : 0 < mn' := by rw [← hI.len]; exact hwl
          obtain ⟨ad', rfl, -, hc⟩ := hI.at_ hmn'
          rw [HSB.out.2.1] at hc
          have c00 : wr.cell? ad' = some (.int .u64 (b + 1)) := by rwa [show ad'.add 0 = ad' by rcases ad' with ⟨_, _, _ | _⟩ <;> rfl] at hc
          have d0 : decide (mn' ≤ 0) = false := by simp; omega
          have eB : IntKind.u64.wrap (b + 1) = b + 1 := by rw [wrap_u64]; omega
          clear hI hc hwl
          go_wp2
          go_ret
          exact ⟨rfl, HBW.out⟩
end Go.Proofs.Ytadaoobdnnleaaa
