/- The walk of the answers' law of a chapter of the ring. -/
import Derived.Test.YtepngbdjobckbaaA11
import Derived.Test.YtepngbdjobckbaaG3
import Derived.Test.YtepngbdjobckbaaS0
import Derived.Test.YtepngbdjobckbaaG5
namespace Go.Proofs.Ytepngbdjobckbaa
open Go.RowKit
set_option linter.unusedVariables false
set_option linter.unusedSimpArgs false
theorem same11_wi {w : World} {base G i : Nat} {s : St} {x : Mc} (H : WI Own11 Rp11 w base G 49 s) (hx : s.ms[i]? = some x) (ho : Own11 x.what) :
    Calls Try.prog 21 #[.pointer (some ⟨G, 0, none⟩), .int .i64 i] w fun e w' => e = .returned (.bool true) ∧ Below w.heap.size w w' := by
  obtain ⟨qs, ⟨h, Hw⟩, I⟩ := H
  have hi := (List.getElem?_eq_some_iff.1 hx).1
  have hq' : i < qs.length := by have := I.ln; simp only at this; omega
  have hq : qs[i]? = some qs[i] := List.getElem?_eq_getElem hq'
  generalize qs[i] = q at hq
  have mvx := I.mv i x hx
  have hl : s.l.length = h.n := Hw.cf.len
  exact same11_yes w base G i h _ x q Hw hx hq (by rw [← hl]; exact mvx) ho (knows11.good _ x q I.cap mvx ho (I.rp i x q hx hq ho))
set_option maxHeartbeats 4000000 in
set_option maxRecDepth 100000 in
theorem answers11_walk (a0 : Option Addr) (len0 cap0 : Nat) (z0 : List Int) (a1 : Int) (a3 : Option Addr) (len3 cap3 : Nat) (w : World) (w0 : Row .u8 w a0 len0 cap0 z0) (w1 : (Lit.int .i64 a1).wf = true) (w3 : AnsRow w a3 len3) :
    Calls Try.prog 4 #[.slice a0 len0 cap0, .int .i64 a1, .slice a3 len3 cap3] w fun e w' => e = .returned (.bool true) ∧ Below w.heap.size w w' := by
  have hb1 := bounds_i64 w1
  obtain ⟨hI1, hc1, hm1, hwf1⟩ := w0.isI
  have H1 := hide hI1
  have HB1 := hide (show ∀ x ∈ z0.take len0, 0 ≤ x ∧ x ≤ 255 from fun x hx => bounds_u8 (hwf1 x hx))
  have AR := hide w3
  clear hwf1 w0 hI1 w1 w3
  generalize z0.take len0 = l0 at H1 HB1
  have hcm1 : cap0 ≤ 9223372036854775807 := hm1
  have hl3 : len3 ≤ 9223372036854775807 := AR.out.1
  have HB0 := hide hb1
  clear hm1 hb1
  go_enter Try.func4, Try.ntmps4
  go_wp2_with fail
  refine (awake11_any _).mono ?_
  rintro e y1 ⟨rfl, hb1'⟩
  have hs1 := hb1'.size
  go_wp2_with fail
  refine (new_any y1 _ _ _ _ 60 (H1.out.below hb1') HB1.out (by omega) hc1 hcm1).mono ?_
  rintro e y2 ⟨rfl, hcd, hb2'⟩
  have BW2 := hide (hb1'.trans (hb2'.mono hs1))
  have CD2 := hide hcd
  clear hb1' hb2' hcd H1 HB1
  generalize hgC : y1.heap.size = gC at *
  clear hgC
  go_wp2_with fail
  refine (config_cf2 _ _ _ _ CD2.out).mono ?_
  rintro e y3 ⟨A, n, c, B, d, tn, l, s, r', rfl, hcf, hty, hsi, hn1, hn3, hst, ht2, ht4, hcd3, hg⟩
  have BW3 := hide (below_grownBy BW2.out hg (Nat.le_refl _) hs1)
  have CF := hide hcf
  have TY := hide hty
  have SI := hide hsi
  have SB := hide hst
  have CD3 := hide hcd3
  have hgC3 := hcd3.lt
  clear hcf hty hsi hst hcd3 hg CD2 BW2
  go_wp2_with fail
  refine (begin_any y3 A n c l B d s tn CF.out SI.out SB.out (by omega) (by omega)).mono ?_
  rintro e y4 ⟨gW, gL, rfl, hk, hgw, hb4⟩
  have BW4 := hide (BW3.out.trans (hb4.mono BW3.out.size))
  have CD4 := hide (Cd.belowB CD3.out hb4 hgC3)
  have hgC4 : gC < y4.heap.size := Nat.lt_of_lt_of_le hgC3 hb4.size
  have hln : l.length = n := CF.out.len
  have HLN := hide hln
  have FW := hide (Fw.new (TW := 49) (gL := gL) (B := B) (d := d) (s := s) (c := c) (tn := tn) (gW := gW) y4 (CF.out.below hb4) (TY.out.below hb4) SB.out hk)
  clear hk hgw hb4 BW3 CF TY CD3 SI hgC3 SB hln
  have hwG : w.heap.size ≤ y4.heap.size := BW4.out.size
  go_upto_region 5 with fail
  have CD5 := hide (Cd.belowB CD4.out (below_new y4 (.cells #[.slice A n c, .slice B n d, .int .i64 tn, .slice (some ⟨gW, 0, none⟩) (totI l tn) (totI l tn), .slice (some ⟨gL, 0, none⟩) (2 * n) (2 * n), .int .i64 0, .slice none 0 0, .slice none 0 0, .slice none 0 0, .slice none 0 0] 49)) hgC4)
  have BW5 := hide (BW4.out.trans ((below_new y4 (.cells #[.slice A n c, .slice B n d, .int .i64 tn, .slice (some ⟨gW, 0, none⟩) (totI l tn) (totI l tn), .slice (some ⟨gL, 0, none⟩) (2 * n) (2 * n), .int .i64 0, .slice none 0 0, .slice none 0 0, .slice none 0 0, .slice none 0 0] 49)).mono BW4.out.size))
  clear CD4 BW4
  generalize (y4.alloc (.cells #[.slice A n c, .slice B n d, .int .i64 tn, .slice (some ⟨gW, 0, none⟩) (totI l tn) (totI l tn), .slice (some ⟨gL, 0, none⟩) (2 * n) (2 * n), .int .i64 0, .slice none 0 0, .slice none 0 0, .slice none 0 0, .slice none 0 0] 49)) = y5 at *
  generalize y4.heap.size = G at *
  obtain ⟨k0, k1, k2, k3, -⟩ := bk10 FW.out.kG
  have hGl5 := FW.out.kG.lt
  have hGG : gC < G := hgC4
  obtain ⟨q1, hq1⟩ : ∃ q : Nat, a1 % (n : Int) = q := Int.eq_ofNat_of_zero_le (Int.emod_nonneg _ (by omega))
  have hqn : q1 < n := by have := Int.emod_lt_of_pos a1 (show 0 < (n : Int) by omega); omega
  have MD := hide (fun W => show Calls Try.prog 19 #[.int .i64 a1, .int .i64 n] W fun e w' => e = .returned (.int .i64 (q1 : Nat)) ∧ W = w' by
    have := mod_any a1 n W (by omega) (by omega) HB0.out.1 HB0.out.2
    rwa [hq1] at this)
  clear hq1
  go_wp2_with fail
  refine (MD.out _).mono ?_
  rintro e _ ⟨rfl, rfl⟩
  have AD := hide (add11_wi y5 G G _ 6 q1 0 0 (FW.out.wi tw11 (by omega)) (by omega) (by show q1 < l.length; rw [HLN.out]; omega) (by omega) (by unfold Go.Proofs.Ytepngbdjobckbaa.u64; omega) (by show 0 ≤ 1000; omega))
  go_wp2_with fail
  refine AD.out.mono ?_
  rintro e y6 ⟨rfl, hwi6, hb6, -⟩
  obtain ⟨s1, hs1ms, hwi6⟩ : ∃ s1 : St, s1.ms = [mc0 6 q1 0 0] ∧ WI Own11 Rp11 y6 G G 49 s1 := ⟨_, rfl, hwi6⟩
  have HS1 := hide hs1ms
  have WI6 := hide hwi6
  have CD7 := hide (Cd.belowB CD5.out hb6 hGG)
  have BW7 := hide (BW5.out.trans (hb6.mono hwG))
  clear hs1ms hwi6 hb6 k0 k1 k2 k3 FW CD5 BW5 MD AD HB0 hqn
  go_wp2
  go_loopg [9, 10] 20 (fun g sI sA wr => ∃ (j : Nat) (r : List Int) (st : St) (x : Mc), g + j = 20 ∧ sI = .int .i64 j ∧ st.ms = [x] ∧ Own11 x.what ∧ WI Own11 Rp11 wr G G 49 st ∧ Cd wr gC r 0 ∧ Below w.heap.size w wr)
  case atStart => exact ⟨0, _, s1, _, by omega, rfl, HS1.out, rfl, WI6.out, CD7.out, BW7.out⟩
  case round =>
    obtain ⟨j, r, st, x, hj, rfl, hms, how, hwi, hcd, hbw⟩ := hrel
    have HMS := hide hms
    have HOW := hide how
    have HWI := hide hwi
    clear hms how WI6 CD7 BW7 HS1 hwi
    by_cases hlt : j < 20
    · obtain ⟨v6, hv6⟩ : ∃ v, codeV r 3 = v := ⟨_, rfl⟩
      have hv6b := codeV_bd r 3 (by omega)
      rw [hv6] at hv6b
      have e6 : IntKind.u64.wrap v6 = v6 := by rw [wrap_u64]; omega
      have N6 := hide (show Calls Try.prog 20 #[.pointer (some ⟨gC, 0, none⟩), .int .i64 3] wr fun e w' => e = .returned (.int .i64 v6) ∧ Cd w' gC r.tail 0 ∧ wr.grownBy w' (some gC) by
        have := codeNext wr gC r 0 3 hcd (by omega) (by omega)
        rwa [hv6] at this)
      obtain ⟨y0, hy0⟩ : ∃ b, false = b := ⟨_, rfl⟩
      have HCD := hide hcd
      have HBW := hide hbw
      have HU6 := hide (u64_small (v := v6) (by omega))
      have HY0 := hide hy0
      have hy1 : True := trivial
      have hy2 : True := trivial
      clear hv6 hcd hbw hv6b hy0
      go_wp2_with fail
      refine N6.out.mono ?_
      rintro e w7 ⟨rfl, hcd6, hg6⟩
      have WI9 := hide (WI.codes HWI.out hg6 HCD.out hGG)
      have BW9 := hide (below_grownBy HBW.out hg6 (Nat.le_refl _) hs1)
      have CD9 := hide hcd6
      clear hcd6 hg6 N6 HBW HWI HCD
      go_upto_region 10 with ((with_reducible show wpList _ _ _ _ _ _); refine wpList_store_new (by rfl) 53 _ _ (by rfl) #[.int .u64 0, .bool false, .bool false, .slice none 0 0] #[.int .u64 v6, .bool false, .bool false, .slice none 0 0] 53 (by rfl) (by rfl) (by rfl) Try.an_inf (an_one _ _ _ _ _ _) ?_)
      have KA8 := hide (Bk.new w7 53 #[.int .u64 v6, .bool false, .bool false, .slice none 0 0])
      have HB8 := hide (below_new w7 (.cells #[.int .u64 v6, .bool false, .bool false, .slice none 0 0] 53))
      have WI10 := hide (WI9.out.below HB8.out)
      have CD10 := hide (CD9.out.below HB8.out)
      have BW10 := hide (BW9.out.trans (HB8.out.mono BW9.out.size))
      have hGA : G < w7.heap.size := WI9.out.lt.2
      clear WI9 CD9 BW9 hy1 hy2 HY0 e6 HB8
      generalize (w7.alloc (.cells #[.int .u64 v6, .bool false, .bool false, .slice none 0 0] 53)) = w8 at *
      generalize w7.heap.size = gA at *
      obtain ⟨bb, hbb⟩ : ∃ bb : Bool, (decide (j < len3) && decide (j < 3)) = bb := ⟨_, rfl⟩
      have HBB := hide hbb
      clear hbb
      rw [show ∀ (a : Act) (v : Value), a.put none v = a from fun _ _ => rfl]
      go_cut [46] (fun sP wx => sP = .bool bb ∧ wx = w8)
      case first =>
        have hcs : (j < len3 ∧ j < 3) ∨ ¬ j < len3 ∨ (j < len3 ∧ ¬ j < 3) := by omega
        rcases hcs with ⟨hl1, hl2⟩ | hl1 | ⟨hl1, hl2⟩
        · have hbt : bb = true := by rw [← HBB.out]; simp [hl1, hl2]
          have HBT := hide hbt
          clear hbt
          go_wp2
          go_meet
          case rel => exact ⟨by rw [HBT.out] <;> simp <;> omega, rfl⟩
        · have hbt : bb = false := by rw [← HBB.out, decide_eq_false hl1]; rfl
          have HBT := hide hbt
          clear hbt
          have hdl : decide (j < len3) = false := by simp; omega
          go_wp2
          go_meet
          case rel => exact ⟨by rw [HBT.out], rfl⟩
        · have hbt : bb = false := by rw [← HBB.out, decide_eq_false (p := j < 3) hl2, Bool.and_false]
          have HBT := hide hbt
          clear hbt
          have hdl : decide ((j : Int) < 3) = false := by simp; omega
          go_wp2
          go_meet
          case rel => exact ⟨by rw [HBT.out], rfl⟩
      case rest =>
      obtain ⟨rfl, rfl⟩ := hcut
      go_upto_if 46 with fail
      go_cut [] (fun wx => ∃ (va : Int) (ya za : Bool) (LA : Option Addr) (ln lc : Nat), Bk wx gA 53 #[.int .u64 va, .bool ya, .bool za, .slice LA ln lc] ∧ Go.Proofs.Ytepngbdjobckbaa.u64 va ∧ WI Own11 Rp11 wx G G 49 st ∧ Cd wx gC r.tail 0 ∧ Below w.heap.size w wx)
      case first =>
        cases bb
        · go_wp2
          go_meet
          case rel => exact ⟨v6, false, false, none, 0, 0, KA8.out, HU6.out, WI10.out, CD10.out, BW10.out⟩
        · obtain ⟨hl1, hl2⟩ : j < len3 ∧ j < 3 := by have := HBB.out; simpa using this
          obtain ⟨ad, va, ya, za, LA, ln, lc, rfl, hva, q0, q1', q2, q3⟩ := (AR.out.below BW10.out).2 j hl1
          obtain ⟨pa, hpa⟩ : ∃ pa, ad.add (j * 4) = pa := ⟨_, rfl⟩
          rw [← Go.Deep.add_add] at q0 q1' q2 q3
          rw [hpa] at q0 q1' q2 q3
          have q00 : wc.cell? pa = some (.int .u64 va) := by rwa [show pa.add 0 = pa by rcases pa with ⟨_, _, _ | _⟩ <;> rfl] at q0
          have r1 : wc.cell? ⟨pa.block, pa.off + 1, none⟩ = some (.bool ya) := q1'
          have r2 : wc.cell? ⟨pa.block, pa.off + 2, none⟩ = some (.bool za) := q2
          have r3 : wc.cell? ⟨pa.block, pa.off + 3, none⟩ = some (.slice LA ln lc) := q3
          have hpb := block_lt q00
          have d1 : decide ((j : Int) < 0) = false := by simp
          have d2 : decide (len3 ≤ j) = false := by simp; omega
          have HT := hide (KA8.out.there (n := 4) rfl)
          have hlt8 := KA8.out.lt
          go_wp2_with ((with_reducible show wpList _ _ _ _ _ _); refine wpList_store_res (by rfl) 53 _ _ (by rfl) gA #[.int .u64 va, .bool ya, .bool za, .slice LA ln lc] (by rfl) (by rfl) HT.out Try.an_inf (an_one _ _ _ _ _ _) ?_; intro w9 HZ)
          go_meet
          case rel =>
            exact ⟨va, ya, za, LA, ln, lc, Bk.stored HZ KA8.out rfl, hva, by rw [HZ.out]; exact WI10.out.oth (grown_sets _ 0 wc) KA8.out (by omega) (by decide) (by decide) (by decide) (by decide) (by decide) (by decide), Cd.belowB (B := gA) CD10.out (below_stored HZ (Below.refl gA wc) (Nat.le_refl _)) (by omega), below_stored HZ BW10.out (by omega)⟩
      case rest =>
        clear KA8 WI10 CD10 BW10 HU6 HBB
        obtain ⟨va, ya, za, LA, ln, lc, ka9, hva, wi11, cd11, bw11⟩ := hcut
        have KA9 := hide ka9
        have HVA := hide hva
        have WI11 := hide wi11
        have CD11 := hide cd11
        have BW11 := hide bw11
        clear ka9 hva wi11 cd11 bw11
        have SM := hide (same11_wi (i := 0) WI11.out (by rw [HMS.out]; rfl) HOW.out)
        go_wp2_with fail
        refine SM.out.mono ?_
        rintro e w10 ⟨rfl, hb10⟩
        have WI12 := hide (WI11.out.below hb10)
        have CD12 := hide (CD11.out.below hb10)
        have BW12 := hide (BW11.out.trans (hb10.mono BW11.out.size))
        have KA10 := hide (KA9.out.below hb10 KA9.out.lt)
        clear SM hb10 WI11 CD11 BW11 KA9
        obtain ⟨MA, mn, mc, MB, md, me, gM, cM, gF, cF, code, pc, FA, fn, fc, FB, fm, fd, RZ⟩ := WI12.out.rz knows11 HMS.out HOW.out
        have HRZ := hide RZ
        obtain ⟨x', hx'⟩ : ∃ x', mres st.l x va ya = x' := ⟨_, rfl⟩
        have MR := hide (fun W hW => RZ.res W hW va ya za LA ln lc HVA.out)
        have CR := hide (fun W hW => RZ.go W hW va ya za LA ln lc HVA.out)
        rw [hx'] at MR CR
        have HOX := hide (show Own11 x'.what by rw [← hx', mres_what]; exact HOW.out)
        have rr := RZ.rL
        have k6 := RZ.k6
        have k9 := RZ.k9
        have rf := RZ.rF
        rw [Mc.cells] at rr MR
        obtain ⟨m0, m1, m2, m3, m4, m5, m6, m7, m8, m9, m10, m11, m12, m13⟩ := rg14 rr
        obtain ⟨f0, f1, f2, f3, f4⟩ := rg5 rf
        obtain ⟨c0, c1, c2, c3, -⟩ := bk4 KA10.out
        obtain ⟨lt1, lt2, lt3⟩ := RZ.lt
        have ltA := KA10.out.lt
        simp only [Nat.zero_add] at m1 m2 m3 m4 m5 m6 m7 m8 m9 m10 m11 m12 m13 f1 f2 f3 f4
        have HB10 : Hid (Below w10.heap.size w10 w10.drew) := hide (Below.refl w10.heap.size w10).drew
        have hsz14 : ∀ z, (Mc.cells MA mn mc MB md me st.th z).size = 14 := fun _ => rfl
        clear rr rf RZ hx'
        go_upto_region 14 with fail
        have KC : Hid (∀ W, Below w10.heap.size w10 W → W.rangeAt gM 0 (Mc.cells MA mn mc MB md me st.th x).toList ∧ W.rangeAt gF 0 [.int .i64 code, .int .i64 pc, .slice FA fn fc, .slice FB fm fd, .slice none 0 0] ∧ W.cell? ⟨G, 6, none⟩ = some (.slice (some ⟨gM, 0, none⟩) 1 cM) ∧ W.cell? ⟨G, 9, none⟩ = some (.slice (some ⟨gF, 0, none⟩) 1 cF) ∧ Bk W gA 53 #[.int .u64 va, .bool ya, .bool za, .slice LA ln lc]) :=
          hide fun W hW => ⟨rangeAt_below HRZ.out.rL hW, rangeAt_below HRZ.out.rF hW, (hW.cell HRZ.out.lt.1).trans HRZ.out.k6, (hW.cell HRZ.out.lt.1).trans HRZ.out.k9, KA10.out.below hW KA10.out.lt⟩
        clear k6 k9 m0 m1 m2 m3 m4 m5 m6 m7 m8 m9 m10 m11 m12 m13 f0 f1 f2 f3 f4 c0 c1 c2 c3
        refine wp_region_L (Below w10.heap.size w10) 27 (by kernel_rfl) ?_
        refine wpAnyL_any (i := 0) (oi := ⟨some 54, _, _, _, _, _⟩) (v := ?vv0) rfl (by kernel_rfl) (by kernel_rfl) (by kernel_rfl) (by kernel_rfl) (fun _ _ _ h => h) (fun _ => HB10.out) (by rfl) ?hh0 ?rr0
        case hh0 => (intro W; go_simp; try with_reducible rfl)
        (try simp only [Act.put, List.setIfInBounds_toArray, List.set_cons_zero, List.set_cons_succ])
        refine wpAnyL_any (i := 1) (oi := ⟨some 55, _, _, _, _, _⟩) (v := ?vv1) rfl (by kernel_rfl) (by kernel_rfl) (by kernel_rfl) (by kernel_rfl) (fun _ _ _ h => h) (fun _ => HB10.out) (by rfl) ?hh1 ?rr1
        case hh1 => (intro W; go_simp; try with_reducible rfl)
        (try simp only [Act.put, List.setIfInBounds_toArray, List.set_cons_zero, List.set_cons_succ])
        refine wpAnyL_any (i := 2) (oi := ⟨some 56, _, _, _, _, _⟩) (v := ?vv2) rfl (by kernel_rfl) (by kernel_rfl) (by kernel_rfl) (by kernel_rfl) (fun _ _ _ h => h) (fun _ => HB10.out) (by rfl) ?hh2 ?rr2
        case hh2 => (intro W; go_simp; try with_reducible rfl)
        (try simp only [Act.put, List.setIfInBounds_toArray, List.set_cons_zero, List.set_cons_succ])
        refine wpAnyL_any (i := 3) (oi := ⟨some 57, _, _, _, _, _⟩) (v := ?vv3) rfl (by kernel_rfl) (by kernel_rfl) (by kernel_rfl) (by kernel_rfl) (fun _ _ _ h => h) (fun _ => HB10.out) (by rfl) ?hh3 ?rr3
        case hh3 => (intro W; go_simp; try with_reducible rfl)
        (try simp only [Act.put, List.setIfInBounds_toArray, List.set_cons_zero, List.set_cons_succ])
        refine wpAnyL_take (i := 4) (oi := ⟨some 58, _, _, _, _, _⟩) [26, 27, 28, 29] (v := ?vv4) rfl (by kernel_rfl) (by kernel_rfl) (by kernel_rfl) (by kernel_rfl) (fun _ _ _ h => h) HB10.out (by rfl) ?hh4 ?rr4
        case hh4 => (intro W hW; obtain ⟨rr, rf, k6, k9, ka⟩ := KC.out W hW; rw [Mc.cells] at rr; obtain ⟨m0, m1, m2, m3, m4, m5, m6, m7, m8, m9, m10, m11, m12, m13⟩ := rg14 rr; obtain ⟨f0, f1, f2, f3, f4⟩ := rg5 rf; obtain ⟨c0, c1, c2, c3, -⟩ := bk4 ka; simp only [Nat.zero_add] at m1 m2 m3 m4 m5 m6 m7 m8 m9 m10 m11 m12 m13 f1 f2 f3 f4; clear rr rf ka; go_simp; try with_reducible rfl)
        (try simp only [Act.put, List.setIfInBounds_toArray, List.set_cons_zero, List.set_cons_succ])
        refine wpAnyL_any (i := 5) (oi := ⟨some 59, _, _, _, _, _⟩) (v := ?vv5) rfl (by kernel_rfl) (by kernel_rfl) (by kernel_rfl) (by kernel_rfl) (fun _ _ _ h => h) (fun _ => HB10.out) (by rfl) ?hh5 ?rr5
        case hh5 => (intro W; go_simp; try with_reducible rfl)
        (try simp only [Act.put, List.setIfInBounds_toArray, List.set_cons_zero, List.set_cons_succ])
        refine wpAnyL_any (i := 6) (oi := ⟨some 60, _, _, _, _, _⟩) (v := ?vv6) rfl (by kernel_rfl) (by kernel_rfl) (by kernel_rfl) (by kernel_rfl) (fun _ _ _ h => h) (fun _ => HB10.out) (by rfl) ?hh6 ?rr6
        case hh6 => (intro W; go_simp; try with_reducible rfl)
        (try simp only [Act.put, List.setIfInBounds_toArray, List.set_cons_zero, List.set_cons_succ])
        refine wpAnyL_any (i := 7) (oi := ⟨some 61, _, _, _, _, _⟩) (v := ?vv7) rfl (by kernel_rfl) (by kernel_rfl) (by kernel_rfl) (by kernel_rfl) (fun _ _ _ h => h) (fun _ => HB10.out) (by rfl) ?hh7 ?rr7
        case hh7 => (intro W; go_simp; try with_reducible rfl)
        (try simp only [Act.put, List.setIfInBounds_toArray, List.set_cons_zero, List.set_cons_succ])
        refine wpAnyL_take (i := 8) (oi := ⟨some 62, _, _, _, _, _⟩) [26, 27, 28, 29] (v := ?vv8) rfl (by kernel_rfl) (by kernel_rfl) (by kernel_rfl) (by kernel_rfl) (fun _ _ _ h => h) HB10.out (by rfl) ?hh8 ?rr8
        case hh8 => (intro W hW; obtain ⟨rr, rf, k6, k9, ka⟩ := KC.out W hW; rw [Mc.cells] at rr; obtain ⟨m0, m1, m2, m3, m4, m5, m6, m7, m8, m9, m10, m11, m12, m13⟩ := rg14 rr; obtain ⟨f0, f1, f2, f3, f4⟩ := rg5 rf; obtain ⟨c0, c1, c2, c3, -⟩ := bk4 ka; simp only [Nat.zero_add] at m1 m2 m3 m4 m5 m6 m7 m8 m9 m10 m11 m12 m13 f1 f2 f3 f4; clear rr rf ka; go_simp; try with_reducible rfl)
        (try simp only [Act.put, List.setIfInBounds_toArray, List.set_cons_zero, List.set_cons_succ])
        refine wpAnyL_any (i := 9) (oi := ⟨some 63, _, _, _, _, _⟩) (v := ?vv9) rfl (by kernel_rfl) (by kernel_rfl) (by kernel_rfl) (by kernel_rfl) (fun _ _ _ h => h) (fun _ => HB10.out) (by rfl) ?hh9 ?rr9
        case hh9 => (intro W; go_simp; try with_reducible rfl)
        (try simp only [Act.put, List.setIfInBounds_toArray, List.set_cons_zero, List.set_cons_succ])
        refine wpAnyL_any (i := 10) (oi := ⟨some 64, _, _, _, _, _⟩) (v := ?vv10) rfl (by kernel_rfl) (by kernel_rfl) (by kernel_rfl) (by kernel_rfl) (fun _ _ _ h => h) (fun _ => HB10.out) (by rfl) ?hh10 ?rr10
        case hh10 => (intro W; go_simp; try with_reducible rfl)
        (try simp only [Act.put, List.setIfInBounds_toArray, List.set_cons_zero, List.set_cons_succ])
        refine wpAnyL_any (i := 11) (oi := ⟨some 65, _, _, _, _, _⟩) (v := ?vv11) rfl (by kernel_rfl) (by kernel_rfl) (by kernel_rfl) (by kernel_rfl) (fun _ _ _ h => h) (fun _ => HB10.out) (by rfl) ?hh11 ?rr11
        case hh11 => (intro W; go_simp; try with_reducible rfl)
        (try simp only [Act.put, List.setIfInBounds_toArray, List.set_cons_zero, List.set_cons_succ])
        refine wpAnyL_any (i := 12) (oi := ⟨some 66, _, _, _, _, _⟩) (v := ?vv12) rfl (by kernel_rfl) (by kernel_rfl) (by kernel_rfl) (by kernel_rfl) (fun _ _ _ h => h) (fun _ => HB10.out) (by rfl) ?hh12 ?rr12
        case hh12 => (intro W; go_simp; try with_reducible rfl)
        (try simp only [Act.put, List.setIfInBounds_toArray, List.set_cons_zero, List.set_cons_succ])
        refine wpAnyL_take (i := 13) (oi := ⟨some 67, _, _, _, _, _⟩) [14, 15, 17, 25, 26, 27, 28, 29] (v := ?vv13) rfl (by kernel_rfl) (by kernel_rfl) (by kernel_rfl) (by kernel_rfl) (fun _ _ _ h => h) HB10.out (by rfl) ?hh13 ?rr13
        case hh13 => (intro W hW; obtain ⟨rr, rf, k6, k9, ka⟩ := KC.out W hW; rw [Mc.cells] at rr; obtain ⟨m0, m1, m2, m3, m4, m5, m6, m7, m8, m9, m10, m11, m12, m13⟩ := rg14 rr; obtain ⟨f0, f1, f2, f3, f4⟩ := rg5 rf; obtain ⟨c0, c1, c2, c3, -⟩ := bk4 ka; simp only [Nat.zero_add] at m1 m2 m3 m4 m5 m6 m7 m8 m9 m10 m11 m12 m13 f1 f2 f3 f4; clear rr rf ka; go_simp; try with_reducible rfl)
        (try simp only [Act.put, List.setIfInBounds_toArray, List.set_cons_zero, List.set_cons_succ])
        refine wpAnyL_any (i := 14) (oi := ⟨some 68, _, _, _, _, _⟩) (v := ?vv14) rfl (by kernel_rfl) (by kernel_rfl) (by kernel_rfl) (by kernel_rfl) (fun _ _ _ h => h) (fun _ => HB10.out) (by rfl) ?hh14 ?rr14
        case hh14 => (intro W; go_simp; try with_reducible rfl)
        (try simp only [Act.put, List.setIfInBounds_toArray, List.set_cons_zero, List.set_cons_succ])
        refine wpAnyL_take (i := 15) (oi := ⟨some 69, _, _, _, _, _⟩) [17, 25, 26, 27, 28, 29] (v := ?vv15) rfl (by kernel_rfl) (by kernel_rfl) (by kernel_rfl) (by kernel_rfl) (fun _ _ _ h => h) HB10.out (by rfl) ?hh15 ?rr15
        case hh15 => (intro W hW; obtain ⟨rr, rf, k6, k9, ka⟩ := KC.out W hW; rw [Mc.cells] at rr; obtain ⟨m0, m1, m2, m3, m4, m5, m6, m7, m8, m9, m10, m11, m12, m13⟩ := rg14 rr; obtain ⟨f0, f1, f2, f3, f4⟩ := rg5 rf; obtain ⟨c0, c1, c2, c3, -⟩ := bk4 ka; simp only [Nat.zero_add] at m1 m2 m3 m4 m5 m6 m7 m8 m9 m10 m11 m12 m13 f1 f2 f3 f4; clear rr rf ka; go_simp; try with_reducible rfl)
        (try simp only [Act.put, List.setIfInBounds_toArray, List.set_cons_zero, List.set_cons_succ])
        refine wpAnyL_take (i := 16) (oi := ⟨some 70, _, _, _, _, _⟩) [17, 25, 26, 27, 28, 29] (v := ?vv16) rfl (by kernel_rfl) (by kernel_rfl) (by kernel_rfl) (by kernel_rfl) (fun _ _ _ h => h) HB10.out (by rfl) ?hh16 ?rr16
        case hh16 => (intro W hW; obtain ⟨rr, rf, k6, k9, ka⟩ := KC.out W hW; rw [Mc.cells] at rr; obtain ⟨m0, m1, m2, m3, m4, m5, m6, m7, m8, m9, m10, m11, m12, m13⟩ := rg14 rr; obtain ⟨f0, f1, f2, f3, f4⟩ := rg5 rf; obtain ⟨c0, c1, c2, c3, -⟩ := bk4 ka; simp only [Nat.zero_add] at m1 m2 m3 m4 m5 m6 m7 m8 m9 m10 m11 m12 m13 f1 f2 f3 f4; clear rr rf ka; go_simp; try with_reducible rfl)
        (try simp only [Act.put, List.setIfInBounds_toArray, List.set_cons_zero, List.set_cons_succ])
        refine wpAnyL_any (i := 18) (oi := ⟨some 72, _, _, _, _, _⟩) (v := ?vv18) rfl (by kernel_rfl) (by kernel_rfl) (by kernel_rfl) (by kernel_rfl) (fun _ _ _ h => h) (fun _ => HB10.out) (by rfl) ?hh18 ?rr18
        case hh18 => (intro W; go_simp; try with_reducible rfl)
        (try simp only [Act.put, List.setIfInBounds_toArray, List.set_cons_zero, List.set_cons_succ])
        refine wpAnyL_any (i := 19) (oi := ⟨some 73, _, _, _, _, _⟩) (v := ?vv19) rfl (by kernel_rfl) (by kernel_rfl) (by kernel_rfl) (by kernel_rfl) (fun _ _ _ h => h) (fun _ => HB10.out) (by rfl) ?hh19 ?rr19
        case hh19 => (intro W; go_simp; try with_reducible rfl)
        (try simp only [Act.put, List.setIfInBounds_toArray, List.set_cons_zero, List.set_cons_succ])
        refine wpAnyL_any (i := 20) (oi := ⟨some 74, _, _, _, _, _⟩) (v := ?vv20) rfl (by kernel_rfl) (by kernel_rfl) (by kernel_rfl) (by kernel_rfl) (fun _ _ _ h => h) (fun _ => HB10.out) (by rfl) ?hh20 ?rr20
        case hh20 => (intro W; go_simp; try with_reducible rfl)
        (try simp only [Act.put, List.setIfInBounds_toArray, List.set_cons_zero, List.set_cons_succ])
        refine wpAnyL_take (i := 21) (oi := ⟨some 75, _, _, _, _, _⟩) [22, 23, 25, 26, 27, 28, 29] (v := ?vv21) rfl (by kernel_rfl) (by kernel_rfl) (by kernel_rfl) (by kernel_rfl) (fun _ _ _ h => h) HB10.out (by rfl) ?hh21 ?rr21
        case hh21 => (intro W hW; obtain ⟨rr, rf, k6, k9, ka⟩ := KC.out W hW; rw [Mc.cells] at rr; obtain ⟨m0, m1, m2, m3, m4, m5, m6, m7, m8, m9, m10, m11, m12, m13⟩ := rg14 rr; obtain ⟨f0, f1, f2, f3, f4⟩ := rg5 rf; obtain ⟨c0, c1, c2, c3, -⟩ := bk4 ka; simp only [Nat.zero_add] at m1 m2 m3 m4 m5 m6 m7 m8 m9 m10 m11 m12 m13 f1 f2 f3 f4; clear rr rf ka; go_simp; try with_reducible rfl)
        (try simp only [Act.put, List.setIfInBounds_toArray, List.set_cons_zero, List.set_cons_succ])
        refine wpAnyL_any (i := 22) (oi := ⟨some 76, _, _, _, _, _⟩) (v := ?vv22) rfl (by kernel_rfl) (by kernel_rfl) (by kernel_rfl) (by kernel_rfl) (fun _ _ _ h => h) (fun _ => HB10.out) (by rfl) ?hh22 ?rr22
        case hh22 => (intro W; go_simp; try with_reducible rfl)
        (try simp only [Act.put, List.setIfInBounds_toArray, List.set_cons_zero, List.set_cons_succ])
        refine wpAnyL_take (i := 23) (oi := ⟨some 77, _, _, _, _, _⟩) [25, 26, 27, 28, 29] (v := ?vv23) rfl (by kernel_rfl) (by kernel_rfl) (by kernel_rfl) (by kernel_rfl) (fun _ _ _ h => h) HB10.out (by rfl) ?hh23 ?rr23
        case hh23 => (intro W hW; obtain ⟨rr, rf, k6, k9, ka⟩ := KC.out W hW; rw [Mc.cells] at rr; obtain ⟨m0, m1, m2, m3, m4, m5, m6, m7, m8, m9, m10, m11, m12, m13⟩ := rg14 rr; obtain ⟨f0, f1, f2, f3, f4⟩ := rg5 rf; obtain ⟨c0, c1, c2, c3, -⟩ := bk4 ka; simp only [Nat.zero_add] at m1 m2 m3 m4 m5 m6 m7 m8 m9 m10 m11 m12 m13 f1 f2 f3 f4; clear rr rf ka; go_simp; try with_reducible rfl)
        (try simp only [Act.put, List.setIfInBounds_toArray, List.set_cons_zero, List.set_cons_succ])
        refine wpAnyL_take (i := 24) (oi := ⟨some 78, _, _, _, _, _⟩) [25, 26, 27, 28, 29] (v := ?vv24) rfl (by kernel_rfl) (by kernel_rfl) (by kernel_rfl) (by kernel_rfl) (fun _ _ _ h => h) HB10.out (by rfl) ?hh24 ?rr24
        case hh24 => (intro W hW; obtain ⟨rr, rf, k6, k9, ka⟩ := KC.out W hW; rw [Mc.cells] at rr; obtain ⟨m0, m1, m2, m3, m4, m5, m6, m7, m8, m9, m10, m11, m12, m13⟩ := rg14 rr; obtain ⟨f0, f1, f2, f3, f4⟩ := rg5 rf; obtain ⟨c0, c1, c2, c3, -⟩ := bk4 ka; simp only [Nat.zero_add] at m1 m2 m3 m4 m5 m6 m7 m8 m9 m10 m11 m12 m13 f1 f2 f3 f4; clear rr rf ka; go_simp; try with_reducible rfl)
        (try simp only [Act.put, List.setIfInBounds_toArray, List.set_cons_zero, List.set_cons_succ])
        refine wpAnyL_one (i := 17) (oi := ⟨some 71, _, _, _, _, _⟩) rfl (by kernel_rfl) (fun K hK => ?_)
        refine step_call _ (by rfl) 22 _ (by go_simp) (MR.out _ HB10.out) ?_
        rintro e w11 ⟨rfl, hb11⟩
        refine ⟨_, rfl, ?_⟩
        have HB11 := hide (HB10.out.trans (hb11.mono HB10.out.size))
        clear hb11
        refine hK.out _ _ (fun _ => HB11.out) ?_
        clear hK K
        (try simp only [Act.put, List.setIfInBounds_toArray, List.set_cons_zero, List.set_cons_succ])
        refine wpAnyL_one (i := 25) (oi := ⟨some 79, _, _, _, _, _⟩) rfl (by kernel_rfl) (fun K hK => ?_)
        refine step_call _ (by rfl) 23 _ (by go_simp) (CR.out w11 HB11.out) ?_
        rintro e w12 ⟨co, pc', FA', fn', fc', FB', fm', fd', rfl, hb12, w13, hst, ⟨a0', a1', a2', a3', a4', hra⟩, zf, ⟨z6, z9⟩, hkk, hWz⟩
        refine ⟨_, rfl, ?_⟩
        have HB12 := hide (HB11.out.trans (hb12.mono HB11.out.size))
        obtain ⟨v0, v1, v2, v3, v4⟩ := rg5 hra
        simp only [Nat.zero_add] at v1 v2 v3 v4
        have WZ := hide hWz
        clear hra hWz hb12 hkk
        refine hK.out _ _ (fun _ => HB12.out) ?_
        clear hK K
        (try simp only [Act.put, List.setIfInBounds_toArray, List.set_cons_zero, List.set_cons_succ])
        refine wpAnyL_any (i := 26) (oi := ⟨some 80, _, _, _, _, _⟩) (v := ?vv26) rfl (by kernel_rfl) (by kernel_rfl) (by kernel_rfl) (by kernel_rfl) (fun _ _ _ h => h) (fun _ => HB12.out) (by rfl) ?hh26 ?rr26
        case hh26 => (intro W; go_simp; try with_reducible rfl)
        (try simp only [Act.put, List.setIfInBounds_toArray, List.set_cons_zero, List.set_cons_succ])
        refine wpAnyL_one (i := 27) (oi := ⟨none, _, _, _, _, _⟩) rfl (by kernel_rfl) (fun K hK => ?_)
        go_simp
        refine hK.out _ _ (fun h => by first | cases h | simp at h) ?_
        clear hK K
        (try simp only [Act.put, List.setIfInBounds_toArray, List.set_cons_zero, List.set_cons_succ])
        refine wpAnyL_any (i := 28) (oi := ⟨some 81, _, _, _, _, _⟩) (v := ?vv28) rfl (by kernel_rfl) (by kernel_rfl) (by kernel_rfl) (by kernel_rfl) (fun _ _ _ h => h) (fun h => by first | cases h | simp at h) (by rfl) ?hh28 ?rr28
        case hh28 => (intro W; go_simp; try with_reducible rfl)
        (try simp only [Act.put, List.setIfInBounds_toArray, List.set_cons_zero, List.set_cons_succ])
        refine wpAnyL_one (i := 29) (oi := ⟨none, _, _, _, _, _⟩) rfl (by kernel_rfl) (fun K hK => ?_)
        go_simp
        refine hK.out _ _ (fun h => by first | cases h | simp at h) ?_
        clear hK K
        (try simp only [Act.put, List.setIfInBounds_toArray, List.set_cons_zero, List.set_cons_succ])
        refine wpAnyL_done (by kernel_rfl) ?_ _
        obtain ⟨hwi, hbz⟩ := WZ.out _ (set5_eq _ _ _ _ _ _ _ _)
        have WI14 := hide hwi
        have CD14 := hide (Cd.belowB CD12.out ((HB12.out.mono (Nat.le_of_lt lt1)).trans hbz) hGG)
        have BW14 := hide (BW12.out.trans (((HB12.out.mono (Nat.le_of_lt lt1)).trans hbz).mono hwG))
        clear hwi hbz lt1 lt2 lt3 ltA HB10 HRZ MR CR WI12 CD12 BW12 KA10 hsz14 hst zf z6 z9 v0 v1 v2 v3 v4 HB12 HB11 KC
        generalize (w13.setCells gF 0 [.int .i64 co, .int .i64 pc', .slice FA' fn' fc', .slice FB' fm' fd', .slice none 0 0]) = w14 at *
        go_wp2
        go_roundg (gk - 1)
        case rel => exact ⟨j + 1, _, { st with ms := [x'] }, x', by omega, by go_num, rfl, HOX.out, WI14.out, CD14.out, BW14.out⟩
        case measure => omega
    · obtain rfl : j = 20 := by omega
      have SM := hide (same11_wi (i := 0) HWI.out (by rw [HMS.out]; rfl) HOW.out)
      have HBW := hide hbw
      clear hbw hcd
      go_wp2_with fail
      refine SM.out.mono ?_
      rintro e w6 ⟨rfl, hb6⟩
      go_wp2
      go_ret
      exact ⟨rfl, HBW.out.trans (hb6.mono HBW.out.size)⟩
end Go.Proofs.Ytepngbdjobckbaa
