/- The walk of LayoutChecks (under way). -/
import Derived.Test.YtcaencocmfkfaaaJ5
import Derived.Deep.CutBlock
namespace Go.Proofs.Ytcaencocmfkfaaa
open Go.RowKit
set_option linter.unusedVariables false
set_option linter.unusedSimpArgs false
set_option maxHeartbeats 16000000 in
set_option maxRecDepth 100000 in
theorem checks_walk (A : Option Addr) (n c : Nat) (zs : List Int) (B : Option Addr) (m d : Nat) (ss : List Int) (t : Int) (a0 : Option Addr) (len0 cap0 : Nat) (z0 : List Int) (w : World) (rA : Row .i64 w A n c zs) (rB : Row .u64 w B m d ss) (wt : (Lit.int .i64 t).wf = true) (w0 : Row .u8 w a0 len0 cap0 z0) :
    Calls Try.prog 3 #[.agg #[.slice A n c, .slice B m d, .int .i64 t], .slice a0 len0 cap0] w fun e w' => e = .returned (.bool true) ∧ Below w.heap.size w w' := by
  obtain ⟨hIA, hcA, hmA, hwA⟩ := rA.isI
  obtain ⟨hIB, hcB, hmB, hwB⟩ := rB.isI
  obtain ⟨hI1, hc1, hm1, hwf1⟩ := w0.isI
  have HA := hide hIA
  have HBB := hide hIB
  have H1 := hide hI1
  have HB1 := hide (show ∀ x ∈ z0.take len0, 0 ≤ x ∧ x ≤ 255 from fun x hx => bounds_u8 (hwf1 x hx))
  clear hwf1 w0 hI1 hIA hIB hwA hwB rA rB
  generalize z0.take len0 = l0 at H1 HB1
  generalize zs.take n = la at HA
  generalize ss.take m = lb at HBB
  have hcm1 : cap0 ≤ 9223372036854775807 := hm1
  clear hm1
  go_enter Try.func3, Try.ntmps3
  go_wp2_with fail
  have KR := hide (Bk.new w 25 #[.slice A n c, .slice B m d, .int .i64 t])
  have HBN := hide (below_new w (.cells #[.slice A n c, .slice B m d, .int .i64 t] 25))
  refine (awake5_any _).mono ?_
  rintro e y1 ⟨rfl, hb1⟩
  have BW1 := hide (HBN.out.trans (hb1.mono HBN.out.size))
  have KR1 := hide (KR.out.below hb1 KR.out.lt)
  clear hb1 KR HBN
  obtain ⟨r0, r1, r2, rfz⟩ := bkm3V KR1.out
  by_cases hn20 : 20 < n
  · have d1 : decide ((20 : Int) < (n : Int)) = true := by simp; omega
    go_wp2
    go_ret
    exact ⟨rfl, BW1.out⟩
  have d1 : decide ((20 : Int) < (n : Int)) = false := by simp; omega
  by_cases hm20 : 20 < m
  · have d2 : decide ((20 : Int) < (m : Int)) = true := by simp; omega
    go_wp2
    go_ret
    exact ⟨rfl, BW1.out⟩
  have d2 : decide ((20 : Int) < (m : Int)) = false := by simp; omega
  go_wp2_with fail
  clear r0 r1 r2 rfz d1 d2
  refine (new_any y1 _ _ _ _ 60 (H1.out.below BW1.out) HB1.out (by omega) hc1 hcm1).mono ?_
  rintro e y2 ⟨rfl, hcd, hb2⟩
  have hs1 := BW1.out.size
  have BW2 := hide (BW1.out.trans (hb2.mono hs1))
  have KR2 := hide (KR1.out.below hb2 KR1.out.lt)
  have CD2 := hide hcd
  have hgR : w.heap.size < y1.heap.size := KR1.out.lt
  clear hb2 hcd H1 HB1 KR1 BW1
  generalize y1.heap.size = gC at *
  go_wp2_with fail
  refine (wide_any _ _ _ _ CD2.out).mono ?_
  rintro e y3 ⟨u1, u2, tx, l, s, r', rfl, hr, h2, h3, h4, h5, h6, h7, h8, h9⟩
  have o1 := hr.at_ 0 (Nat.succ_pos _)
  have o2 := hr.at_ 1 (by show 1 < 2; omega)
  obtain ⟨XA, XC, e1, -, -, bA, -⟩ := own_form o1
  obtain ⟨XB, XD, e2, -, -, bB, -⟩ := own_form o2
  have e1' : u1 = .slice XA l.length XC := e1
  have e2' : u2 = .slice XB s.length XD := e2
  clear e1 e2
  subst e1' e2'
  have IA3 := hide (IsI.of_own o1)
  have IB3 := hide (IsI.of_own o2)
  rw [h3] at IB3
  have hgC3 : gC < y2.heap.size := CD2.out.lt
  have BW3 := hide (below_grownBy BW2.out h9 (Nat.le_refl _) (by omega))
  have KR3 := hide (KR2.out.grown h9 (by intro e; injection e with e; omega))
  have CD3 := hide h8
  have HCK := hide (show chk l s tx = 0 from chk_ok h2 h3 h4 h5 h6 h7)
  have hA3 : ∀ ad, XA = some ad → ad.block ≠ gC ∧ ad.block < y3.heap.size := fun ad e => by have := bA ad e; omega
  have hB3 : ∀ ad, XB = some ad → ad.block ≠ gC ∧ ad.block < y3.heap.size := fun ad e => by have := bB ad e; omega
  have hgC4 : gC < y3.heap.size := Nat.lt_of_lt_of_le hgC3 h9.size
  clear o1 o2 bA bB hr h4 h5 h6 h7 h8 h9 CD2 BW2 KR2 hgC3
  rw [h3]
  have hsl := h3
  clear h3
  obtain ⟨xn, hxn⟩ : ∃ x, l.length = x := ⟨_, rfl⟩
  rw [hxn] at IA3 IB3 hsl h2 ⊢
  obtain ⟨i0, hi, hz0, hz1, hz2⟩ := info_parts Try.i64_infV
  obtain ⟨j0, hj, hy0, hy1, hy2⟩ := info_parts Try.u64_infV
  go_upto_region 8 with fail
  have KX := hide ((Bk.new y3 25 #[.slice XA xn XC, .slice XB xn XD, .int .i64 tx]).alloc (.cells #[.slice XA xn XC, .slice XB xn XD, .int .i64 tx] 25))
  have KY : Hid (Bk ((y3.alloc (.cells #[.slice XA xn XC, .slice XB xn XD, .int .i64 tx] 25)).alloc (.cells #[.slice XA xn XC, .slice XB xn XD, .int .i64 tx] 25)) (y3.heap.size + 1) 25 #[.slice XA xn XC, .slice XB xn XD, .int .i64 tx]) := hide (by simpa using Bk.new (y3.alloc (.cells #[.slice XA xn XC, .slice XB xn XD, .int .i64 tx] 25)) 25 #[.slice XA xn XC, .slice XB xn XD, .int .i64 tx])
  have HBY : Hid (Below y3.heap.size y3 ((y3.alloc (.cells #[.slice XA xn XC, .slice XB xn XD, .int .i64 tx] 25)).alloc (.cells #[.slice XA xn XC, .slice XB xn XD, .int .i64 tx] 25))) := hide (below_next (below_new _ _) (below_new _ _))
  have hsz5 : ((y3.alloc (.cells #[.slice XA xn XC, .slice XB xn XD, .int .i64 tx] 25)).alloc (.cells #[.slice XA xn XC, .slice XB xn XD, .int .i64 tx] 25)).heap.size = y3.heap.size + 1 + 1 := by simp
  generalize ((y3.alloc (.cells #[.slice XA xn XC, .slice XB xn XD, .int .i64 tx] 25)).alloc (.cells #[.slice XA xn XC, .slice XB xn XD, .int .i64 tx] 25)) = y5 at *
  have hwX : w.heap.size ≤ y3.heap.size := BW3.out.size
  have HX5 : Hid (Xv w y3.heap.size gC (y3.heap.size + 1) XA xn XC XB XD l s tx y5) := hide ⟨BW3.out.trans (HBY.out.mono hwX), KX.out, IA3.out.below HBY.out, IB3.out.below HBY.out, fun ad e => by have := hA3 ad e; omega, fun ad e => by have := hB3 ad e; omega, by omega, by omega⟩
  have YW0 : Hid (Yw (fun W => Xv w y3.heap.size gC (y3.heap.size + 1) XA xn XC XB XD l s tx W ∧ Bk W w.heap.size 25 #[.slice A n c, .slice B m d, .int .i64 t]) y5 (y3.heap.size + 1 + 1) gC (y3.heap.size + 1) (.slice XA xn XC) (.slice XB xn XD) (.slice none 0 0) (.slice none 0 0) [] [] tx r') :=
    hide ⟨⟨fun r hr => by
      unfold cfgV at hr
      simp only [List.mem_cons, List.not_mem_nil, or_false] at hr
      rcases hr with rfl | rfl <;> exact World.ownsRow_nil _ _ _ _, by
      unfold cfgV
      refine List.Pairwise.cons ?_ (List.Pairwise.cons (by simp) List.Pairwise.nil)
      intro b _
      exact .inl rfl⟩, KY.out, Cd.below CD3.out HBY.out, ⟨HX5.out, KR3.out.below HBY.out KR3.out.lt⟩, by omega, by omega, fun W W' H hs hb => ⟨H.1.below hb (by omega) hs, H.2.below hb (by omega)⟩, fun W W' H hg => ⟨H.1.grown hg (.inl rfl), H.2.grown hg (by intro e; injection e with e; omega)⟩, fun W W' H hg => ⟨H.1.grown hg (.inr rfl), H.2.grown hg (by intro e; injection e with e; omega)⟩⟩
  clear KX KY HBY IA3 IB3 CD3 BW3 HX5 hA3 hB3 KR3
  generalize y3.heap.size + 1 + 1 = base at *
  generalize y3.heap.size + 1 = gY at *
  generalize y3.heap.size = gX at *
  obtain ⟨c0, c1, c2, cfz⟩ := bkm3V YW0.out.x.1.bx
  obtain ⟨d0, d1, d2, dfz⟩ := bkm3V YW0.out.y
  go_wp2_with (at_builtin; refine wpList_cat y5 (by rfl) _ _ _ (by rfl) base 3 i0 (.int .i64 0) 1 8 Try.underlying22 hi hz0 hz1 hz2 (by decide) (by decide) _ 0 [] (by rfl) (World.ownsRow_nil _ _ _ _) _ xn _ _ (by rfl) YW0.out.x.1.ia ?_ ?_ ?_ ?_ ?_)
  case refine_1 => exact fun u hu => by obtain ⟨z, -, rfl⟩ := List.mem_map.1 hu; rfl
  case refine_2 => omega
  case refine_3 => omega
  case refine_4 => omega
  case refine_5 =>
  intro v4 w6 hown hg hv
  obtain ⟨A4, C4, rfl, -⟩ := own_form hown
  have YW1 := hide (YW0.out.cat1 (l' := l) (by simpa [hxn] using hown) hg (hv.imp id fun e => ⟨_, e, Nat.le_of_eq hsz5⟩))
  clear hown hg hv c0 c1 c2 cfz d0 d1 d2 dfz YW0
  obtain ⟨d0, d1, d2, dfz⟩ := bkm3V YW1.out.y
  go_upto_region 9 with fail
  have YW2 := hide (YW1.out.set_ 0 (.slice A4 xn C4) rfl)
  clear YW1 d0 d1 d2 dfz
  generalize (w6.setCell ⟨gY, 0, none⟩ (.slice A4 xn C4)) = w7 at *
  obtain ⟨c0, c1, c2, cfz⟩ := bkm3V YW2.out.x.1.bx
  obtain ⟨d0, d1, d2, dfz⟩ := bkm3V YW2.out.y
  rw [List.nil_append] at YW2
  go_wp2_with (at_builtin; refine wpList_cat w7 (by rfl) _ _ _ (by rfl) base 33 j0 (.int .u64 0) 1 8 Try.underlying23 hj hy0 hy1 hy2 (by decide) (by decide) _ 0 [] (by rfl) (World.ownsRow_nil _ _ _ _) _ xn _ _ (by rfl) YW2.out.x.1.ib ?_ ?_ ?_ ?_ ?_)
  case refine_1 => exact fun u hu => by obtain ⟨z, -, rfl⟩ := List.mem_map.1 hu; rfl
  case refine_2 => omega
  case refine_3 => omega
  case refine_4 => exact YW2.out.hb
  case refine_5 =>
  intro v5 w8 hown hg hv
  obtain ⟨A5, C5, rfl, -⟩ := own_form hown
  have YW3 := hide (YW2.out.cat2 (l' := s) (by simpa [hsl] using hown) hg (hv.imp id fun e => ⟨_, e, Nat.le_refl _⟩))
  clear hown hg hv c0 c1 c2 cfz d0 d1 d2 dfz YW2
  obtain ⟨d0, d1, d2, dfz⟩ := bkm3V YW3.out.y
  rw [List.nil_append] at YW3
  go_upto_region 10 with fail
  have YW4 := hide (YW3.out.set_ 1 (.slice A5 xn C5) rfl)
  clear YW3 d0 d1 d2 dfz
  generalize (w8.setCell ⟨gY, 1, none⟩ (.slice A5 xn C5)) = w9 at *
  obtain ⟨q, hq⟩ : ∃ q, codeV r' 6 = q := ⟨_, rfl⟩
  have hqb := codeV_bd r' 6 (by omega)
  have nx := codeNext w9 gC r' 0 6 YW4.out.cd (by omega) (by omega)
  rw [hq] at hqb nx
  have NX := hide nx
  clear nx hq
  go_wp2_with fail
  refine NX.out.mono ?_
  rintro e x0 ⟨rfl, hcd, hg⟩
  have YW := hide (YW4.out.next hg hcd)
  clear hcd hg NX YW4
  go_upto_block 0 with fail
  obtain ⟨X, hX⟩ : ∃ X, X = (fun W => Xv w gX gC gY XA xn XC XB XD l s tx W ∧ Bk W w.heap.size 25 #[.slice A n c, .slice B m d, .int .i64 t]) := ⟨_, rfl⟩
  rw [← hX] at YW
  go_cut [] (fun wx => X wx ∧ ∃ (A' : Option Addr) (n' c' : Nat) (B' : Option Addr) (m' d' : Nat) (l' s' : List Int) (t' : Int), Bk wx gY 25 #[.slice A' n' c', .slice B' m' d', .int .i64 t'] ∧ IsI .i64 wx A' n' l' ∧ IsI .u64 wx B' m' s' ∧ n' ≤ 100 ∧ m' ≤ 100)
  case first =>
    clear hX
    by_cases hq0 : q = 0
    · subst hq0
      have NB := hide (number_any x0 gC r'.tail 0 YW.out.cd)
      obtain ⟨d0, d1, d2, dfz⟩ := bkm3V YW.out.y
      go_wp2_with fail
      refine NB.out.mono ?_
      rintro e x1 ⟨tv, rfl, hcd, hg⟩
      have YW1 := hide (YW.out.next hg hcd)
      clear hcd hg NB YW d0 d1 d2 dfz
      obtain ⟨d0, d1, d2, dfz⟩ := bkm3V YW1.out.y
      go_wp2
      go_meet
      case rel => exact (YW1.out.set_ 2 (.int .i64 tv) rfl).fin (by omega) (by omega)
    by_cases hq1 : q = 1
    · subst hq1
      obtain ⟨d0, d1, d2, dfz⟩ := bkm3V YW.out.y
      go_wp2_with (at_builtin; refine wpList_pushI x0 (by rfl) _ _ _ (by rfl) base 3 i0 .i64 8 Try.underlying22 hi hz0 hz1 hz2 _ l (by rfl) (YW.out.rws.at_ 0 (Nat.succ_pos _)) 1 (by rfl) (by omega) (by omega) YW.out.hb ?_)
      intro v6 x1 hown hg hv
      have YW1 := hide (YW.out.push1 (a := 1) (by simpa [hxn] using hown) hg hv)
      obtain ⟨A6, C6, rfl, -⟩ := own_form hown
      clear hown hg hv YW d0 d1 d2 dfz
      obtain ⟨d0, d1, d2, dfz⟩ := bkm3V YW1.out.y
      go_wp2
      go_meet
      case rel => exact (YW1.out.set_ 0 _ rfl).fin (by simp; omega) (by omega)
    by_cases hq2 : q = 2
    · subst hq2
      go_upto_region 16 with fail
      replace YW := hide YW.out.drew
      refine wp_region_L (fun W => W.cell? ⟨gY, 0, none⟩ = some (.slice A4 xn C4) ∧ W.cell? ⟨gY, 1, none⟩ = some (.slice A5 xn C5)) 11 (by kernel_rfl) ?_
      generalize x0.drew = xd at *
      refine wpAnyL_any (i := 0) (oi := ⟨some 49, _, _, _, _, _⟩) (v := ?vvr16_0_1) rfl (by kernel_rfl) (by kernel_rfl) (by kernel_rfl) (by kernel_rfl) (fun _ _ _ h => h) (fun _ => YW.out.T) (by rfl) ?hhr16_0_1 ?rrr16_0_1
      case hhr16_0_1 => (intro W; go_simp; try with_reducible rfl)
      (try simp only [Act.put, List.setIfInBounds_toArray, List.set_cons_zero, List.set_cons_succ])
      refine wpAnyL_take (i := 1) (oi := ⟨some 50, _, _, _, _, _⟩) [5, 9, 10, 11, 12, 13] (v := ?vvr16_1_2) rfl (by kernel_rfl) (by kernel_rfl) (by kernel_rfl) (by kernel_rfl) (fun _ _ _ h => h) YW.out.T (by rfl) ?hhr16_1_2 ?rrr16_1_2
      case hhr16_1_2 => (intro W hW; obtain ⟨d0, d1⟩ := hW; go_simp; try with_reducible rfl)
      (try simp only [Act.put, List.setIfInBounds_toArray, List.set_cons_zero, List.set_cons_succ])
      refine wpAnyL_any (i := 2) (oi := ⟨some 51, _, _, _, _, _⟩) (v := ?vvr16_2_3) rfl (by kernel_rfl) (by kernel_rfl) (by kernel_rfl) (by kernel_rfl) (fun _ _ _ h => h) (fun _ => YW.out.T) (by rfl) ?hhr16_2_3 ?rrr16_2_3
      case hhr16_2_3 => (intro W; go_simp; try with_reducible rfl)
      (try simp only [Act.put, List.setIfInBounds_toArray, List.set_cons_zero, List.set_cons_succ])
      refine wpAnyL_any (i := 6) (oi := ⟨some 55, _, _, _, _, _⟩) (v := ?vvr16_6_4) rfl (by kernel_rfl) (by kernel_rfl) (by kernel_rfl) (by kernel_rfl) (fun _ _ _ h => h) (fun _ => YW.out.T) (by rfl) ?hhr16_6_4 ?rrr16_6_4
      case hhr16_6_4 => (intro W; go_simp; try with_reducible rfl)
      (try simp only [Act.put, List.setIfInBounds_toArray, List.set_cons_zero, List.set_cons_succ])
      refine wpAnyL_take (i := 7) (oi := ⟨some 56, _, _, _, _, _⟩) [9, 10, 11, 12, 13] (v := ?vvr16_7_5) rfl (by kernel_rfl) (by kernel_rfl) (by kernel_rfl) (by kernel_rfl) (fun _ _ _ h => h) YW.out.T (by rfl) ?hhr16_7_5 ?rrr16_7_5
      case hhr16_7_5 => (intro W hW; obtain ⟨d0, d1⟩ := hW; go_simp; try with_reducible rfl)
      (try simp only [Act.put, List.setIfInBounds_toArray, List.set_cons_zero, List.set_cons_succ])
      refine wpAnyL_some 3 [8] (by kernel_rfl) ?_
      refine wpAnyLs_cons (oi := ⟨some 52, _, _, _, _, _⟩) rfl (fun K hK => ?_) ?_
      · refine step_call _ (by rfl) 11 _ (by go_simp) (number_any _ gC _ 0 YW.out.cd) ?_
        rintro e W3 ⟨tv, rfl, hcd, hg⟩
        refine ⟨_, rfl, ?_⟩
        replace YW := hide (YW.out.next hg hcd)
        clear hcd hg
        refine hK.out _ _ (fun _ => YW.out.T) ?_
        clear hK K
        (try simp only [Act.put, List.setIfInBounds_toArray, List.set_cons_zero, List.set_cons_succ])
        refine wpAnyL_some 4 [8] (by kernel_rfl) ?_
        refine wpAnyLs_cons (oi := ⟨some 53, _, _, _, _, _⟩) rfl (fun K hK => ?_) ?_
        · go_simp
          have K1 := hide (Bk.new W3 3 #[.int .i64 tv])
          have hg1 : base ≤ (W3).heap.size := YW.out.hb
          replace YW := hide (YW.out.below (below_new (W3) (.cells #[.int .i64 tv] 3)))
          generalize (World.alloc W3 (.cells #[.int .i64 tv] 3)) = W3_4 at *
          generalize (W3).heap.size = g1 at *
          refine hK.out _ _ (fun _ => YW.out.T) ?_
          clear hK K
          (try simp only [Act.put, List.setIfInBounds_toArray, List.set_cons_zero, List.set_cons_succ])
          refine wpAnyL_some 5 [8] (by kernel_rfl) ?_
          refine wpAnyLs_cons (oi := ⟨some 54, _, _, _, _, _⟩) rfl (fun K hK => ?_) ?_
          · refine step_push3 W3_4 (by rfl) (.tmp 50) (.tmp 53) _ (by rfl) base 3 i0 _ 1 8 Try.underlying22 hi hz0 hz1 hz2 (by rfl) (by decide) _ _ _ (by rfl) (YW.out.rws.at_ 0 (Nat.succ_pos _)) [.int .i64 tv] ⟨g1, 0, none⟩ (by rfl) (cells_bk K1.out) (by rfl) (by simp [Value.oneCell']) (by show List.length _ ≤ _; omega) (by omega) YW.out.hb ?_
            intro v6 W3_4_5 hown hg hv
            replace YW := hide (YW.out.push1 hown hg hv)
            replace hown : World.ownsRow W3_4_5 base 3 1 v6 (xn + 1) (List.map (Value.int .i64) l ++ [.int .i64 tv]) := by rw [← hxn]; exact hown
            obtain ⟨A6_1, C6_1, rfl, -⟩ := own_form hown
            clear hown hg hv K1
            refine hK.out _ _ (fun _ => YW.out.T) ?_
            clear hK K
            (try simp only [Act.put, List.setIfInBounds_toArray, List.set_cons_zero, List.set_cons_succ])
            refine wpAnyL_any (i := 10) (oi := ⟨some 59, _, _, _, _, _⟩) (v := ?vvr16_10_6) rfl (by kernel_rfl) (by kernel_rfl) (by kernel_rfl) (by kernel_rfl) (fun _ _ _ h => h) (fun _ => YW.out.T) (by rfl) ?hhr16_10_6 ?rrr16_10_6
            case hhr16_10_6 => (intro W; go_simp; try with_reducible rfl)
            (try simp only [Act.put, List.setIfInBounds_toArray, List.set_cons_zero, List.set_cons_succ])
            refine wpAnyL_one (i := 8) (oi := ⟨some 57, _, _, _, _, _⟩) rfl (by kernel_rfl) (fun K hK => ?_)
            go_simp
            have K2 := hide (Bk.new W3_4_5 33 #[.int .u64 0])
            have hg2 : base ≤ (W3_4_5).heap.size := YW.out.hb
            replace YW := hide (YW.out.below (below_new (W3_4_5) (.cells #[.int .u64 0] 33)))
            generalize (World.alloc W3_4_5 (.cells #[.int .u64 0] 33)) = W3_4_5_8 at *
            generalize (W3_4_5).heap.size = g2 at *
            refine hK.out _ _ (fun _ => YW.out.T) ?_
            clear hK K
            (try simp only [Act.put, List.setIfInBounds_toArray, List.set_cons_zero, List.set_cons_succ])
            refine wpAnyL_one (i := 9) (oi := ⟨some 58, _, _, _, _, _⟩) rfl (by kernel_rfl) (fun K hK => ?_)
            refine step_push3 W3_4_5_8 (by rfl) (.tmp 56) (.tmp 57) _ (by rfl) base 33 j0 _ 1 8 Try.underlying23 hj hy0 hy1 hy2 (by rfl) (by decide) _ _ _ (by rfl) (YW.out.rws.at_ 1 (Nat.succ_lt_succ (Nat.succ_pos _))) [.int .u64 0] ⟨g2, 0, none⟩ (by rfl) (cells_bk K2.out) (by rfl) (by simp [Value.oneCell']) (by show List.length _ ≤ _; omega) (by omega) YW.out.hb ?_
            intro v6 W3_4_5_8_9 hown hg hv
            replace YW := hide (YW.out.push2 hown hg hv)
            replace hown : World.ownsRow W3_4_5_8_9 base 33 1 v6 (xn + 1) (List.map (Value.int .u64) s ++ [.int .u64 0]) := by rw [← hsl]; exact hown
            obtain ⟨A6_2, C6_2, rfl, -⟩ := own_form hown
            clear hown hg hv K2
            refine hK.out _ _ (fun _ => YW.out.T) ?_
            clear hK K
            (try simp only [Act.put, List.setIfInBounds_toArray, List.set_cons_zero, List.set_cons_succ])
            refine wpAnyL_one (i := 11) (oi := ⟨none, _, _, _, _, _⟩) rfl (by kernel_rfl) (fun K hK => ?_)
            obtain ⟨d0, d1, d2, dfz⟩ := bkm3V YW.out.y
            go_simp
            clear d0 d1 d2 dfz
            replace YW := hide (YW.out.set_ 0 (.slice A6_1 (xn + 1) C6_1) rfl)
            generalize (World.setCell W3_4_5_8_9 ⟨gY, 0, none⟩ (.slice A6_1 (xn + 1) C6_1)) = W3_4_5_8_9_11 at *
            refine hK.out _ _ (fun h => by first | cases h | simp at h) ?_
            clear hK K
            (try simp only [Act.put, List.setIfInBounds_toArray, List.set_cons_zero, List.set_cons_succ])
            refine wpAnyL_any (i := 12) (oi := ⟨some 60, _, _, _, _, _⟩) (v := ?vvr16_12_7) rfl (by kernel_rfl) (by kernel_rfl) (by kernel_rfl) (by kernel_rfl) (fun _ _ _ h => h) (fun h => by first | cases h | simp at h) (by rfl) ?hhr16_12_7 ?rrr16_12_7
            case hhr16_12_7 => (intro W; go_simp; try with_reducible rfl)
            (try simp only [Act.put, List.setIfInBounds_toArray, List.set_cons_zero, List.set_cons_succ])
            refine wpAnyL_one (i := 13) (oi := ⟨none, _, _, _, _, _⟩) rfl (by kernel_rfl) (fun K hK => ?_)
            obtain ⟨d0, d1, d2, dfz⟩ := bkm3V YW.out.y
            go_simp
            clear d0 d1 d2 dfz
            replace YW := hide (YW.out.set_ 1 (.slice A6_2 (xn + 1) C6_2) rfl)
            generalize (World.setCell W3_4_5_8_9_11 ⟨gY, 1, none⟩ (.slice A6_2 (xn + 1) C6_2)) = W3_4_5_8_9_11_13 at *
            refine hK.out _ _ (fun h => by first | cases h | simp at h) ?_
            clear hK K
            (try simp only [Act.put, List.setIfInBounds_toArray, List.set_cons_zero, List.set_cons_succ])
            refine wpAnyL_done (by kernel_rfl) ?_ _
            go_wp2
            go_meet
            case rel => exact YW.out.fin (by simp; omega) (by simp; omega)
          refine wpAnyLs_cons (oi := ⟨some 57, _, _, _, _, _⟩) rfl (fun K hK => ?_) ?_
          · go_simp
            have K2 := hide (Bk.new W3_4 33 #[.int .u64 0])
            have hg2 : base ≤ (W3_4).heap.size := YW.out.hb
            replace K1 := hide (K1.out.alloc (.cells #[.int .u64 0] 33))
            replace YW := hide (YW.out.below (below_new (W3_4) (.cells #[.int .u64 0] 33)))
            generalize (World.alloc W3_4 (.cells #[.int .u64 0] 33)) = W3_4_8 at *
            generalize (W3_4).heap.size = g2 at *
            refine hK.out _ _ (fun _ => YW.out.T) ?_
            clear hK K
            (try simp only [Act.put, List.setIfInBounds_toArray, List.set_cons_zero, List.set_cons_succ])
            refine wpAnyL_one (i := 5) (oi := ⟨some 54, _, _, _, _, _⟩) rfl (by kernel_rfl) (fun K hK => ?_)
            refine step_push3 W3_4_8 (by rfl) (.tmp 50) (.tmp 53) _ (by rfl) base 3 i0 _ 1 8 Try.underlying22 hi hz0 hz1 hz2 (by rfl) (by decide) _ _ _ (by rfl) (YW.out.rws.at_ 0 (Nat.succ_pos _)) [.int .i64 tv] ⟨g1, 0, none⟩ (by rfl) (cells_bk K1.out) (by rfl) (by simp [Value.oneCell']) (by show List.length _ ≤ _; omega) (by omega) YW.out.hb ?_
            intro v6 W3_4_5_8 hown hg hv
            replace K2 := hide (YW.out.el2 K2.out hg)
            replace YW := hide (YW.out.push1 hown hg hv)
            replace hown : World.ownsRow W3_4_5_8 base 3 1 v6 (xn + 1) (List.map (Value.int .i64) l ++ [.int .i64 tv]) := by rw [← hxn]; exact hown
            obtain ⟨A6_1, C6_1, rfl, -⟩ := own_form hown
            clear hown hg hv K1
            refine hK.out _ _ (fun _ => YW.out.T) ?_
            clear hK K
            (try simp only [Act.put, List.setIfInBounds_toArray, List.set_cons_zero, List.set_cons_succ])
            refine wpAnyL_any (i := 10) (oi := ⟨some 59, _, _, _, _, _⟩) (v := ?vvr16_10_8) rfl (by kernel_rfl) (by kernel_rfl) (by kernel_rfl) (by kernel_rfl) (fun _ _ _ h => h) (fun _ => YW.out.T) (by rfl) ?hhr16_10_8 ?rrr16_10_8
            case hhr16_10_8 => (intro W; go_simp; try with_reducible rfl)
            (try simp only [Act.put, List.setIfInBounds_toArray, List.set_cons_zero, List.set_cons_succ])
            refine wpAnyL_one (i := 9) (oi := ⟨some 58, _, _, _, _, _⟩) rfl (by kernel_rfl) (fun K hK => ?_)
            refine step_push3 W3_4_5_8 (by rfl) (.tmp 56) (.tmp 57) _ (by rfl) base 33 j0 _ 1 8 Try.underlying23 hj hy0 hy1 hy2 (by rfl) (by decide) _ _ _ (by rfl) (YW.out.rws.at_ 1 (Nat.succ_lt_succ (Nat.succ_pos _))) [.int .u64 0] ⟨g2, 0, none⟩ (by rfl) (cells_bk K2.out) (by rfl) (by simp [Value.oneCell']) (by show List.length _ ≤ _; omega) (by omega) YW.out.hb ?_
            intro v6 W3_4_5_8_9 hown hg hv
            replace YW := hide (YW.out.push2 hown hg hv)
            replace hown : World.ownsRow W3_4_5_8_9 base 33 1 v6 (xn + 1) (List.map (Value.int .u64) s ++ [.int .u64 0]) := by rw [← hsl]; exact hown
            obtain ⟨A6_2, C6_2, rfl, -⟩ := own_form hown
            clear hown hg hv K2
            refine hK.out _ _ (fun _ => YW.out.T) ?_
            clear hK K
            (try simp only [Act.put, List.setIfInBounds_toArray, List.set_cons_zero, List.set_cons_succ])
            refine wpAnyL_one (i := 11) (oi := ⟨none, _, _, _, _, _⟩) rfl (by kernel_rfl) (fun K hK => ?_)
            obtain ⟨d0, d1, d2, dfz⟩ := bkm3V YW.out.y
            go_simp
            clear d0 d1 d2 dfz
            replace YW := hide (YW.out.set_ 0 (.slice A6_1 (xn + 1) C6_1) rfl)
            generalize (World.setCell W3_4_5_8_9 ⟨gY, 0, none⟩ (.slice A6_1 (xn + 1) C6_1)) = W3_4_5_8_9_11 at *
            refine hK.out _ _ (fun h => by first | cases h | simp at h) ?_
            clear hK K
            (try simp only [Act.put, List.setIfInBounds_toArray, List.set_cons_zero, List.set_cons_succ])
            refine wpAnyL_any (i := 12) (oi := ⟨some 60, _, _, _, _, _⟩) (v := ?vvr16_12_9) rfl (by kernel_rfl) (by kernel_rfl) (by kernel_rfl) (by kernel_rfl) (fun _ _ _ h => h) (fun h => by first | cases h | simp at h) (by rfl) ?hhr16_12_9 ?rrr16_12_9
            case hhr16_12_9 => (intro W; go_simp; try with_reducible rfl)
            (try simp only [Act.put, List.setIfInBounds_toArray, List.set_cons_zero, List.set_cons_succ])
            refine wpAnyL_one (i := 13) (oi := ⟨none, _, _, _, _, _⟩) rfl (by kernel_rfl) (fun K hK => ?_)
            obtain ⟨d0, d1, d2, dfz⟩ := bkm3V YW.out.y
            go_simp
            clear d0 d1 d2 dfz
            replace YW := hide (YW.out.set_ 1 (.slice A6_2 (xn + 1) C6_2) rfl)
            generalize (World.setCell W3_4_5_8_9_11 ⟨gY, 1, none⟩ (.slice A6_2 (xn + 1) C6_2)) = W3_4_5_8_9_11_13 at *
            refine hK.out _ _ (fun h => by first | cases h | simp at h) ?_
            clear hK K
            (try simp only [Act.put, List.setIfInBounds_toArray, List.set_cons_zero, List.set_cons_succ])
            refine wpAnyL_done (by kernel_rfl) ?_ _
            go_wp2
            go_meet
            case rel => exact YW.out.fin (by simp; omega) (by simp; omega)
          exact wpAnyLs_nil
        refine wpAnyLs_cons (oi := ⟨some 57, _, _, _, _, _⟩) rfl (fun K hK => ?_) ?_
        · go_simp
          have K2 := hide (Bk.new W3 33 #[.int .u64 0])
          have hg2 : base ≤ (W3).heap.size := YW.out.hb
          replace YW := hide (YW.out.below (below_new (W3) (.cells #[.int .u64 0] 33)))
          generalize (World.alloc W3 (.cells #[.int .u64 0] 33)) = W3_8 at *
          generalize (W3).heap.size = g2 at *
          refine hK.out _ _ (fun _ => YW.out.T) ?_
          clear hK K
          (try simp only [Act.put, List.setIfInBounds_toArray, List.set_cons_zero, List.set_cons_succ])
          refine wpAnyL_one (i := 4) (oi := ⟨some 53, _, _, _, _, _⟩) rfl (by kernel_rfl) (fun K hK => ?_)
          go_simp
          have K1 := hide (Bk.new W3_8 3 #[.int .i64 tv])
          have hg1 : base ≤ (W3_8).heap.size := YW.out.hb
          replace K2 := hide (K2.out.alloc (.cells #[.int .i64 tv] 3))
          replace YW := hide (YW.out.below (below_new (W3_8) (.cells #[.int .i64 tv] 3)))
          generalize (World.alloc W3_8 (.cells #[.int .i64 tv] 3)) = W3_4_8 at *
          generalize (W3_8).heap.size = g1 at *
          refine hK.out _ _ (fun _ => YW.out.T) ?_
          clear hK K
          (try simp only [Act.put, List.setIfInBounds_toArray, List.set_cons_zero, List.set_cons_succ])
          refine wpAnyL_one (i := 5) (oi := ⟨some 54, _, _, _, _, _⟩) rfl (by kernel_rfl) (fun K hK => ?_)
          refine step_push3 W3_4_8 (by rfl) (.tmp 50) (.tmp 53) _ (by rfl) base 3 i0 _ 1 8 Try.underlying22 hi hz0 hz1 hz2 (by rfl) (by decide) _ _ _ (by rfl) (YW.out.rws.at_ 0 (Nat.succ_pos _)) [.int .i64 tv] ⟨g1, 0, none⟩ (by rfl) (cells_bk K1.out) (by rfl) (by simp [Value.oneCell']) (by show List.length _ ≤ _; omega) (by omega) YW.out.hb ?_
          intro v6 W3_4_5_8 hown hg hv
          replace K2 := hide (YW.out.el2 K2.out hg)
          replace YW := hide (YW.out.push1 hown hg hv)
          replace hown : World.ownsRow W3_4_5_8 base 3 1 v6 (xn + 1) (List.map (Value.int .i64) l ++ [.int .i64 tv]) := by rw [← hxn]; exact hown
          obtain ⟨A6_1, C6_1, rfl, -⟩ := own_form hown
          clear hown hg hv K1
          refine hK.out _ _ (fun _ => YW.out.T) ?_
          clear hK K
          (try simp only [Act.put, List.setIfInBounds_toArray, List.set_cons_zero, List.set_cons_succ])
          refine wpAnyL_any (i := 10) (oi := ⟨some 59, _, _, _, _, _⟩) (v := ?vvr16_10_10) rfl (by kernel_rfl) (by kernel_rfl) (by kernel_rfl) (by kernel_rfl) (fun _ _ _ h => h) (fun _ => YW.out.T) (by rfl) ?hhr16_10_10 ?rrr16_10_10
          case hhr16_10_10 => (intro W; go_simp; try with_reducible rfl)
          (try simp only [Act.put, List.setIfInBounds_toArray, List.set_cons_zero, List.set_cons_succ])
          refine wpAnyL_one (i := 9) (oi := ⟨some 58, _, _, _, _, _⟩) rfl (by kernel_rfl) (fun K hK => ?_)
          refine step_push3 W3_4_5_8 (by rfl) (.tmp 56) (.tmp 57) _ (by rfl) base 33 j0 _ 1 8 Try.underlying23 hj hy0 hy1 hy2 (by rfl) (by decide) _ _ _ (by rfl) (YW.out.rws.at_ 1 (Nat.succ_lt_succ (Nat.succ_pos _))) [.int .u64 0] ⟨g2, 0, none⟩ (by rfl) (cells_bk K2.out) (by rfl) (by simp [Value.oneCell']) (by show List.length _ ≤ _; omega) (by omega) YW.out.hb ?_
          intro v6 W3_4_5_8_9 hown hg hv
          replace YW := hide (YW.out.push2 hown hg hv)
          replace hown : World.ownsRow W3_4_5_8_9 base 33 1 v6 (xn + 1) (List.map (Value.int .u64) s ++ [.int .u64 0]) := by rw [← hsl]; exact hown
          obtain ⟨A6_2, C6_2, rfl, -⟩ := own_form hown
          clear hown hg hv K2
          refine hK.out _ _ (fun _ => YW.out.T) ?_
          clear hK K
          (try simp only [Act.put, List.setIfInBounds_toArray, List.set_cons_zero, List.set_cons_succ])
          refine wpAnyL_one (i := 11) (oi := ⟨none, _, _, _, _, _⟩) rfl (by kernel_rfl) (fun K hK => ?_)
          obtain ⟨d0, d1, d2, dfz⟩ := bkm3V YW.out.y
          go_simp
          clear d0 d1 d2 dfz
          replace YW := hide (YW.out.set_ 0 (.slice A6_1 (xn + 1) C6_1) rfl)
          generalize (World.setCell W3_4_5_8_9 ⟨gY, 0, none⟩ (.slice A6_1 (xn + 1) C6_1)) = W3_4_5_8_9_11 at *
          refine hK.out _ _ (fun h => by first | cases h | simp at h) ?_
          clear hK K
          (try simp only [Act.put, List.setIfInBounds_toArray, List.set_cons_zero, List.set_cons_succ])
          refine wpAnyL_any (i := 12) (oi := ⟨some 60, _, _, _, _, _⟩) (v := ?vvr16_12_11) rfl (by kernel_rfl) (by kernel_rfl) (by kernel_rfl) (by kernel_rfl) (fun _ _ _ h => h) (fun h => by first | cases h | simp at h) (by rfl) ?hhr16_12_11 ?rrr16_12_11
          case hhr16_12_11 => (intro W; go_simp; try with_reducible rfl)
          (try simp only [Act.put, List.setIfInBounds_toArray, List.set_cons_zero, List.set_cons_succ])
          refine wpAnyL_one (i := 13) (oi := ⟨none, _, _, _, _, _⟩) rfl (by kernel_rfl) (fun K hK => ?_)
          obtain ⟨d0, d1, d2, dfz⟩ := bkm3V YW.out.y
          go_simp
          clear d0 d1 d2 dfz
          replace YW := hide (YW.out.set_ 1 (.slice A6_2 (xn + 1) C6_2) rfl)
          generalize (World.setCell W3_4_5_8_9_11 ⟨gY, 1, none⟩ (.slice A6_2 (xn + 1) C6_2)) = W3_4_5_8_9_11_13 at *
          refine hK.out _ _ (fun h => by first | cases h | simp at h) ?_
          clear hK K
          (try simp only [Act.put, List.setIfInBounds_toArray, List.set_cons_zero, List.set_cons_succ])
          refine wpAnyL_done (by kernel_rfl) ?_ _
          go_wp2
          go_meet
          case rel => exact YW.out.fin (by simp; omega) (by simp; omega)
        exact wpAnyLs_nil
      refine wpAnyLs_cons (oi := ⟨some 57, _, _, _, _, _⟩) rfl (fun K hK => ?_) ?_
      · go_simp
        have K2 := hide (Bk.new xd 33 #[.int .u64 0])
        have hg2 : base ≤ (xd).heap.size := YW.out.hb
        replace YW := hide (YW.out.below (below_new (xd) (.cells #[.int .u64 0] 33)))
        generalize (World.alloc xd (.cells #[.int .u64 0] 33)) = W8 at *
        generalize (xd).heap.size = g2 at *
        refine hK.out _ _ (fun _ => YW.out.T) ?_
        clear hK K
        (try simp only [Act.put, List.setIfInBounds_toArray, List.set_cons_zero, List.set_cons_succ])
        refine wpAnyL_one (i := 3) (oi := ⟨some 52, _, _, _, _, _⟩) rfl (by kernel_rfl) (fun K hK => ?_)
        refine step_call _ (by rfl) 11 _ (by go_simp) (number_any _ gC _ 0 YW.out.cd) ?_
        rintro e W3_8 ⟨tv, rfl, hcd, hg⟩
        refine ⟨_, rfl, ?_⟩
        replace K2 := hide (YW.out.elN K2.out hg (by have := YW.out.lt; omega))
        replace YW := hide (YW.out.next hg hcd)
        clear hcd hg
        refine hK.out _ _ (fun _ => YW.out.T) ?_
        clear hK K
        (try simp only [Act.put, List.setIfInBounds_toArray, List.set_cons_zero, List.set_cons_succ])
        refine wpAnyL_one (i := 4) (oi := ⟨some 53, _, _, _, _, _⟩) rfl (by kernel_rfl) (fun K hK => ?_)
        go_simp
        have K1 := hide (Bk.new W3_8 3 #[.int .i64 tv])
        have hg1 : base ≤ (W3_8).heap.size := YW.out.hb
        replace K2 := hide (K2.out.alloc (.cells #[.int .i64 tv] 3))
        replace YW := hide (YW.out.below (below_new (W3_8) (.cells #[.int .i64 tv] 3)))
        generalize (World.alloc W3_8 (.cells #[.int .i64 tv] 3)) = W3_4_8 at *
        generalize (W3_8).heap.size = g1 at *
        refine hK.out _ _ (fun _ => YW.out.T) ?_
        clear hK K
        (try simp only [Act.put, List.setIfInBounds_toArray, List.set_cons_zero, List.set_cons_succ])
        refine wpAnyL_one (i := 5) (oi := ⟨some 54, _, _, _, _, _⟩) rfl (by kernel_rfl) (fun K hK => ?_)
        refine step_push3 W3_4_8 (by rfl) (.tmp 50) (.tmp 53) _ (by rfl) base 3 i0 _ 1 8 Try.underlying22 hi hz0 hz1 hz2 (by rfl) (by decide) _ _ _ (by rfl) (YW.out.rws.at_ 0 (Nat.succ_pos _)) [.int .i64 tv] ⟨g1, 0, none⟩ (by rfl) (cells_bk K1.out) (by rfl) (by simp [Value.oneCell']) (by show List.length _ ≤ _; omega) (by omega) YW.out.hb ?_
        intro v6 W3_4_5_8 hown hg hv
        replace K2 := hide (YW.out.el2 K2.out hg)
        replace YW := hide (YW.out.push1 hown hg hv)
        replace hown : World.ownsRow W3_4_5_8 base 3 1 v6 (xn + 1) (List.map (Value.int .i64) l ++ [.int .i64 tv]) := by rw [← hxn]; exact hown
        obtain ⟨A6_1, C6_1, rfl, -⟩ := own_form hown
        clear hown hg hv K1
        refine hK.out _ _ (fun _ => YW.out.T) ?_
        clear hK K
        (try simp only [Act.put, List.setIfInBounds_toArray, List.set_cons_zero, List.set_cons_succ])
        refine wpAnyL_any (i := 10) (oi := ⟨some 59, _, _, _, _, _⟩) (v := ?vvr16_10_12) rfl (by kernel_rfl) (by kernel_rfl) (by kernel_rfl) (by kernel_rfl) (fun _ _ _ h => h) (fun _ => YW.out.T) (by rfl) ?hhr16_10_12 ?rrr16_10_12
        case hhr16_10_12 => (intro W; go_simp; try with_reducible rfl)
        (try simp only [Act.put, List.setIfInBounds_toArray, List.set_cons_zero, List.set_cons_succ])
        refine wpAnyL_one (i := 9) (oi := ⟨some 58, _, _, _, _, _⟩) rfl (by kernel_rfl) (fun K hK => ?_)
        refine step_push3 W3_4_5_8 (by rfl) (.tmp 56) (.tmp 57) _ (by rfl) base 33 j0 _ 1 8 Try.underlying23 hj hy0 hy1 hy2 (by rfl) (by decide) _ _ _ (by rfl) (YW.out.rws.at_ 1 (Nat.succ_lt_succ (Nat.succ_pos _))) [.int .u64 0] ⟨g2, 0, none⟩ (by rfl) (cells_bk K2.out) (by rfl) (by simp [Value.oneCell']) (by show List.length _ ≤ _; omega) (by omega) YW.out.hb ?_
        intro v6 W3_4_5_8_9 hown hg hv
        replace YW := hide (YW.out.push2 hown hg hv)
        replace hown : World.ownsRow W3_4_5_8_9 base 33 1 v6 (xn + 1) (List.map (Value.int .u64) s ++ [.int .u64 0]) := by rw [← hsl]; exact hown
        obtain ⟨A6_2, C6_2, rfl, -⟩ := own_form hown
        clear hown hg hv K2
        refine hK.out _ _ (fun _ => YW.out.T) ?_
        clear hK K
        (try simp only [Act.put, List.setIfInBounds_toArray, List.set_cons_zero, List.set_cons_succ])
        refine wpAnyL_one (i := 11) (oi := ⟨none, _, _, _, _, _⟩) rfl (by kernel_rfl) (fun K hK => ?_)
        obtain ⟨d0, d1, d2, dfz⟩ := bkm3V YW.out.y
        go_simp
        clear d0 d1 d2 dfz
        replace YW := hide (YW.out.set_ 0 (.slice A6_1 (xn + 1) C6_1) rfl)
        generalize (World.setCell W3_4_5_8_9 ⟨gY, 0, none⟩ (.slice A6_1 (xn + 1) C6_1)) = W3_4_5_8_9_11 at *
        refine hK.out _ _ (fun h => by first | cases h | simp at h) ?_
        clear hK K
        (try simp only [Act.put, List.setIfInBounds_toArray, List.set_cons_zero, List.set_cons_succ])
        refine wpAnyL_any (i := 12) (oi := ⟨some 60, _, _, _, _, _⟩) (v := ?vvr16_12_13) rfl (by kernel_rfl) (by kernel_rfl) (by kernel_rfl) (by kernel_rfl) (fun _ _ _ h => h) (fun h => by first | cases h | simp at h) (by rfl) ?hhr16_12_13 ?rrr16_12_13
        case hhr16_12_13 => (intro W; go_simp; try with_reducible rfl)
        (try simp only [Act.put, List.setIfInBounds_toArray, List.set_cons_zero, List.set_cons_succ])
        refine wpAnyL_one (i := 13) (oi := ⟨none, _, _, _, _, _⟩) rfl (by kernel_rfl) (fun K hK => ?_)
        obtain ⟨d0, d1, d2, dfz⟩ := bkm3V YW.out.y
        go_simp
        clear d0 d1 d2 dfz
        replace YW := hide (YW.out.set_ 1 (.slice A6_2 (xn + 1) C6_2) rfl)
        generalize (World.setCell W3_4_5_8_9_11 ⟨gY, 1, none⟩ (.slice A6_2 (xn + 1) C6_2)) = W3_4_5_8_9_11_13 at *
        refine hK.out _ _ (fun h => by first | cases h | simp at h) ?_
        clear hK K
        (try simp only [Act.put, List.setIfInBounds_toArray, List.set_cons_zero, List.set_cons_succ])
        refine wpAnyL_done (by kernel_rfl) ?_ _
        go_wp2
        go_meet
        case rel => exact YW.out.fin (by simp; omega) (by simp; omega)
      exact wpAnyLs_nil
    by_cases hq3 : q = 3
    · subst hq3
      go_upto_region 18 with fail
      obtain ⟨nv, hnv⟩ : ∃ v, codeV r'.tail 3 = v := ⟨_, rfl⟩
      have hnb := codeV_bd r'.tail 3 (by omega)
      have NX := hide (fun W (hW : Cd W gC r'.tail 0) => show Calls Try.prog 10 #[.pointer (some ⟨gC, 0, none⟩), .int .i64 3] W fun e w' => e = .returned (.int .i64 nv) ∧ Cd w' gC r'.tail.tail 0 ∧ W.grownBy w' (some gC) by
        have := codeNext W gC r'.tail 0 3 hW (by omega) (by omega)
        rwa [hnv] at this)
      rw [hnv] at hnb
      obtain ⟨sv, hsv⟩ : ∃ x, 9223372036854775807 + nv = x := ⟨_, rfl⟩
      have hw1 : IntKind.u64.wrap nv = nv := by rw [wrap_u64]; omega
      have hw2 : IntKind.u64.wrap (9223372036854775807 + nv) = sv := by rw [wrap_u64]; omega
      have hw3 : IntKind.u64.wrap sv = sv := by rw [wrap_u64]; omega
      clear hnv hw2
      replace YW := hide YW.out.drew
      refine wp_region_L (fun W => W.cell? ⟨gY, 0, none⟩ = some (.slice A4 xn C4) ∧ W.cell? ⟨gY, 1, none⟩ = some (.slice A5 xn C5)) 13 (by kernel_rfl) ?_
      generalize x0.drew = xd at *
      refine wpAnyL_any (i := 0) (oi := ⟨some 63, _, _, _, _, _⟩) (v := ?vvr18_0_1) rfl (by kernel_rfl) (by kernel_rfl) (by kernel_rfl) (by kernel_rfl) (fun _ _ _ h => h) (fun _ => YW.out.T) (by rfl) ?hhr18_0_1 ?rrr18_0_1
      case hhr18_0_1 => (intro W; go_simp; try with_reducible rfl)
      (try simp only [Act.put, List.setIfInBounds_toArray, List.set_cons_zero, List.set_cons_succ])
      refine wpAnyL_take (i := 1) (oi := ⟨some 64, _, _, _, _, _⟩) [3, 7, 8, 9, 10, 11, 12, 13, 14, 15] (v := ?vvr18_1_2) rfl (by kernel_rfl) (by kernel_rfl) (by kernel_rfl) (by kernel_rfl) (fun _ _ _ h => h) YW.out.T (by rfl) ?hhr18_1_2 ?rrr18_1_2
      case hhr18_1_2 => (intro W hW; obtain ⟨d0, d1⟩ := hW; go_simp; try with_reducible rfl)
      (try simp only [Act.put, List.setIfInBounds_toArray, List.set_cons_zero, List.set_cons_succ])
      refine wpAnyL_any (i := 4) (oi := ⟨some 67, _, _, _, _, _⟩) (v := ?vvr18_4_3) rfl (by kernel_rfl) (by kernel_rfl) (by kernel_rfl) (by kernel_rfl) (fun _ _ _ h => h) (fun _ => YW.out.T) (by rfl) ?hhr18_4_3 ?rrr18_4_3
      case hhr18_4_3 => (intro W; go_simp; try with_reducible rfl)
      (try simp only [Act.put, List.setIfInBounds_toArray, List.set_cons_zero, List.set_cons_succ])
      refine wpAnyL_take (i := 5) (oi := ⟨some 68, _, _, _, _, _⟩) [11, 12, 13, 14, 15] (v := ?vvr18_5_4) rfl (by kernel_rfl) (by kernel_rfl) (by kernel_rfl) (by kernel_rfl) (fun _ _ _ h => h) YW.out.T (by rfl) ?hhr18_5_4 ?rrr18_5_4
      case hhr18_5_4 => (intro W hW; obtain ⟨d0, d1⟩ := hW; go_simp; try with_reducible rfl)
      (try simp only [Act.put, List.setIfInBounds_toArray, List.set_cons_zero, List.set_cons_succ])
      refine wpAnyL_any (i := 6) (oi := ⟨some 69, _, _, _, _, _⟩) (v := ?vvr18_6_5) rfl (by kernel_rfl) (by kernel_rfl) (by kernel_rfl) (by kernel_rfl) (fun _ _ _ h => h) (fun _ => YW.out.T) (by rfl) ?hhr18_6_5 ?rrr18_6_5
      case hhr18_6_5 => (intro W; go_simp; try with_reducible rfl)
      (try simp only [Act.put, List.setIfInBounds_toArray, List.set_cons_zero, List.set_cons_succ])
      refine wpAnyL_one (i := 2) (oi := ⟨some 65, _, _, _, _, _⟩) rfl (by kernel_rfl) (fun K hK => ?_)
      go_simp
      have K1 := hide (Bk.new xd 3 #[.int .i64 1])
      have hg1 : base ≤ (xd).heap.size := YW.out.hb
      replace YW := hide (YW.out.below (below_new (xd) (.cells #[.int .i64 1] 3)))
      generalize (World.alloc xd (.cells #[.int .i64 1] 3)) = W2 at *
      generalize (xd).heap.size = g1 at *
      refine hK.out _ _ (fun _ => YW.out.T) ?_
      clear hK K
      (try simp only [Act.put, List.setIfInBounds_toArray, List.set_cons_zero, List.set_cons_succ])
      refine wpAnyL_one (i := 3) (oi := ⟨some 66, _, _, _, _, _⟩) rfl (by kernel_rfl) (fun K hK => ?_)
      refine step_push3 W2 (by rfl) (.tmp 64) (.tmp 65) _ (by rfl) base 3 i0 _ 1 8 Try.underlying22 hi hz0 hz1 hz2 (by rfl) (by decide) _ _ _ (by rfl) (YW.out.rws.at_ 0 (Nat.succ_pos _)) [.int .i64 1] ⟨g1, 0, none⟩ (by rfl) (cells_bk K1.out) (by rfl) (by simp [Value.oneCell']) (by show List.length _ ≤ _; omega) (by omega) YW.out.hb ?_
      intro v6 W2_3 hown hg hv
      replace YW := hide (YW.out.push1 hown hg hv)
      replace hown : World.ownsRow W2_3 base 3 1 v6 (xn + 1) (List.map (Value.int .i64) l ++ [.int .i64 1]) := by rw [← hxn]; exact hown
      obtain ⟨A6_1, C6_1, rfl, -⟩ := own_form hown
      clear hown hg hv K1
      refine hK.out _ _ (fun _ => YW.out.T) ?_
      clear hK K
      (try simp only [Act.put, List.setIfInBounds_toArray, List.set_cons_zero, List.set_cons_succ])
      refine wpAnyL_any (i := 12) (oi := ⟨some 75, _, _, _, _, _⟩) (v := ?vvr18_12_6) rfl (by kernel_rfl) (by kernel_rfl) (by kernel_rfl) (by kernel_rfl) (fun _ _ _ h => h) (fun _ => YW.out.T) (by rfl) ?hhr18_12_6 ?rrr18_12_6
      case hhr18_12_6 => (intro W; go_simp; try with_reducible rfl)
      (try simp only [Act.put, List.setIfInBounds_toArray, List.set_cons_zero, List.set_cons_succ])
      refine wpAnyL_one (i := 7) (oi := ⟨some 70, _, _, _, _, _⟩) rfl (by kernel_rfl) (fun K hK => ?_)
      refine step_call _ (by rfl) 10 _ (by go_simp) (NX.out _ YW.out.cd) ?_
      rintro e W7_2_3 ⟨rfl, hcd, hg⟩
      refine ⟨_, rfl, ?_⟩
      replace YW := hide (YW.out.next hg hcd)
      clear hcd hg
      refine hK.out _ _ (fun _ => YW.out.T) ?_
      clear hK K
      (try simp only [Act.put, List.setIfInBounds_toArray, List.set_cons_zero, List.set_cons_succ])
      refine wpAnyL_any (i := 8) (oi := ⟨some 71, _, _, _, _, _⟩) (v := ?vvr18_8_7) rfl (by kernel_rfl) (by kernel_rfl) (by kernel_rfl) (by kernel_rfl) (fun _ _ _ h => h) (fun _ => YW.out.T) (by rfl) ?hhr18_8_7 ?rrr18_8_7
      case hhr18_8_7 => (intro W; go_simp; try with_reducible rfl)
      (try simp only [Act.put, List.setIfInBounds_toArray, List.set_cons_zero, List.set_cons_succ])
      refine wpAnyL_any (i := 9) (oi := ⟨some 72, _, _, _, _, _⟩) (v := ?vvr18_9_8) rfl (by kernel_rfl) (by kernel_rfl) (by kernel_rfl) (by kernel_rfl) (fun _ _ _ h => h) (fun _ => YW.out.T) (by rfl) ?hhr18_9_8 ?rrr18_9_8
      case hhr18_9_8 => (intro W; go_simp; try with_reducible rfl)
      (try simp only [Act.put, List.setIfInBounds_toArray, List.set_cons_zero, List.set_cons_succ])
      refine wpAnyL_one (i := 10) (oi := ⟨some 73, _, _, _, _, _⟩) rfl (by kernel_rfl) (fun K hK => ?_)
      go_simp
      have K2 := hide (Bk.new W7_2_3 33 #[.int .u64 sv])
      have hg2 : base ≤ (W7_2_3).heap.size := YW.out.hb
      replace YW := hide (YW.out.below (below_new (W7_2_3) (.cells #[.int .u64 sv] 33)))
      generalize (World.alloc W7_2_3 (.cells #[.int .u64 sv] 33)) = W7_2_3_10 at *
      generalize (W7_2_3).heap.size = g2 at *
      refine hK.out _ _ (fun _ => YW.out.T) ?_
      clear hK K
      (try simp only [Act.put, List.setIfInBounds_toArray, List.set_cons_zero, List.set_cons_succ])
      refine wpAnyL_one (i := 11) (oi := ⟨some 74, _, _, _, _, _⟩) rfl (by kernel_rfl) (fun K hK => ?_)
      refine step_push3 W7_2_3_10 (by rfl) (.tmp 68) (.tmp 73) _ (by rfl) base 33 j0 _ 1 8 Try.underlying23 hj hy0 hy1 hy2 (by rfl) (by decide) _ _ _ (by rfl) (YW.out.rws.at_ 1 (Nat.succ_lt_succ (Nat.succ_pos _))) [.int .u64 sv] ⟨g2, 0, none⟩ (by rfl) (cells_bk K2.out) (by rfl) (by simp [Value.oneCell']) (by show List.length _ ≤ _; omega) (by omega) YW.out.hb ?_
      intro v6 W7_2_3_10_11 hown hg hv
      replace YW := hide (YW.out.push2 hown hg hv)
      replace hown : World.ownsRow W7_2_3_10_11 base 33 1 v6 (xn + 1) (List.map (Value.int .u64) s ++ [.int .u64 sv]) := by rw [← hsl]; exact hown
      obtain ⟨A6_2, C6_2, rfl, -⟩ := own_form hown
      clear hown hg hv K2
      refine hK.out _ _ (fun _ => YW.out.T) ?_
      clear hK K
      (try simp only [Act.put, List.setIfInBounds_toArray, List.set_cons_zero, List.set_cons_succ])
      refine wpAnyL_one (i := 13) (oi := ⟨none, _, _, _, _, _⟩) rfl (by kernel_rfl) (fun K hK => ?_)
      obtain ⟨d0, d1, d2, dfz⟩ := bkm3V YW.out.y
      go_simp
      clear d0 d1 d2 dfz
      replace YW := hide (YW.out.set_ 0 (.slice A6_1 (xn + 1) C6_1) rfl)
      generalize (World.setCell W7_2_3_10_11 ⟨gY, 0, none⟩ (.slice A6_1 (xn + 1) C6_1)) = W7_2_3_10_11_13 at *
      refine hK.out _ _ (fun h => by first | cases h | simp at h) ?_
      clear hK K
      (try simp only [Act.put, List.setIfInBounds_toArray, List.set_cons_zero, List.set_cons_succ])
      refine wpAnyL_any (i := 14) (oi := ⟨some 76, _, _, _, _, _⟩) (v := ?vvr18_14_9) rfl (by kernel_rfl) (by kernel_rfl) (by kernel_rfl) (by kernel_rfl) (fun _ _ _ h => h) (fun h => by first | cases h | simp at h) (by rfl) ?hhr18_14_9 ?rrr18_14_9
      case hhr18_14_9 => (intro W; go_simp; try with_reducible rfl)
      (try simp only [Act.put, List.setIfInBounds_toArray, List.set_cons_zero, List.set_cons_succ])
      refine wpAnyL_one (i := 15) (oi := ⟨none, _, _, _, _, _⟩) rfl (by kernel_rfl) (fun K hK => ?_)
      obtain ⟨d0, d1, d2, dfz⟩ := bkm3V YW.out.y
      go_simp
      clear d0 d1 d2 dfz
      replace YW := hide (YW.out.set_ 1 (.slice A6_2 (xn + 1) C6_2) rfl)
      generalize (World.setCell W7_2_3_10_11_13 ⟨gY, 1, none⟩ (.slice A6_2 (xn + 1) C6_2)) = W7_2_3_10_11_13_15 at *
      refine hK.out _ _ (fun h => by first | cases h | simp at h) ?_
      clear hK K
      (try simp only [Act.put, List.setIfInBounds_toArray, List.set_cons_zero, List.set_cons_succ])
      refine wpAnyL_done (by kernel_rfl) ?_ _
      go_wp2
      go_meet
      case rel => exact YW.out.fin (by simp; omega) (by simp; omega)
    by_cases hq4 : q = 4
    · subst hq4
      have hYW := YW.out
      clear YW
      go_wp2_with fail
      go_loopg [] 20 (fun g wr => ∃ (u1 u2 : Value) (lx sx ry : List Int), 20 ≤ g + lx.length ∧ lx.length ≤ 9 ∧ sx.length = lx.length ∧ Yw X wr base gC gY u1 u2 u1 u2 lx sx tx ry)
      case atStart => exact ⟨_, _, _, _, _, by omega, by omega, by omega, hYW⟩
      case round =>
      obtain ⟨u1, u2, lx, sx, ry, hk, hk9, hsl2, hyw⟩ := hrel
      obtain ⟨B1, D1, e1, -⟩ := own_form (hyw.rws.at_ 0 (Nat.succ_pos _))
      obtain ⟨B2, D2, e2, -⟩ := own_form (hyw.rws.at_ 1 (Nat.succ_lt_succ (Nat.succ_pos _)))
      have e1' : u1 = .slice B1 lx.length D1 := e1
      have e2' : u2 = .slice B2 sx.length D2 := e2
      clear e1 e2
      subst e1' e2'
      obtain ⟨n1, hn1⟩ : ∃ x, lx.length = x := ⟨_, rfl⟩
      have hn2 : sx.length = n1 := by omega
      rw [hn1] at hk hk9 hyw
      rw [hn2] at hyw
      have YW := hide hyw.drew
      obtain ⟨wo, hwo⟩ : ∃ x, x = wr := ⟨_, rfl⟩
      subst hwo
      obtain ⟨nv, hnv⟩ : ∃ v, codeV ry 2 = v := ⟨_, rfl⟩
      have hnb := codeV_bd ry 2 (by omega)
      have NX := hide (fun W (hW : Cd W gC ry 0) => show Calls Try.prog 10 #[.pointer (some ⟨gC, 0, none⟩), .int .i64 2] W fun e w' => e = .returned (.int .i64 nv) ∧ Cd w' gC ry.tail 0 ∧ W.grownBy w' (some gC) by
        have := codeNext W gC ry 0 2 hW (by omega) (by omega)
        rwa [hnv] at this)
      rw [hnv] at hnb
      have hw1 : IntKind.i64.wrap (8 + nv) = 8 + nv := IntWalk.i64_in _ (by omega)
      obtain ⟨bb, hbb⟩ : ∃ b, decide ((n1 : Int) < 8 + nv) = b := ⟨_, rfl⟩
      clear hnv hyw hYW hsl2
      go_upto_region 20 with fail
      refine wp_region_L (fun W => W.cell? ⟨gY, 0, none⟩ = some (.slice B1 n1 D1) ∧ W.cell? ⟨gY, 1, none⟩ = some (.slice B2 n1 D2)) 6 (by kernel_rfl) ?_
      generalize wo.drew = xd at *
      refine wpAnyL_any (i := 0) (oi := ⟨some 79, _, _, _, _, _⟩) (v := ?vvr20_0_1) rfl (by kernel_rfl) (by kernel_rfl) (by kernel_rfl) (by kernel_rfl) (fun _ _ _ h => h) (fun _ => YW.out.T) (by rfl) ?hhr20_0_1 ?rrr20_0_1
      case hhr20_0_1 => (intro W; go_simp; try with_reducible rfl)
      (try simp only [Act.put, List.setIfInBounds_toArray, List.set_cons_zero, List.set_cons_succ])
      refine wpAnyL_take (i := 1) (oi := ⟨some 80, _, _, _, _, _⟩) [2, 6] (v := ?vvr20_1_2) rfl (by kernel_rfl) (by kernel_rfl) (by kernel_rfl) (by kernel_rfl) (fun _ _ _ h => h) YW.out.T (by rfl) ?hhr20_1_2 ?rrr20_1_2
      case hhr20_1_2 => (intro W hW; obtain ⟨d0, d1⟩ := hW; go_simp; try with_reducible rfl)
      (try simp only [Act.put, List.setIfInBounds_toArray, List.set_cons_zero, List.set_cons_succ])
      refine wpAnyL_any (i := 2) (oi := ⟨some 81, _, _, _, _, _⟩) (v := ?vvr20_2_3) rfl (by kernel_rfl) (by kernel_rfl) (by kernel_rfl) (by kernel_rfl) (fun _ _ _ h => h) (fun _ => YW.out.T) (by rfl) ?hhr20_2_3 ?rrr20_2_3
      case hhr20_2_3 => (intro W; go_simp; try with_reducible rfl)
      (try simp only [Act.put, List.setIfInBounds_toArray, List.set_cons_zero, List.set_cons_succ])
      refine wpAnyL_any (i := 3) (oi := ⟨some 82, _, _, _, _, _⟩) (v := ?vvr20_3_4) rfl (by kernel_rfl) (by kernel_rfl) (by kernel_rfl) (by kernel_rfl) (fun _ _ _ h => h) (fun _ => YW.out.T) (by rfl) ?hhr20_3_4 ?rrr20_3_4
      case hhr20_3_4 => (intro W; go_simp; try with_reducible rfl)
      (try simp only [Act.put, List.setIfInBounds_toArray, List.set_cons_zero, List.set_cons_succ])
      refine wpAnyL_one (i := 4) (oi := ⟨some 83, _, _, _, _, _⟩) rfl (by kernel_rfl) (fun K hK => ?_)
      refine step_call _ (by rfl) 10 _ (by go_simp) (NX.out _ YW.out.cd) ?_
      rintro e w7 ⟨rfl, hcd, hg⟩
      refine ⟨_, rfl, ?_⟩
      replace YW := hide (YW.out.next hg hcd)
      clear hcd hg
      refine hK.out _ _ (fun _ => YW.out.T) ?_
      clear hK K
      (try simp only [Act.put, List.setIfInBounds_toArray, List.set_cons_zero, List.set_cons_succ])
      refine wpAnyL_any (i := 5) (oi := ⟨some 84, _, _, _, _, _⟩) (v := ?vvr20_5_5) rfl (by kernel_rfl) (by kernel_rfl) (by kernel_rfl) (by kernel_rfl) (fun _ _ _ h => h) (fun _ => YW.out.T) (by rfl) ?hhr20_5_5 ?rrr20_5_5
      case hhr20_5_5 => (intro W; go_simp; try with_reducible rfl)
      (try simp only [Act.put, List.setIfInBounds_toArray, List.set_cons_zero, List.set_cons_succ])
      refine wpAnyL_one (i := 6) (oi := ⟨some 85, _, _, _, _, _⟩) rfl (by kernel_rfl) (fun K hK => ?_)
      go_simp
      refine hK.out _ _ (fun h => by first | cases h | simp at h) ?_
      clear hK K
      (try simp only [Act.put, List.setIfInBounds_toArray, List.set_cons_zero, List.set_cons_succ])
      refine wpAnyL_done (by kernel_rfl) ?_ _
      cases bb
      · have hlt2 : ¬ ((n1 : Int) < 8 + nv) := of_decide_eq_false hbb
        go_wp2
        go_meet
        case rel => exact YW.out.fin (by omega) (by omega)
      · have hlt2 : (n1 : Int) < 8 + nv := of_decide_eq_true hbb
        replace YW := hide YW.out.drew
        go_upto_region 21 with fail
        refine wp_region_L (fun W => W.cell? ⟨gY, 0, none⟩ = some (.slice B1 n1 D1) ∧ W.cell? ⟨gY, 1, none⟩ = some (.slice B2 n1 D2)) 9 (by kernel_rfl) ?_
        generalize w7.drew = xe at *
        refine wpAnyL_any (i := 0) (oi := ⟨some 86, _, _, _, _, _⟩) (v := ?vvr21_0_1) rfl (by kernel_rfl) (by kernel_rfl) (by kernel_rfl) (by kernel_rfl) (fun _ _ _ h => h) (fun _ => YW.out.T) (by rfl) ?hhr21_0_1 ?rrr21_0_1
        case hhr21_0_1 => (intro W; go_simp; try with_reducible rfl)
        (try simp only [Act.put, List.setIfInBounds_toArray, List.set_cons_zero, List.set_cons_succ])
        refine wpAnyL_take (i := 1) (oi := ⟨some 87, _, _, _, _, _⟩) [3, 7, 8, 9, 10, 11] (v := ?vvr21_1_2) rfl (by kernel_rfl) (by kernel_rfl) (by kernel_rfl) (by kernel_rfl) (fun _ _ _ h => h) YW.out.T (by rfl) ?hhr21_1_2 ?rrr21_1_2
        case hhr21_1_2 => (intro W hW; obtain ⟨d0, d1⟩ := hW; go_simp; try with_reducible rfl)
        (try simp only [Act.put, List.setIfInBounds_toArray, List.set_cons_zero, List.set_cons_succ])
        refine wpAnyL_any (i := 4) (oi := ⟨some 90, _, _, _, _, _⟩) (v := ?vvr21_4_3) rfl (by kernel_rfl) (by kernel_rfl) (by kernel_rfl) (by kernel_rfl) (fun _ _ _ h => h) (fun _ => YW.out.T) (by rfl) ?hhr21_4_3 ?rrr21_4_3
        case hhr21_4_3 => (intro W; go_simp; try with_reducible rfl)
        (try simp only [Act.put, List.setIfInBounds_toArray, List.set_cons_zero, List.set_cons_succ])
        refine wpAnyL_take (i := 5) (oi := ⟨some 91, _, _, _, _, _⟩) [7, 8, 9, 10, 11] (v := ?vvr21_5_4) rfl (by kernel_rfl) (by kernel_rfl) (by kernel_rfl) (by kernel_rfl) (fun _ _ _ h => h) YW.out.T (by rfl) ?hhr21_5_4 ?rrr21_5_4
        case hhr21_5_4 => (intro W hW; obtain ⟨d0, d1⟩ := hW; go_simp; try with_reducible rfl)
        (try simp only [Act.put, List.setIfInBounds_toArray, List.set_cons_zero, List.set_cons_succ])
        refine wpAnyL_some 2 [6] (by kernel_rfl) ?_
        refine wpAnyLs_cons (oi := ⟨some 88, _, _, _, _, _⟩) rfl (fun K hK => ?_) ?_
        · go_simp
          have K1 := hide (Bk.new xe 3 #[.int .i64 1])
          have hg1 : base ≤ (xe).heap.size := YW.out.hb
          replace YW := hide (YW.out.below (below_new (xe) (.cells #[.int .i64 1] 3)))
          generalize (World.alloc xe (.cells #[.int .i64 1] 3)) = W2 at *
          generalize (xe).heap.size = g1 at *
          refine hK.out _ _ (fun _ => YW.out.T) ?_
          clear hK K
          (try simp only [Act.put, List.setIfInBounds_toArray, List.set_cons_zero, List.set_cons_succ])
          refine wpAnyL_some 3 [6] (by kernel_rfl) ?_
          refine wpAnyLs_cons (oi := ⟨some 89, _, _, _, _, _⟩) rfl (fun K hK => ?_) ?_
          · refine step_push3 W2 (by rfl) (.tmp 87) (.tmp 88) _ (by rfl) base 3 i0 _ 1 8 Try.underlying22 hi hz0 hz1 hz2 (by rfl) (by decide) _ _ _ (by rfl) (YW.out.rws.at_ 0 (Nat.succ_pos _)) [.int .i64 1] ⟨g1, 0, none⟩ (by rfl) (cells_bk K1.out) (by rfl) (by simp [Value.oneCell']) (by show List.length _ ≤ _; omega) (by omega) YW.out.hb ?_
            intro v6 W2_3 hown hg hv
            replace YW := hide (YW.out.push1 hown hg hv)
            replace hown : World.ownsRow W2_3 base 3 1 v6 (n1 + 1) (List.map (Value.int .i64) lx ++ [.int .i64 1]) := by rw [← hn1]; exact hown
            obtain ⟨A6_1, C6_1, rfl, -⟩ := own_form hown
            clear hown hg hv K1
            refine hK.out _ _ (fun _ => YW.out.T) ?_
            clear hK K
            (try simp only [Act.put, List.setIfInBounds_toArray, List.set_cons_zero, List.set_cons_succ])
            refine wpAnyL_any (i := 8) (oi := ⟨some 94, _, _, _, _, _⟩) (v := ?vvr21_8_5) rfl (by kernel_rfl) (by kernel_rfl) (by kernel_rfl) (by kernel_rfl) (fun _ _ _ h => h) (fun _ => YW.out.T) (by rfl) ?hhr21_8_5 ?rrr21_8_5
            case hhr21_8_5 => (intro W; go_simp; try with_reducible rfl)
            (try simp only [Act.put, List.setIfInBounds_toArray, List.set_cons_zero, List.set_cons_succ])
            refine wpAnyL_one (i := 6) (oi := ⟨some 92, _, _, _, _, _⟩) rfl (by kernel_rfl) (fun K hK => ?_)
            go_simp
            have K2 := hide (Bk.new W2_3 33 #[.int .u64 1])
            have hg2 : base ≤ (W2_3).heap.size := YW.out.hb
            replace YW := hide (YW.out.below (below_new (W2_3) (.cells #[.int .u64 1] 33)))
            generalize (World.alloc W2_3 (.cells #[.int .u64 1] 33)) = W2_3_6 at *
            generalize (W2_3).heap.size = g2 at *
            refine hK.out _ _ (fun _ => YW.out.T) ?_
            clear hK K
            (try simp only [Act.put, List.setIfInBounds_toArray, List.set_cons_zero, List.set_cons_succ])
            refine wpAnyL_one (i := 7) (oi := ⟨some 93, _, _, _, _, _⟩) rfl (by kernel_rfl) (fun K hK => ?_)
            refine step_push3 W2_3_6 (by rfl) (.tmp 91) (.tmp 92) _ (by rfl) base 33 j0 _ 1 8 Try.underlying23 hj hy0 hy1 hy2 (by rfl) (by decide) _ _ _ (by rfl) (YW.out.rws.at_ 1 (Nat.succ_lt_succ (Nat.succ_pos _))) [.int .u64 1] ⟨g2, 0, none⟩ (by rfl) (cells_bk K2.out) (by rfl) (by simp [Value.oneCell']) (by show List.length _ ≤ _; omega) (by omega) YW.out.hb ?_
            intro v6 W2_3_6_7 hown hg hv
            replace YW := hide (YW.out.push2 hown hg hv)
            replace hown : World.ownsRow W2_3_6_7 base 33 1 v6 (n1 + 1) (List.map (Value.int .u64) sx ++ [.int .u64 1]) := by rw [← hn2]; exact hown
            obtain ⟨A6_2, C6_2, rfl, -⟩ := own_form hown
            clear hown hg hv K2
            refine hK.out _ _ (fun _ => YW.out.T) ?_
            clear hK K
            (try simp only [Act.put, List.setIfInBounds_toArray, List.set_cons_zero, List.set_cons_succ])
            refine wpAnyL_one (i := 9) (oi := ⟨none, _, _, _, _, _⟩) rfl (by kernel_rfl) (fun K hK => ?_)
            obtain ⟨d0, d1, d2, dfz⟩ := bkm3V YW.out.y
            go_simp
            clear d0 d1 d2 dfz
            replace YW := hide (YW.out.set_ 0 (.slice A6_1 (n1 + 1) C6_1) rfl)
            generalize (World.setCell W2_3_6_7 ⟨gY, 0, none⟩ (.slice A6_1 (n1 + 1) C6_1)) = W2_3_6_7_9 at *
            refine hK.out _ _ (fun h => by first | cases h | simp at h) ?_
            clear hK K
            (try simp only [Act.put, List.setIfInBounds_toArray, List.set_cons_zero, List.set_cons_succ])
            refine wpAnyL_any (i := 10) (oi := ⟨some 95, _, _, _, _, _⟩) (v := ?vvr21_10_6) rfl (by kernel_rfl) (by kernel_rfl) (by kernel_rfl) (by kernel_rfl) (fun _ _ _ h => h) (fun h => by first | cases h | simp at h) (by rfl) ?hhr21_10_6 ?rrr21_10_6
            case hhr21_10_6 => (intro W; go_simp; try with_reducible rfl)
            (try simp only [Act.put, List.setIfInBounds_toArray, List.set_cons_zero, List.set_cons_succ])
            refine wpAnyL_one (i := 11) (oi := ⟨none, _, _, _, _, _⟩) rfl (by kernel_rfl) (fun K hK => ?_)
            obtain ⟨d0, d1, d2, dfz⟩ := bkm3V YW.out.y
            go_simp
            clear d0 d1 d2 dfz
            replace YW := hide (YW.out.set_ 1 (.slice A6_2 (n1 + 1) C6_2) rfl)
            generalize (World.setCell W2_3_6_7_9 ⟨gY, 1, none⟩ (.slice A6_2 (n1 + 1) C6_2)) = W2_3_6_7_9_11 at *
            refine hK.out _ _ (fun h => by first | cases h | simp at h) ?_
            clear hK K
            (try simp only [Act.put, List.setIfInBounds_toArray, List.set_cons_zero, List.set_cons_succ])
            refine wpAnyL_done (by kernel_rfl) ?_ _
            go_wp2
            go_roundg (gk - 1)
            case rel => exact ⟨_, _, lx ++ [1], sx ++ [1], _, by simp; omega, by simp; omega, by simp; omega, YW.out⟩
            case measure => omega
          refine wpAnyLs_cons (oi := ⟨some 92, _, _, _, _, _⟩) rfl (fun K hK => ?_) ?_
          · go_simp
            have K2 := hide (Bk.new W2 33 #[.int .u64 1])
            have hg2 : base ≤ (W2).heap.size := YW.out.hb
            replace K1 := hide (K1.out.alloc (.cells #[.int .u64 1] 33))
            replace YW := hide (YW.out.below (below_new (W2) (.cells #[.int .u64 1] 33)))
            generalize (World.alloc W2 (.cells #[.int .u64 1] 33)) = W2_6 at *
            generalize (W2).heap.size = g2 at *
            refine hK.out _ _ (fun _ => YW.out.T) ?_
            clear hK K
            (try simp only [Act.put, List.setIfInBounds_toArray, List.set_cons_zero, List.set_cons_succ])
            refine wpAnyL_one (i := 3) (oi := ⟨some 89, _, _, _, _, _⟩) rfl (by kernel_rfl) (fun K hK => ?_)
            refine step_push3 W2_6 (by rfl) (.tmp 87) (.tmp 88) _ (by rfl) base 3 i0 _ 1 8 Try.underlying22 hi hz0 hz1 hz2 (by rfl) (by decide) _ _ _ (by rfl) (YW.out.rws.at_ 0 (Nat.succ_pos _)) [.int .i64 1] ⟨g1, 0, none⟩ (by rfl) (cells_bk K1.out) (by rfl) (by simp [Value.oneCell']) (by show List.length _ ≤ _; omega) (by omega) YW.out.hb ?_
            intro v6 W2_3_6 hown hg hv
            replace K2 := hide (YW.out.el2 K2.out hg)
            replace YW := hide (YW.out.push1 hown hg hv)
            replace hown : World.ownsRow W2_3_6 base 3 1 v6 (n1 + 1) (List.map (Value.int .i64) lx ++ [.int .i64 1]) := by rw [← hn1]; exact hown
            obtain ⟨A6_1, C6_1, rfl, -⟩ := own_form hown
            clear hown hg hv K1
            refine hK.out _ _ (fun _ => YW.out.T) ?_
            clear hK K
            (try simp only [Act.put, List.setIfInBounds_toArray, List.set_cons_zero, List.set_cons_succ])
            refine wpAnyL_any (i := 8) (oi := ⟨some 94, _, _, _, _, _⟩) (v := ?vvr21_8_7) rfl (by kernel_rfl) (by kernel_rfl) (by kernel_rfl) (by kernel_rfl) (fun _ _ _ h => h) (fun _ => YW.out.T) (by rfl) ?hhr21_8_7 ?rrr21_8_7
            case hhr21_8_7 => (intro W; go_simp; try with_reducible rfl)
            (try simp only [Act.put, List.setIfInBounds_toArray, List.set_cons_zero, List.set_cons_succ])
            refine wpAnyL_one (i := 7) (oi := ⟨some 93, _, _, _, _, _⟩) rfl (by kernel_rfl) (fun K hK => ?_)
            refine step_push3 W2_3_6 (by rfl) (.tmp 91) (.tmp 92) _ (by rfl) base 33 j0 _ 1 8 Try.underlying23 hj hy0 hy1 hy2 (by rfl) (by decide) _ _ _ (by rfl) (YW.out.rws.at_ 1 (Nat.succ_lt_succ (Nat.succ_pos _))) [.int .u64 1] ⟨g2, 0, none⟩ (by rfl) (cells_bk K2.out) (by rfl) (by simp [Value.oneCell']) (by show List.length _ ≤ _; omega) (by omega) YW.out.hb ?_
            intro v6 W2_3_6_7 hown hg hv
            replace YW := hide (YW.out.push2 hown hg hv)
            replace hown : World.ownsRow W2_3_6_7 base 33 1 v6 (n1 + 1) (List.map (Value.int .u64) sx ++ [.int .u64 1]) := by rw [← hn2]; exact hown
            obtain ⟨A6_2, C6_2, rfl, -⟩ := own_form hown
            clear hown hg hv K2
            refine hK.out _ _ (fun _ => YW.out.T) ?_
            clear hK K
            (try simp only [Act.put, List.setIfInBounds_toArray, List.set_cons_zero, List.set_cons_succ])
            refine wpAnyL_one (i := 9) (oi := ⟨none, _, _, _, _, _⟩) rfl (by kernel_rfl) (fun K hK => ?_)
            obtain ⟨d0, d1, d2, dfz⟩ := bkm3V YW.out.y
            go_simp
            clear d0 d1 d2 dfz
            replace YW := hide (YW.out.set_ 0 (.slice A6_1 (n1 + 1) C6_1) rfl)
            generalize (World.setCell W2_3_6_7 ⟨gY, 0, none⟩ (.slice A6_1 (n1 + 1) C6_1)) = W2_3_6_7_9 at *
            refine hK.out _ _ (fun h => by first | cases h | simp at h) ?_
            clear hK K
            (try simp only [Act.put, List.setIfInBounds_toArray, List.set_cons_zero, List.set_cons_succ])
            refine wpAnyL_any (i := 10) (oi := ⟨some 95, _, _, _, _, _⟩) (v := ?vvr21_10_8) rfl (by kernel_rfl) (by kernel_rfl) (by kernel_rfl) (by kernel_rfl) (fun _ _ _ h => h) (fun h => by first | cases h | simp at h) (by rfl) ?hhr21_10_8 ?rrr21_10_8
            case hhr21_10_8 => (intro W; go_simp; try with_reducible rfl)
            (try simp only [Act.put, List.setIfInBounds_toArray, List.set_cons_zero, List.set_cons_succ])
            refine wpAnyL_one (i := 11) (oi := ⟨none, _, _, _, _, _⟩) rfl (by kernel_rfl) (fun K hK => ?_)
            obtain ⟨d0, d1, d2, dfz⟩ := bkm3V YW.out.y
            go_simp
            clear d0 d1 d2 dfz
            replace YW := hide (YW.out.set_ 1 (.slice A6_2 (n1 + 1) C6_2) rfl)
            generalize (World.setCell W2_3_6_7_9 ⟨gY, 1, none⟩ (.slice A6_2 (n1 + 1) C6_2)) = W2_3_6_7_9_11 at *
            refine hK.out _ _ (fun h => by first | cases h | simp at h) ?_
            clear hK K
            (try simp only [Act.put, List.setIfInBounds_toArray, List.set_cons_zero, List.set_cons_succ])
            refine wpAnyL_done (by kernel_rfl) ?_ _
            go_wp2
            go_roundg (gk - 1)
            case rel => exact ⟨_, _, lx ++ [1], sx ++ [1], _, by simp; omega, by simp; omega, by simp; omega, YW.out⟩
            case measure => omega
          exact wpAnyLs_nil
        refine wpAnyLs_cons (oi := ⟨some 92, _, _, _, _, _⟩) rfl (fun K hK => ?_) ?_
        · go_simp
          have K2 := hide (Bk.new xe 33 #[.int .u64 1])
          have hg2 : base ≤ (xe).heap.size := YW.out.hb
          replace YW := hide (YW.out.below (below_new (xe) (.cells #[.int .u64 1] 33)))
          generalize (World.alloc xe (.cells #[.int .u64 1] 33)) = W6 at *
          generalize (xe).heap.size = g2 at *
          refine hK.out _ _ (fun _ => YW.out.T) ?_
          clear hK K
          (try simp only [Act.put, List.setIfInBounds_toArray, List.set_cons_zero, List.set_cons_succ])
          refine wpAnyL_one (i := 2) (oi := ⟨some 88, _, _, _, _, _⟩) rfl (by kernel_rfl) (fun K hK => ?_)
          go_simp
          have K1 := hide (Bk.new W6 3 #[.int .i64 1])
          have hg1 : base ≤ (W6).heap.size := YW.out.hb
          replace K2 := hide (K2.out.alloc (.cells #[.int .i64 1] 3))
          replace YW := hide (YW.out.below (below_new (W6) (.cells #[.int .i64 1] 3)))
          generalize (World.alloc W6 (.cells #[.int .i64 1] 3)) = W2_6 at *
          generalize (W6).heap.size = g1 at *
          refine hK.out _ _ (fun _ => YW.out.T) ?_
          clear hK K
          (try simp only [Act.put, List.setIfInBounds_toArray, List.set_cons_zero, List.set_cons_succ])
          refine wpAnyL_one (i := 3) (oi := ⟨some 89, _, _, _, _, _⟩) rfl (by kernel_rfl) (fun K hK => ?_)
          refine step_push3 W2_6 (by rfl) (.tmp 87) (.tmp 88) _ (by rfl) base 3 i0 _ 1 8 Try.underlying22 hi hz0 hz1 hz2 (by rfl) (by decide) _ _ _ (by rfl) (YW.out.rws.at_ 0 (Nat.succ_pos _)) [.int .i64 1] ⟨g1, 0, none⟩ (by rfl) (cells_bk K1.out) (by rfl) (by simp [Value.oneCell']) (by show List.length _ ≤ _; omega) (by omega) YW.out.hb ?_
          intro v6 W2_3_6 hown hg hv
          replace K2 := hide (YW.out.el2 K2.out hg)
          replace YW := hide (YW.out.push1 hown hg hv)
          replace hown : World.ownsRow W2_3_6 base 3 1 v6 (n1 + 1) (List.map (Value.int .i64) lx ++ [.int .i64 1]) := by rw [← hn1]; exact hown
          obtain ⟨A6_1, C6_1, rfl, -⟩ := own_form hown
          clear hown hg hv K1
          refine hK.out _ _ (fun _ => YW.out.T) ?_
          clear hK K
          (try simp only [Act.put, List.setIfInBounds_toArray, List.set_cons_zero, List.set_cons_succ])
          refine wpAnyL_any (i := 8) (oi := ⟨some 94, _, _, _, _, _⟩) (v := ?vvr21_8_9) rfl (by kernel_rfl) (by kernel_rfl) (by kernel_rfl) (by kernel_rfl) (fun _ _ _ h => h) (fun _ => YW.out.T) (by rfl) ?hhr21_8_9 ?rrr21_8_9
          case hhr21_8_9 => (intro W; go_simp; try with_reducible rfl)
          (try simp only [Act.put, List.setIfInBounds_toArray, List.set_cons_zero, List.set_cons_succ])
          refine wpAnyL_one (i := 7) (oi := ⟨some 93, _, _, _, _, _⟩) rfl (by kernel_rfl) (fun K hK => ?_)
          refine step_push3 W2_3_6 (by rfl) (.tmp 91) (.tmp 92) _ (by rfl) base 33 j0 _ 1 8 Try.underlying23 hj hy0 hy1 hy2 (by rfl) (by decide) _ _ _ (by rfl) (YW.out.rws.at_ 1 (Nat.succ_lt_succ (Nat.succ_pos _))) [.int .u64 1] ⟨g2, 0, none⟩ (by rfl) (cells_bk K2.out) (by rfl) (by simp [Value.oneCell']) (by show List.length _ ≤ _; omega) (by omega) YW.out.hb ?_
          intro v6 W2_3_6_7 hown hg hv
          replace YW := hide (YW.out.push2 hown hg hv)
          replace hown : World.ownsRow W2_3_6_7 base 33 1 v6 (n1 + 1) (List.map (Value.int .u64) sx ++ [.int .u64 1]) := by rw [← hn2]; exact hown
          obtain ⟨A6_2, C6_2, rfl, -⟩ := own_form hown
          clear hown hg hv K2
          refine hK.out _ _ (fun _ => YW.out.T) ?_
          clear hK K
          (try simp only [Act.put, List.setIfInBounds_toArray, List.set_cons_zero, List.set_cons_succ])
          refine wpAnyL_one (i := 9) (oi := ⟨none, _, _, _, _, _⟩) rfl (by kernel_rfl) (fun K hK => ?_)
          obtain ⟨d0, d1, d2, dfz⟩ := bkm3V YW.out.y
          go_simp
          clear d0 d1 d2 dfz
          replace YW := hide (YW.out.set_ 0 (.slice A6_1 (n1 + 1) C6_1) rfl)
          generalize (World.setCell W2_3_6_7 ⟨gY, 0, none⟩ (.slice A6_1 (n1 + 1) C6_1)) = W2_3_6_7_9 at *
          refine hK.out _ _ (fun h => by first | cases h | simp at h) ?_
          clear hK K
          (try simp only [Act.put, List.setIfInBounds_toArray, List.set_cons_zero, List.set_cons_succ])
          refine wpAnyL_any (i := 10) (oi := ⟨some 95, _, _, _, _, _⟩) (v := ?vvr21_10_10) rfl (by kernel_rfl) (by kernel_rfl) (by kernel_rfl) (by kernel_rfl) (fun _ _ _ h => h) (fun h => by first | cases h | simp at h) (by rfl) ?hhr21_10_10 ?rrr21_10_10
          case hhr21_10_10 => (intro W; go_simp; try with_reducible rfl)
          (try simp only [Act.put, List.setIfInBounds_toArray, List.set_cons_zero, List.set_cons_succ])
          refine wpAnyL_one (i := 11) (oi := ⟨none, _, _, _, _, _⟩) rfl (by kernel_rfl) (fun K hK => ?_)
          obtain ⟨d0, d1, d2, dfz⟩ := bkm3V YW.out.y
          go_simp
          clear d0 d1 d2 dfz
          replace YW := hide (YW.out.set_ 1 (.slice A6_2 (n1 + 1) C6_2) rfl)
          generalize (World.setCell W2_3_6_7_9 ⟨gY, 1, none⟩ (.slice A6_2 (n1 + 1) C6_2)) = W2_3_6_7_9_11 at *
          refine hK.out _ _ (fun h => by first | cases h | simp at h) ?_
          clear hK K
          (try simp only [Act.put, List.setIfInBounds_toArray, List.set_cons_zero, List.set_cons_succ])
          refine wpAnyL_done (by kernel_rfl) ?_ _
          go_wp2
          go_roundg (gk - 1)
          case rel => exact ⟨_, _, lx ++ [1], sx ++ [1], _, by simp; omega, by simp; omega, by simp; omega, YW.out⟩
          case measure => omega
        exact wpAnyLs_nil

    by_cases hq5 : q = 5
    · subst hq5
      obtain ⟨B2, D2, e2, hnD, hDm, -⟩ := own_form (YW.out.rws.at_ 1 (Nat.succ_lt_succ (Nat.succ_pos _)))
      have e2' : Value.slice A5 xn C5 = .slice B2 s.length D2 := e2
      have hnD2 : s.length ≤ D2 := hnD
      obtain ⟨-, -, e3⟩ : A5 = B2 ∧ xn = s.length ∧ C5 = D2 := by injection e2' with x1 x2 x3; exact ⟨x1, x2, x3⟩
      have hnD' : xn ≤ C5 := by omega
      have hDm' : C5 ≤ 9223372036854775807 := by have : maxLen = 9223372036854775807 := rfl; omega
      clear e2' e3 hnD2
      clear e2 hnD hDm
      obtain ⟨nv, hnv⟩ : ∃ v, codeV r'.tail ((xn : Int) + 1) = v := ⟨_, rfl⟩
      have hnb := codeV_bd r'.tail ((xn : Int) + 1) (by omega)
      have NX := hide (fun W (hW : Cd W gC r'.tail 0) => show Calls Try.prog 10 #[.pointer (some ⟨gC, 0, none⟩), .int .i64 ((xn : Int) + 1)] W fun e w' => e = .returned (.int .i64 nv) ∧ Cd w' gC r'.tail.tail 0 ∧ W.grownBy w' (some gC) by
        have := codeNext W gC r'.tail 0 ((xn : Int) + 1) hW (by omega) (by omega)
        rwa [hnv] at this)
      rw [hnv] at hnb
      obtain ⟨nk, rfl⟩ := Int.eq_ofNat_of_zero_le hnb.1
      have hnk : nk ≤ xn := by omega
      have hw1 : IntKind.i64.wrap ((xn : Int) + 1) = (xn : Int) + 1 := IntWalk.i64_in _ (by omega)
      have hnc : nk ≤ C5 := by omega
      clear hnv hnb
      replace YW := hide YW.out.drew
      go_upto_region 23 with fail
      refine wp_region_L (fun W => W.cell? ⟨gY, 0, none⟩ = some (.slice A4 xn C4) ∧ W.cell? ⟨gY, 1, none⟩ = some (.slice A5 xn C5)) 10 (by kernel_rfl) ?_
      generalize x0.drew = xd at *
      refine wpAnyL_any (i := 0) (oi := ⟨some 98, _, _, _, _, _⟩) (v := ?vvr23_0_1) rfl (by kernel_rfl) (by kernel_rfl) (by kernel_rfl) (by kernel_rfl) (fun _ _ _ h => h) (fun _ => YW.out.T) (by rfl) ?hhr23_0_1 ?rrr23_0_1
      case hhr23_0_1 => (intro W; go_simp; try with_reducible rfl)
      (try simp only [Act.put, List.setIfInBounds_toArray, List.set_cons_zero, List.set_cons_succ])
      refine wpAnyL_take (i := 1) (oi := ⟨some 99, _, _, _, _, _⟩) [8, 9, 10] (v := ?vvr23_1_2) rfl (by kernel_rfl) (by kernel_rfl) (by kernel_rfl) (by kernel_rfl) (fun _ _ _ h => h) YW.out.T (by rfl) ?hhr23_1_2 ?rrr23_1_2
      case hhr23_1_2 => (intro W hW; obtain ⟨d0, d1⟩ := hW; go_simp; try with_reducible rfl)
      (try simp only [Act.put, List.setIfInBounds_toArray, List.set_cons_zero, List.set_cons_succ])
      refine wpAnyL_any (i := 2) (oi := ⟨some 100, _, _, _, _, _⟩) (v := ?vvr23_2_3) rfl (by kernel_rfl) (by kernel_rfl) (by kernel_rfl) (by kernel_rfl) (fun _ _ _ h => h) (fun _ => YW.out.T) (by rfl) ?hhr23_2_3 ?rrr23_2_3
      case hhr23_2_3 => (intro W; go_simp; try with_reducible rfl)
      (try simp only [Act.put, List.setIfInBounds_toArray, List.set_cons_zero, List.set_cons_succ])
      refine wpAnyL_any (i := 3) (oi := ⟨some 101, _, _, _, _, _⟩) (v := ?vvr23_3_4) rfl (by kernel_rfl) (by kernel_rfl) (by kernel_rfl) (by kernel_rfl) (fun _ _ _ h => h) (fun _ => YW.out.T) (by rfl) ?hhr23_3_4 ?rrr23_3_4
      case hhr23_3_4 => (intro W; go_simp; try with_reducible rfl)
      (try simp only [Act.put, List.setIfInBounds_toArray, List.set_cons_zero, List.set_cons_succ])
      refine wpAnyL_take (i := 4) (oi := ⟨some 102, _, _, _, _, _⟩) [5, 6, 7, 8, 9, 10] (v := ?vvr23_4_5) rfl (by kernel_rfl) (by kernel_rfl) (by kernel_rfl) (by kernel_rfl) (fun _ _ _ h => h) YW.out.T (by rfl) ?hhr23_4_5 ?rrr23_4_5
      case hhr23_4_5 => (intro W hW; obtain ⟨d0, d1⟩ := hW; go_simp; try with_reducible rfl)
      (try simp only [Act.put, List.setIfInBounds_toArray, List.set_cons_zero, List.set_cons_succ])
      refine wpAnyL_any (i := 5) (oi := ⟨some 103, _, _, _, _, _⟩) (v := ?vvr23_5_6) rfl (by kernel_rfl) (by kernel_rfl) (by kernel_rfl) (by kernel_rfl) (fun _ _ _ h => h) (fun _ => YW.out.T) (by rfl) ?hhr23_5_6 ?rrr23_5_6
      case hhr23_5_6 => (intro W; go_simp; try with_reducible rfl)
      (try simp only [Act.put, List.setIfInBounds_toArray, List.set_cons_zero, List.set_cons_succ])
      refine wpAnyL_any (i := 6) (oi := ⟨some 104, _, _, _, _, _⟩) (v := ?vvr23_6_7) rfl (by kernel_rfl) (by kernel_rfl) (by kernel_rfl) (by kernel_rfl) (fun _ _ _ h => h) (fun _ => YW.out.T) (by rfl) ?hhr23_6_7 ?rrr23_6_7
      case hhr23_6_7 => (intro W; go_simp; try with_reducible rfl)
      (try simp only [Act.put, List.setIfInBounds_toArray, List.set_cons_zero, List.set_cons_succ])
      refine wpAnyL_one (i := 7) (oi := ⟨some 105, _, _, _, _, _⟩) rfl (by kernel_rfl) (fun K hK => ?_)
      refine step_call _ (by rfl) 10 _ (by go_simp) (NX.out _ YW.out.cd) ?_
      rintro e w7 ⟨rfl, hcd, hg⟩
      refine ⟨_, rfl, ?_⟩
      replace YW := hide (YW.out.next hg hcd)
      clear hcd hg
      refine hK.out _ _ (fun _ => YW.out.T) ?_
      clear hK K
      (try simp only [Act.put, List.setIfInBounds_toArray, List.set_cons_zero, List.set_cons_succ])
      refine wpAnyL_one (i := 8) (oi := ⟨some 106, _, _, _, _, _⟩) rfl (by kernel_rfl) (fun K hK => ?_)
      go_simp
      refine hK.out _ _ (fun _ => YW.out.T) ?_
      clear hK K
      (try simp only [Act.put, List.setIfInBounds_toArray, List.set_cons_zero, List.set_cons_succ])
      refine wpAnyL_any (i := 9) (oi := ⟨some 107, _, _, _, _, _⟩) (v := ?vvr23_9_8) rfl (by kernel_rfl) (by kernel_rfl) (by kernel_rfl) (by kernel_rfl) (fun _ _ _ h => h) (fun _ => YW.out.T) (by rfl) ?hhr23_9_8 ?rrr23_9_8
      case hhr23_9_8 => (intro W; go_simp; try with_reducible rfl)
      (try simp only [Act.put, List.setIfInBounds_toArray, List.set_cons_zero, List.set_cons_succ])
      refine wpAnyL_one (i := 10) (oi := ⟨none, _, _, _, _, _⟩) rfl (by kernel_rfl) (fun K hK => ?_)
      obtain ⟨d0, d1, d2, dfz⟩ := bkm3V YW.out.y
      go_simp
      clear d0 d1 d2 dfz
      replace YW := hide (YW.out.set_ 1 (.slice A5 nk C5) rfl)
      generalize (World.setCell w7 ⟨gY, 1, none⟩ (.slice A5 nk C5)) = w8 at *
      refine hK.out _ _ (fun h => by first | cases h | simp at h) ?_
      clear hK K
      (try simp only [Act.put, List.setIfInBounds_toArray, List.set_cons_zero, List.set_cons_succ])
      refine wpAnyL_done (by kernel_rfl) ?_ _
      go_wp2
      go_meet
      case rel => exact YW.out.fin2 (by omega) (by omega) hnk
    omega
  case rest =>
    obtain ⟨hx, A', n', c', B', m', d', l', s', t', hy, iy, jy, hn', hm'⟩ := hcut
    rw [hX] at hx
    obtain ⟨hxv, hraw⟩ := hx
    clear hX YW
    have T0 := check_any wc XA xn XC l XB xn XD s tx hxv.ia hxv.ib (by omega) (by omega)
    rw [HCK.out] at T0
    have TT := hide T0
    obtain ⟨c0, c1, c2, cfz⟩ := bkm3V hxv.bx
    have HY := hide hy
    have HR := hide hraw
    have IY := hide iy
    have JY := hide jy
    have BW := hide hxv.bw
    clear T0 hy hraw iy jy hxv
    go_wp2_with fail
    refine TT.out.mono ?_
    rintro e y6 ⟨rfl, hb6⟩
    have BW6 := hide (BW.out.trans (hb6.mono BW.out.size))
    have HY6 := hide (HY.out.below hb6 HY.out.lt)
    have HR6 := hide (HR.out.below hb6 HR.out.lt)
    have IY6 := hide (IY.out.below hb6)
    have JY6 := hide (JY.out.below hb6)
    have IA6 := hide (HA.out.below BW6.out)
    have IB6 := hide (HBB.out.below BW6.out)
    clear hb6 BW HY HR IY JY HA HBB TT c0 c1 c2 cfz
    have Q1 := hide (fun (u : Up y6) => check_any u.1 A' n' c' l' B' m' d' s' t' (IY6.out.below u.2) (JY6.out.below u.2) (by omega) (by omega))
    have Q2 := hide (fun (u : Up y6) => rcheck_any u.1 A' n' c' l' B' m' d' s' t' (IY6.out.below u.2) (JY6.out.below u.2) (by omega) (by omega))
    have Q3 := hide (fun (u : Up y6) => check_any u.1 A n c la B m d lb t (IA6.out.below u.2) (IB6.out.below u.2) (by omega) (by omega))
    have Q4 := hide (fun (u : Up y6) => rcheck_any u.1 A n c la B m d lb t (IA6.out.below u.2) (IB6.out.below u.2) (by omega) (by omega))
    obtain ⟨vy, hvy⟩ : ∃ v, chk l' s' t' = v := ⟨_, rfl⟩
    obtain ⟨vr, hvr⟩ : ∃ v, chk la lb t = v := ⟨_, rfl⟩
    rw [hvy] at Q1 Q2
    rw [hvr] at Q3 Q4
    have e1 : (vy == vy) = true := by simp
    have e2 : (vr == vr) = true := by simp
    clear hvy hvr IA6 IB6 IY6 JY6
    go_upto_region 26 with fail
    have y0 := fun u => up_cell (HY6.out.cell 0) u
    have y1 := fun u => up_cell (HY6.out.cell 1) u
    have y2 := fun u => up_cell (HY6.out.cell 2) u
    have r0 := fun u => up_cell (HR6.out.cell 0) u
    have r1 := fun u => up_cell (HR6.out.cell 1) u
    have r2 := fun u => up_cell (HR6.out.cell 2) u
    refine wp_region_up (by kernel_rfl) (by kernel_rfl) ?_
    repeat (go_big_quiet_step (first
      | (go_at_call 12; with_reducible exact up_call (Q1.out _))
      | (go_at_call 12; with_reducible exact up_call (Q3.out _))
      | (go_at_call 13; with_reducible exact up_call (Q2.out _))
      | (go_at_call 13; with_reducible exact up_call (Q4.out _))))
    refine wpQuiet_nil ?_
    rintro _ ⟨u, rfl⟩
    clear y0 y1 y2 r0 r1 r2
    go_wp2
    go_ret
    exact ⟨rfl, BW6.out.trans (u.2.mono BW6.out.size)⟩
end Go.Proofs.Ytcaencocmfkfaaa
