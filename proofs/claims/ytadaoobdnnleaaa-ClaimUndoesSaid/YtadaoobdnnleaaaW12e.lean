/- The walk of ClaimUndoes. -/
import Derived.Test.YtadaoobdnnleaaaW12a
import Derived.Test.YtadaoobdnnleaaaY12
namespace Go.Proofs.Ytadaoobdnnleaaa
open Go.RowKit
set_option linter.unusedVariables false
theorem un_round {p j i : Nat} {s : St} (H : Un p j s) (hi : i = 3 * j) {s1 : St} (h1 : s1 = { s with ms := ((s.ms ++ [mc0 7 0 0 0]) ++ [mc0 10 0 0 0]) ++ [mc0 8 0 0 0] }) :
    ((stp s1 i).ws.getD p 0 = 2 ∧ (stp s1 i).ms.length = i + 3) ∧ Un p (j + 1) (stp (stp (stp s1 i) (i + 1)) (i + 2)) ∧
    (stp (stp (stp s1 i) (i + 1)) (i + 2)).ms[i]? = some (mend (mc0 7 0 0 0) 7 0) ∧ (stp (stp (stp s1 i) (i + 1)) (i + 2)).ms[i + 1]? = some (mend (mc0 10 0 0 0) 8 0) := by
  have hl : s.ms.length = i := by rw [hi]; exact H.len
  have hms : s1.ms = s.ms ++ [mc0 7 0 0 0, mc0 10 0 0 0, mc0 8 0 0 0] := by rw [h1]; simp
  have hll : s1.l = [1] := by rw [h1]; exact H.l_
  have hws : s1.ws = s.ws := by rw [h1]
  have g0 : s1.ms[i]? = some (mc0 7 0 0 0) := by rw [hms, List.getElem?_append_right (by omega), hl]; simp
  have g1 : s1.ms[i + 1]? = some (mc0 10 0 0 0) := by rw [hms, List.getElem?_append_right (by omega), hl, show i + 1 - i = 1 by omega]; rfl
  have g2 : s1.ms[i + 2]? = some (mc0 8 0 0 0) := by rw [hms, List.getElem?_append_right (by omega), hl, show i + 2 - i = 2 by omega]; rfl
  have gl : s1.ms.length = i + 3 := by rw [hms]; simp [hl]
  have wl := H.wl
  have e1 := un_won hll H.cl_ (by rw [hws]; exact wl) (by rw [hws]; exact H.w1) (Or.inl rfl) g0
  generalize hs2 : stp s1 i = s2 at *
  have l2 : s2.l = [1] := by rw [e1]; exact hll
  have w2 : s2.ws = s.ws.set p 2 := by rw [e1]; show s1.ws.set p _ = _; rw [hws]; rfl
  have m2 : s2.ms = s1.ms.set i (mend (mc0 7 0 0 0) 7 0) := by rw [e1]
  have w2p : s2.ws.getD p 0 = 2 := by rw [w2]; exact getD_set_self wl _
  have e2 := un_lost (i := i + 1) l2 H.cl_ (by rw [w2]; simpa using wl) w2p (by rw [m2, List.getElem?_set_ne (by omega)]; exact g1)
  generalize hs3 : stp s2 (i + 1) = s3 at *
  have l3 : s3.l = [1] := by rw [e2]; exact l2
  have w3 : s3.ws = s.ws.set p 2 := by rw [e2]; exact w2
  have m3 : s3.ms = s2.ms.set (i + 1) (mend (mc0 10 0 0 0) 8 0) := by rw [e2]
  have e3 := un_back (i := i + 2) l3 H.cl_ (by rw [w3]; simpa using wl) (by rw [m3, List.getElem?_set_ne (by omega), m2, List.getElem?_set_ne (by omega)]; exact g2)
  have w4 : (stp s3 (i + 2)).ws = (s.ws.set p 2).set p 1 := by rw [e3]; show s3.ws.set p 1 = _; rw [w3]
  have m4 : (stp s3 (i + 2)).ms = s3.ms.set (i + 2) (mend (mc0 8 0 0 0) 1 0) := by rw [e3]
  have l4 : (stp s3 (i + 2)).l = [1] := by rw [e3]; exact l3
  refine ⟨⟨w2p, by rw [m2]; simp [gl]⟩, ⟨l4, by rw [w4]; simpa using wl, by rw [w4]; exact getD_set_self (by simpa using wl) _, by rw [m4, m3, m2]; simp [gl]; omega, H.cl_⟩, ?_, ?_⟩
  · rw [m4, List.getElem?_set_ne (by omega), m3, List.getElem?_set_ne (by omega), m2, List.getElem?_set_self (by omega)]
  · rw [m4, List.getElem?_set_ne (by omega), m3, List.getElem?_set_self (by rw [m2]; simp [gl])]
theorem un_last {p j i : Nat} {s : St} (H : Un p j s) (hi : i = 3 * j) {s1 : St} (h1 : s1 = { s with ms := s.ms ++ [mc0 10 0 0 0] }) :
    (stp s1 i).ws.getD p 0 = 4 ∧ (stp s1 i).ms[i]? = some (mend (mc0 10 0 0 0) 7 0) ∧ (stp s1 i).ms.length = i + 1 := by
  have hl : s.ms.length = i := by rw [hi]; exact H.len
  have hms : s1.ms = s.ms ++ [mc0 10 0 0 0] := by rw [h1]
  have hll : s1.l = [1] := by rw [h1]; exact H.l_
  have hws : s1.ws = s.ws := by rw [h1]
  have g0 : s1.ms[i]? = some (mc0 10 0 0 0) := by rw [hms, List.getElem?_append_right (by omega), hl]; simp
  have e1 := un_won hll H.cl_ (by rw [hws]; exact H.wl) (by rw [hws]; exact H.w1) (Or.inr rfl) g0
  refine ⟨?_, ?_, by rw [stp_len, hms]; simp [hl]⟩
  · rw [e1]
    show (s1.ws.set p _).getD p 0 = 4
    rw [getD_set_self (by rw [hws]; exact H.wl)]
    rfl
  · rw [e1]
    show (s1.ms.set i _)[i]? = _
    rw [List.getElem?_set_self (by rw [hms]; simp; omega)]
/-- A word, read out of the world. -/
theorem WI.word {own : Nat → Prop} {Rp : List Int → Mc → Fa → Prop} {w : World} {base G : Nat} {TW : TypeId} {s : St} (H : WI own Rp w base G TW s) {p : Nat} (hp : p < s.ws.length) :
    ∃ ad mn mc, w.cell? ⟨G, 3, none⟩ = some (.slice (some ad) mn mc) ∧ w.cell? (ad.add p) = some (.int .u64 (s.ws.getD p 0)) ∧ p < mn ∧ G < w.heap.size ∧ mn ≤ 1000000 := by
  obtain ⟨MA, mn, mc, k3, hI, hm⟩ := H.words
  obtain ⟨ad, rfl, -, hc⟩ := hI.at_ (show p < mn by rw [← hI.len]; exact hp)
  exact ⟨ad, mn, mc, k3, hc, by rw [← hI.len]; exact hp, H.lt.2, hm⟩
set_option maxHeartbeats 4000000 in
set_option maxRecDepth 100000 in
theorem claimUndoes_walk (a0 : Int) (w : World) (w0 : (Lit.int .u8 a0).wf = true) :
    Calls Try.prog 10 #[.int .u8 a0] w fun e w' => e = .returned (.bool true) ∧ Below w.heap.size w w' := by
  have hb0 := bounds_u8 w0
  obtain ⟨q, hq⟩ : ∃ q : Nat, a0 % 5 = q := Int.eq_ofNat_of_zero_le (Int.emod_nonneg _ (by omega))
  obtain ⟨K, hK⟩ : ∃ K : Nat, K = 1 + q := ⟨_, rfl⟩
  obtain ⟨K3, hK3⟩ : ∃ K3 : Nat, K3 = 3 * K := ⟨_, rfl⟩
  have hKb : K ≤ 5 := by omega
  have hKb1 : 1 ≤ K := by omega
  have E0 := hide (show a0.tmod 5 = (q : Int) by rw [Int.tmod_eq_emod_of_nonneg hb0.1, hq])
  have E1 := hide (show IntKind.i64.wrap (q : Int) = (q : Int) from IntWalk.i64_in _ ⟨by omega, by omega⟩)
  have E2 := hide (show IntKind.i64.wrap (1 + (q : Int)) = (K : Int) by rw [show 1 + (q : Int) = (K : Int) by omega]; exact IntWalk.i64_in _ ⟨by omega, by omega⟩)
  have E3 := hide (show IntKind.i64.wrap (3 * (K : Int)) = (K3 : Int) by rw [show 3 * (K : Int) = (K3 : Int) by omega]; exact IntWalk.i64_in _ ⟨by omega, by omega⟩)
  have E4 := hide (show IntKind.u8.wrap (q : Int) = (q : Int) by simp [IntKind.wrap, IntKind.bits, IntKind.signed]; omega)
  have HK3 := hide hK3
  have hK3b : K3 ≤ 15 := by omega
  obtain ⟨p, hp⟩ : ∃ p : Nat, p = 9 := ⟨_, rfl⟩
  have HP := hide hp
  have hpl : p < 31 := by omega
  clear w0 hq hK hK3 hp
  go_enter Try.func10, Try.ntmps10
  go_wp2_with fail
  refine (awake12_any _).mono ?_
  rintro e y1 ⟨rfl, hb1⟩
  have hs1 := hb1.size
  have BW2 := hide hb1
  clear hb1
  go_wp2_with fail
  refine (one12_ty y1).mono ?_
  rintro e y3 ⟨A, B, rfl, hcf, hty, hsi, hb3⟩
  have BW3 := hide (BW2.out.trans (hb3.mono BW2.out.size))
  have CF := hide hcf
  have TY := hide hty
  have SI := hide hsi
  clear hcf hty hsi hb3 BW2
  go_wp2_with fail
  refine (begin_one y3 A B CF.out SI.out).mono ?_
  rintro e y4 ⟨gW, gL, rfl, hk, hgw, hb4⟩
  have hgW : w.heap.size ≤ gW := Nat.le_trans BW3.out.size hgw
  have BW4 := hide (BW3.out.trans (hb4.mono BW3.out.size))
  have CF4 := hide (CF.out.below hb4)
  have TY4 := hide (TY.out.below hb4)
  have HK := hide hk
  have hgG : gW < y4.heap.size := hk.lt
  clear hk hb4 BW3 CF TY SI hgw
  go_upto_region 4 with fail
  have KG := hide (Bk.new y4 70 #[.slice A 1 1, .slice B 1 1, .int .i64 2, .slice (some ⟨gW, 0, none⟩) 31 31, .slice (some ⟨gL, 0, none⟩) 2 2, .int .i64 0, .slice none 0 0, .slice none 0 0, .slice none 0 0, .slice none 0 0])
  have HB5 := hide (below_new y4 (.cells #[.slice A 1 1, .slice B 1 1, .int .i64 2, .slice (some ⟨gW, 0, none⟩) 31 31, .slice (some ⟨gL, 0, none⟩) 2 2, .int .i64 0, .slice none 0 0, .slice none 0 0, .slice none 0 0, .slice none 0 0] 70))
  have hwG : w.heap.size ≤ y4.heap.size := BW4.out.size
  have CF5 := hide (CF4.out.below HB5.out)
  have TY5 := hide (TY4.out.below HB5.out)
  have HK5 := hide (HK.out.below HB5.out HK.out.lt)
  have BW5 := hide (BW4.out.trans (HB5.out.mono hwG))
  clear CF4 TY4 HK BW4 HB5
  generalize (y4.alloc (.cells #[.slice A 1 1, .slice B 1 1, .int .i64 2, .slice (some ⟨gW, 0, none⟩) 31 31, .slice (some ⟨gL, 0, none⟩) 2 2, .int .i64 0, .slice none 0 0, .slice none 0 0, .slice none 0 0, .slice none 0 0] 70)) = y5 at *
  generalize y4.heap.size = G at *
  have hGl5 := KG.out.lt
  obtain ⟨k0, k1, k2, k3, -⟩ := bk10 KG.out
  have QC := hide (fun W (hW : Below y5.heap.size y5 W) => show Calls Try.prog 30 #[.agg #[.slice A 1 1, .slice B 1 1, .int .i64 2], .int .i64 0] W fun e w' => e = .returned (.int .i64 p) ∧ Below W.heap.size W w' from by rw [HP.out]; exact rclaim_any W A 1 1 [1] B 1 1 2 (CF5.out.below hW) 0 (by omega))
  go_wp2_with fail
  refine (QC.out _ (Below.refl _ _)).mono ?_
  rintro e w3 ⟨rfl, hb⟩
  have HB3 := hide hb
  clear k0 k1 k2 k3 hb
  obtain ⟨k0, k1, k2, k3, -⟩ := bk10 (KG.out.below HB3.out KG.out.lt)
  have HK3 := hide (HK5.out.below HB3.out HK5.out.lt)
  have c9 := wc_cell HK3.out (k := p) (by rw [HP.out]; decide +kernel)
  have f9 := HK3.out.frozen p
  have v1 : decide ((p : Int) < 0) = false := by simp
  have v2 : decide (31 ≤ p) = false := by simp; omega
  have nGW : G ≠ gW := by omega
  have nWG := Ne.symm nGW
  go_upto_region 6 with fail
  have WI5 := hide (wi_one (own := Own12) (Rp := Rp12) tw12 (KG.out.below HB3.out KG.out.lt) (CF5.out.below HB3.out) (TY5.out.below HB3.out) HK3.out p 1 (by unfold u64; omega))
  have BW6 := hide ((BW5.out.trans (HB3.out.mono BW5.out.size)).setCell (p := ⟨gW, p, none⟩) hgW (.int .u64 1))
  clear k0 k1 k2 k3 HK3 c9 f9 nGW nWG v2 QC BW5 HK5 TY5 CF5 KG HB3
  generalize w3.setCell ⟨gW, p, none⟩ (.int .u64 1) = w4 at *
  have WI6 : Hid (WI Own12 Rp12 w4 G G 70 (sArm p)) := WI5
  have UN6 : Hid (Un p 0 (sArm p)) := hide (by rw [HP.out]; exact ⟨rfl, by decide +kernel, by decide +kernel, rfl, by decide +kernel⟩)
  have TR6 : Hid ((sArm p).tr.length = 0) := hide rfl
  clear WI5
  have e0 := E0.out
  have e1 := E1.out
  have e2 := E2.out
  have e3 := E3.out
  have e4 := E4.out
  go_wp2
  go_loopg [5, 6, 7, 8, 9] K (fun g s5 s6 s7 s8 s9 wr => ∃ (j i : Nat) (st : St), g + j = K ∧ i = 3 * j ∧ s5 = .int .i64 i ∧ Un p j st ∧ WI Own12 Rp12 wr G G 70 st ∧ Below w.heap.size w wr ∧ st.tr.length ≤ i)
  case atStart => exact ⟨0, 0, _, by omega, by omega, rfl, UN6.out, WI6.out, BW6.out, by rw [TR6.out]; omega⟩
  case round =>
    obtain ⟨j, i, st, hj, hi3, rfl, hun, hwi, hbw, htr⟩ := hrel
    have HI3 := hide hi3
    have HUN := hide hun
    have HWI := hide hwi
    have HBW := hide hbw
    have HTR := hide htr
    have hml : st.ms.length = i := by rw [hun.len, hi3]
    have HML := hide hml
    have hch : 0 < st.l.length := by rw [hun.l_]; simp
    have HCH := hide hch
    clear WI6 UN6 TR6 BW6 hi3 hun hwi hbw htr hml hch
    by_cases hlt : j < K
    · have hiK : i < K3 := by have := HI3.out; have := HK3.out; omega
      have hib : i ≤ 12 := by have := HI3.out; have := HK3.out; omega
      obtain ⟨i1, hi1⟩ : ∃ i1 : Nat, i1 = i + 1 := ⟨_, rfl⟩
      obtain ⟨i2, hi2⟩ : ∃ i2 : Nat, i2 = i + 2 := ⟨_, rfl⟩
      obtain ⟨i3, hi3'⟩ : ∃ i3 : Nat, i3 = i + 3 := ⟨_, rfl⟩
      have r1 : IntKind.i64.wrap ((i : Int) + 1) = (i1 : Int) := by rw [show (i : Int) + 1 = (i1 : Int) by omega]; exact IntWalk.i64_in _ ⟨by omega, by omega⟩
      have r2 : IntKind.i64.wrap ((i : Int) + 2) = (i2 : Int) := by rw [show (i : Int) + 2 = (i2 : Int) by omega]; exact IntWalk.i64_in _ ⟨by omega, by omega⟩
      have r3 : IntKind.i64.wrap ((i : Int) + 3) = (i3 : Int) := by rw [show (i : Int) + 3 = (i3 : Int) by omega]; exact IntWalk.i64_in _ ⟨by omega, by omega⟩
      have R1 := hide hi1
      have R2 := hide hi2
      have R3 := hide hi3'
      have hi1b : i1 ≤ 13 := by omega
      have hi2b : i2 ≤ 14 := by omega
      have hi3b : i3 ≤ 15 := by omega
      have hii : i < i3 := by omega
      have hii1 : i1 < i3 := by omega
      clear hi1 hi2 hi3'
      have D1 := hide r1
      have D2 := hide r2
      have D3 := hide r3
      clear r1 r2 r3
      have AD := fun (w : World) (s : St) (wh : Nat) (h1 : 7 ≤ wh ∧ wh ≤ 11) (H : WI Own12 Rp12 w G G 70 s) (h2 : 0 < s.l.length) (h3 : s.ms.length ≤ 1000) => add12_wi w G G s wh 0 0 0 H h1 h2 (by omega) z_u64 h3
      have AD1 := hide (AD wr st 7 (by omega) HWI.out HCH.out (by rw [HML.out]; omega))
      have ADH := hide AD
      clear AD
      go_wp2_with fail
      refine AD1.out.mono ?_
      rintro e w5 ⟨rfl, hw5, hb5⟩
      have AD2 := hide (ADH.out w5 _ 10 (by omega) hw5 HCH.out (by show (st.ms ++ [_]).length ≤ 1000; rw [List.length_append, HML.out]; simp; omega))
      have BW5 := hide (HBW.out.trans (hb5.mono hwG))
      clear AD1 HBW hw5 hb5 HWI
      go_wp2_with fail
      refine AD2.out.mono ?_
      rintro e w6 ⟨rfl, hw6, hb6⟩
      have AD3 := hide (ADH.out w6 _ 8 (by omega) hw6 HCH.out (by show ((st.ms ++ [_]) ++ [_]).length ≤ 1000; rw [List.length_append, List.length_append, HML.out]; simp; omega))
      have BW6 := hide (BW5.out.trans (hb6.mono hwG))
      clear AD2 BW5 hw6 hb6 ADH
      go_wp2_with fail
      refine AD3.out.mono ?_
      rintro e w7 ⟨rfl, hw7, hb7⟩
      have BW7 := hide (BW6.out.trans (hb7.mono hwG))
      obtain ⟨s1, hs1'⟩ : ∃ s1 : St, s1 = { st with ms := ((st.ms ++ [mc0 7 0 0 0]) ++ [mc0 10 0 0 0]) ++ [mc0 8 0 0 0] } := ⟨_, rfl⟩
      have HW7 : Hid (WI Own12 Rp12 w7 G G 70 s1) := by rw [hs1']; exact hide hw7
      have UR := un_round HUN.out HI3.out hs1'
      have l1 : s1.ms.length = i3 := by rw [hs1']; show (((st.ms ++ _) ++ _) ++ _).length = _; have := R3.out; simp [HML.out]; omega
      have t1 : s1.tr.length ≤ i := by rw [hs1']; exact HTR.out
      rw [← R1.out, ← R2.out] at UR
      obtain ⟨⟨ur1, ur2⟩, ur3, ur4, ur5⟩ := UR
      have ST1 := hide (step12_any knows12 w7 G G i s1 HW7.out (by omega) (by omega))
      have t2 := stp_tr s1 i
      have L1 := hide l1
      have t2' : (stp s1 i).tr.length ≤ i1 := by have := R1.out; omega
      have T2 := hide t2'
      have UR1 := hide ur1
      have UR3 := hide ur3
      have UR4 := hide ur4
      have UR5 := hide ur5
      have l2 : (stp s1 i).ms.length = i3 := by rw [stp_len]; exact l1
      have L2 := hide l2
      clear AD3 BW6 hw7 hb7 hs1' ur1 ur2 ur3 ur4 ur5 l1 t1 t2 t2' l2 HUN HTR HML HCH HW7
      go_wp2_with fail
      refine ST1.out.mono ?_
      rintro e w8 ⟨rfl, hw8, hb8⟩
      generalize stp s1 i = s2 at *
      have BW8 := hide (BW7.out.trans (hb8.mono hwG))
      have hwl : p < s2.ws.length := by
        by_cases h : p < s2.ws.length
        · exact h
        · have := UR1.out
          rw [List.getD, List.getElem?_eq_none (by omega)] at this
          cases this
      obtain ⟨ad, mn, mc, k3, kw, hpm, hG8, hmn⟩ := hw8.word hwl
      rw [UR1.out] at kw
      have ST2 := hide (step12_any knows12 w8 G G i1 s2 hw8 (by rw [L2.out]; exact hii1) (by have := T2.out; omega))
      have t3 := stp_tr s2 i1
      have T3 := hide (show (stp s2 i1).tr.length ≤ i2 by have := T2.out; have := R1.out; have := R2.out; omega)
      have L3 := hide (show (stp s2 i1).ms.length = i3 by rw [stp_len]; exact L2.out)
      have hkw := block_lt kw
      have dd : decide (mn ≤ p) = false := by simp; omega
      have d1 := D1.out
      clear ST1 BW7 hw8 hb8 hwl t3 L2 T2
      go_wp2_with fail
      refine ST2.out.mono ?_
      rintro e w9 ⟨rfl, hw9, hb9⟩
      generalize stp s2 i1 = s3 at *
      have BW9 := hide (BW8.out.trans (hb9.mono hwG))
      have ST3 := hide (step12_any knows12 w9 G G i2 s3 hw9 (by rw [L3.out]; have := R2.out; have := R3.out; omega) (by have := T3.out; omega))
      have t4 := stp_tr s3 i2
      have T4 := hide (show (stp s3 i2).tr.length ≤ i3 by have := T3.out; have := R3.out; have := R2.out; omega)
      have L4 := hide (show (stp s3 i2).ms.length = i3 by rw [stp_len]; exact L3.out)
      have d2 := D2.out
      clear ST2 BW8 hw9 hb9 t4 L3 T3 k3 kw hG8 hkw dd d1 hpm hmn
      go_wp2_with fail
      refine ST3.out.mono ?_
      rintro e w10 ⟨rfl, hw10, hb10⟩
      generalize stp s3 i2 = s4 at *
      have BW10 := hide (BW9.out.trans (hb10.mono hwG))
      have U4 := UR3.out
      obtain ⟨ad', mn', mc', k3, kw, hpm, hG8, hmn⟩ := hw10.word U4.wl
      rw [U4.w1] at kw
      have hkw := block_lt kw
      have dd : decide (mn' ≤ p) = false := by simp; omega
      have HW10 := hide hw10
      clear ST3 BW9 hw10 hb10 d2 U4
      go_upto_region 14 with fail
      clear k3 kw hpm hG8 hmn hkw dd
      obtain ⟨gF, cF, FA, fn, fc, FB, fm, fd, code, pc, k9, f0, f1, f2, f3, f4, hend⟩ := HW10.out.fend knows12 UR4.out (by unfold Own12; show 7 ≤ 7; omega)
      rw [L4.out] at k9
      have HE := hide (fun W (hW : Below w10.heap.size w10 W) => show Calls Try.prog 38 #[.agg #[.int .i64 code, .int .i64 pc, .slice FA fn fc, .slice FB fm fd, .slice none 0 0]] W fun e w' => e = .returned (.tuple #[.agg #[.int .i64 7, .int .u64 0], .bool true]) ∧ Below W.heap.size W w' from hend W hW)
      have g1 : decide ((i : Int) < 0) = false := by simp
      have g2 : decide (i3 ≤ i) = false := by simp; omega
      have hG10 := HW10.out.lt.2
      clear hend
      go_wp2_with fail
      refine (HE.out _ (Below.refl _ _)).mono ?_
      rintro e w11 ⟨rfl, hb11⟩
      have KO1 := hide (Bk.new w11 50 #[.int .i64 7, .int .u64 0])
      have WI12 := hide ((HW10.out.below hb11).below (below_new w11 (.cells #[.int .i64 7, .int .u64 0] 50)))
      have BW12 := hide ((BW10.out.trans (hb11.mono BW10.out.size)).trans ((below_new w11 (.cells #[.int .i64 7, .int .u64 0] 50)).mono (Nat.le_trans BW10.out.size hb11.size)))
      clear k9 f0 f1 f2 f3 f4 hb11 HE HW10 BW10 g1 g2 hG10
      go_upto_region 15 with fail
      generalize (w11.alloc (.cells #[.int .i64 7, .int .u64 0] 50)) = w12 at *
      generalize w11.heap.size = gO at *
      obtain ⟨gF, cF, FA, fn, fc, FB, fm, fd, code, pc, k9, f0, f1, f2, f3, f4, hend⟩ := WI12.out.fend knows12 UR5.out (by unfold Own12; show 7 ≤ 10; omega)
      rw [L4.out] at k9
      have HE := hide (fun W (hW : Below w12.heap.size w12 W) => show Calls Try.prog 38 #[.agg #[.int .i64 code, .int .i64 pc, .slice FA fn fc, .slice FB fm fd, .slice none 0 0]] W fun e w' => e = .returned (.tuple #[.agg #[.int .i64 8, .int .u64 0], .bool true]) ∧ Below W.heap.size W w' from hend W hW)
      have g1 : decide ((i1 : Int) < 0) = false := by simp
      have g2 : decide (i3 ≤ i1) = false := by simp; omega
      have hG12 := WI12.out.lt.2
      have d1 := D1.out
      clear hend
      go_wp2_with fail
      refine (HE.out _ (Below.refl _ _)).mono ?_
      rintro e w13 ⟨rfl, hb13⟩
      have KO2 := hide (Bk.new w13 50 #[.int .i64 8, .int .u64 0])
      have KO3 := hide ((KO1.out.below hb13 KO1.out.lt).alloc (.cells #[.int .i64 8, .int .u64 0] 50))
      have WI14 := hide ((WI12.out.below hb13).below (below_new w13 (.cells #[.int .i64 8, .int .u64 0] 50)))
      have BW14 := hide ((BW12.out.trans (hb13.mono BW12.out.size)).trans ((below_new w13 (.cells #[.int .i64 8, .int .u64 0] 50)).mono (Nat.le_trans BW12.out.size hb13.size)))
      clear k9 f0 f1 f2 f3 f4 hb13 HE WI12 BW12 g1 g2 hG12 d1 KO1
      go_upto_region 16 with fail
      generalize (w13.alloc (.cells #[.int .i64 8, .int .u64 0] 50)) = w14 at *
      generalize w13.heap.size = gP at *
      obtain ⟨o0, o1, -⟩ := bk2 KO3.out
      obtain ⟨p0, p1, -⟩ := bk2 KO2.out
      have hoa := KO3.out.lt
      have hob := KO2.out.lt
      have d3 := D3.out
      clear KO2 KO3
      go_wp2
      go_roundg (gk - 1)
      case rel => exact ⟨j + 1, i3, s4, by omega, by have := HI3.out; have := R3.out; omega, rfl, UR3.out, WI14.out, BW14.out, T4.out⟩
      case measure => omega
    · obtain rfl : j = K := by omega
      have hiK3 : i = K3 := by rw [HI3.out, HK3.out]
      have HIK := hide hiK3
      have hnl : decide (i < K3) = false := by simp; omega
      have hib : i ≤ 15 := by omega
      clear hiK3
      obtain ⟨i1, hi1⟩ : ∃ i1 : Nat, i1 = i + 1 := ⟨_, rfl⟩
      have r1 : IntKind.i64.wrap ((i1 : Int) - 1) = (i : Int) := by rw [show (i1 : Int) - 1 = (i : Int) by omega]; exact IntWalk.i64_in _ ⟨by omega, by omega⟩
      have hi1b : i1 ≤ 16 := by omega
      have hii1 : i < i1 := by omega
      have R1 := hide hi1
      clear hi1
      have D1 := hide r1
      clear r1
      have AD1 := hide (add12_wi wr G G st 10 0 0 0 HWI.out (by omega) HCH.out (by omega) z_u64 (by rw [HML.out]; omega))
      go_wp2_with fail
      refine AD1.out.mono ?_
      rintro e w5 ⟨rfl, hw5, hb5⟩
      have BW5 := hide (HBW.out.trans (hb5.mono hwG))
      obtain ⟨s1, hs1'⟩ : ∃ s1 : St, s1 = { st with ms := st.ms ++ [mc0 10 0 0 0] } := ⟨_, rfl⟩
      have HW5 : Hid (WI Own12 Rp12 w5 G G 70 s1) := by rw [hs1']; exact hide hw5
      have UL := un_last HUN.out HI3.out hs1'
      have l1 : s1.ms.length = i1 := by rw [hs1']; show (st.ms ++ _).length = _; rw [List.length_append, HML.out, R1.out]; rfl
      have t1 : s1.tr.length ≤ i := by rw [hs1']; exact HTR.out
      have ST := hide (step12_any knows12 w5 G G i s1 HW5.out (by omega) (by omega))
      obtain ⟨ul1, ul2, ul3⟩ := UL
      rw [← R1.out] at ul3
      have UL1 := hide ul1
      have UL2 := hide ul2
      have UL3 := hide ul3
      obtain ⟨FA0, fc0, k9⟩ := HW5.out.rowF
      rw [l1] at k9
      have hG5 := HW5.out.lt.2
      have d1 := D1.out
      clear AD1 HBW hw5 hb5 HWI HUN HTR HML HCH hs1' l1 t1 ul1 ul2 ul3 HW5
      go_wp2_with fail
      refine ST.out.mono ?_
      rintro e w6 ⟨rfl, hw6, hb6⟩
      generalize stp s1 i = s2 at *
      have BW6 := hide (BW5.out.trans (hb6.mono hwG))
      clear k9 hG5 d1 ST BW5 hb6
      obtain ⟨gF, cF, FA, fn, fc, FB, fm, fd, code, pc, k9, f0, f1, f2, f3, f4, hend⟩ := hw6.fend knows12 UL2.out (by unfold Own12; show 7 ≤ 10; omega)
      rw [UL3.out] at k9
      have HE := hide (fun W (hW : Below w6.heap.size w6 W) => show Calls Try.prog 38 #[.agg #[.int .i64 code, .int .i64 pc, .slice FA fn fc, .slice FB fm fd, .slice none 0 0]] W fun e w' => e = .returned (.tuple #[.agg #[.int .i64 7, .int .u64 0], .bool true]) ∧ Below W.heap.size W w' from hend W hW)
      have g1 : decide ((i : Int) < 0) = false := by simp
      have g2 : decide (i1 ≤ i) = false := by simp; omega
      have hG6 := hw6.lt.2
      have HW6 := hide hw6
      clear hend hw6
      go_wp2_with fail
      refine (HE.out _ (Below.refl _ _)).mono ?_
      rintro e w7 ⟨rfl, hb7⟩
      have KO1 := hide (Bk.new w7 50 #[.int .i64 7, .int .u64 0])
      have WI8 := hide ((HW6.out.below hb7).below (below_new w7 (.cells #[.int .i64 7, .int .u64 0] 50)))
      have BW8 := hide ((BW6.out.trans (hb7.mono BW6.out.size)).trans ((below_new w7 (.cells #[.int .i64 7, .int .u64 0] 50)).mono (Nat.le_trans BW6.out.size hb7.size)))
      clear k9 f0 f1 f2 f3 f4 hb7 HE HW6 BW6 g1 g2 hG6
      go_upto_region 22 with fail
      generalize (w7.alloc (.cells #[.int .i64 7, .int .u64 0] 50)) = w8 at *
      generalize w7.heap.size = gO at *
      have hwl : p < s2.ws.length := by
        by_cases h : p < s2.ws.length
        · exact h
        · have := UL1.out
          rw [List.getD, List.getElem?_eq_none (by omega)] at this
          cases this
      obtain ⟨ad, mn, mc, k3, kw, hpm, hG8, hmn⟩ := WI8.out.word hwl
      rw [UL1.out] at kw
      have hkw := block_lt kw
      have dd : decide (mn ≤ p) = false := by simp; omega
      obtain ⟨o0, o1, -⟩ := bk2 KO1.out
      have hoa := KO1.out.lt
      clear hwl
      go_wp2
      go_ret
      exact ⟨rfl, BW8.out⟩
end Go.Proofs.Ytadaoobdnnleaaa
