/- The walk of PushAlone. -/
import Derived.Test.YtepngbdjobckbaaA8
import Derived.Test.YtepngbdjobckbaaYS
import Derived.Deep.QuietTactic
import Derived.BigQuiet
namespace Go.Proofs.Ytepngbdjobckbaa
open Go.RowKit
set_option linter.unusedVariables false
set_option linter.unusedSimpArgs false
theorem WI.mat {own : Nat → Prop} {Rp : List Int → Mc → Fa → Prop} {w : World} {base G : Nat} {TW : TypeId} {s : St} (H : WI own Rp w base G TW s) {i : Nat} {x : Mc} (hx : s.ms[i]? = some x) {n : Nat} (hn : s.ms.length = n) {q : Int} (hq : (x.at_ : Int) = q) : ∃ gL cL, w.cell? ⟨G, 6, none⟩ = some (.slice (some ⟨gL, 0, none⟩) n cL) ∧ w.cell? ⟨gL, i * 14 + 1, none⟩ = some (.int .i64 q) ∧ i < n := by
  subst hn hq
  obtain ⟨qs, ⟨h, H⟩, -⟩ := H
  have h1 : i < s.ms.length := (List.getElem?_eq_some_iff.1 hx).1
  obtain ⟨gL, cL, eL, hb⟩ := H.rowL (i := i) (by show i < s.ms.length; exact h1)
  have bk := H.bk
  rw [Hd.cells, eL] at bk
  obtain ⟨-, -, -, -, -, -, k6, -⟩ := bk10 bk
  have oL := H.rL
  rw [eL] at oL
  have hr := own_range (mcs_len h _) oL (i := i) (x := x) hx
  exact ⟨gL, cL, k6, hr 1 _ rfl, h1⟩
set_option maxHeartbeats 4000000 in
set_option maxRecDepth 100000 in
theorem alone8_walk (a0 : Option Addr) (len0 cap0 : Nat) (z0 : List Int) (a1 : Int) (a2 : Bool) (a3 : Int) (w : World) (w0 : Row .u8 w a0 len0 cap0 z0) (w1 : (Lit.int .u64 a1).wf = true) (w3 : (Lit.int .u8 a3).wf = true) :
    Calls Try.prog 11 #[.slice a0 len0 cap0, .int .u64 a1, .bool a2, .int .u8 a3] w fun e w' => e = .returned (.bool true) ∧ Below w.heap.size w w' := by
  obtain ⟨hI1, hc1, hm1, hwf1⟩ := w0.isI
  have H1 := hide hI1
  have HB1 := hide (show ∀ x ∈ z0.take len0, 0 ≤ x ∧ x ≤ 255 from fun x hx => bounds_u8 (hwf1 x hx))
  have hb2 := bounds_u8 w3
  have hu1 := hide (show Go.Proofs.Ytepngbdjobckbaa.u64 a1 from bounds_u64 w1)
  clear w1
  clear hwf1 w0 hI1 w3
  generalize z0.take len0 = l0 at H1 HB1
  have hcm1 : cap0 ≤ 9223372036854775807 := hm1
  clear hm1
  go_enter Try.func11, Try.ntmps11
  go_wp2_with fail
  refine (awake8_any _).mono ?_
  rintro e y1 ⟨rfl, hb1⟩
  have hs1 := hb1.size
  have HB1' := hide hb1
  clear hb1
  go_wp2_with fail
  refine (others8_any addOk8 y1 _ _ _ _ (H1.out.below HB1'.out) HB1.out hc1 hcm1 0 (by omega)).mono ?_
  rintro e y2 ⟨G, l, s, tn, ms, rfl, hG, hwi, hok, hb2'⟩
  have hwG : w.heap.size ≤ G := Nat.le_trans hs1 hG
  have BW2 := hide (HB1'.out.trans (hb2'.mono hs1))
  have hms0 : ms = [] := List.eq_nil_of_length_eq_zero (Nat.le_zero.1 hok.k)
  subst hms0
  obtain ⟨c, hc⟩ : ∃ c, l.getD 0 0 = c := ⟨_, rfl⟩
  obtain ⟨s0, hs0⟩ : ∃ c, s.getD 0 0 = c := ⟨_, rfl⟩
  have hcb := hok.c
  rw [hc] at hcb
  have hk0 := Int.emod_nonneg a3 (show c + 1 ≠ 0 by omega)
  have hk1 := Int.emod_lt_of_pos a3 (show 0 < c + 1 by omega)
  obtain ⟨K, hK⟩ := Int.eq_ofNat_of_zero_le hk0
  rw [hK] at hk1
  have eR : Int.tmod a3 (c + 1) = (K : Int) := by rw [Int.tmod_eq_emod_of_nonneg hb2.1, hK]
  obtain ⟨V, hV⟩ : ∃ V : Nat → Int, V = fun (q : Nat) => if q = K then a1 else (q : Int) := ⟨_, rfl⟩
  have HV := hide hV
  have hln := hok.n
  have hl1 : 0 < l.length := by omega
  have SQ0 : Sq c s0 V ({ st0 l s tn with ms := [] } : St).ws 0 0 false := by
    have hs' := hok.sb (s.getD 0 0) (by have := hok.sn; rw [List.getD, List.getElem?_eq_getElem (show 0 < s.length by omega)]; exact List.getElem_mem _)
    have hcap : Cap l := WI.cap hwi
    have := sq_init (l := l) (s := s) (t := tn) (ms := []) (V := V) hcap hok.n.1 (by rw [hc]; exact hcb.1) (by rw [hc]; exact hcb.2) hs'
    rw [hc, hs0] at this
    exact this
  obtain ⟨S0, hSl, hSm, hSt, hSq, hSw⟩ : ∃ S : St, S.l = l ∧ S.ms.length = 0 ∧ S.tr.length = 0 ∧ Sq c s0 V S.ws 0 0 false ∧ WI Own8 Rp8 y2 G G 81 S := ⟨_, rfl, rfl, rfl, SQ0, hwi⟩
  have HC := hide hc
  have HL := hide hSl
  have HM := hide hSm
  have HT := hide hSt
  have HS := hide hSq
  have HW := hide hSw
  clear SQ0 hwi hok hb2' HB1' H1 HB1 hSm hSt hSq hSw hk0 hK hV
  obtain ⟨A, n, cA, B, m, d, k0, k1, k2, hcf⟩ := HW.out.cfg
  rw [hSl] at hcf
  have hn1 : 1 ≤ n := by rw [← hcf.len]; exact hl1
  obtain ⟨ad, rfl, hc0, -⟩ := hcf.at_ (show 0 < n by omega)
  rw [hc] at hc0
  have c00 : y2.cell? ad = some (.int .i64 c) := by rwa [show ad.add 0 = ad by rcases ad with ⟨_, _, _ | _⟩ <;> rfl] at hc0
  have z0 : decide (n ≤ 0) = false := by simp; omega
  have z1 : 0 < n := by omega
  have eA : IntKind.i64.wrap a3 = a3 := IntWalk.i64_in _ ⟨by omega, by omega⟩
  obtain ⟨c1, hc1'⟩ : ∃ x, c + 1 = x := ⟨_, rfl⟩
  have eC : IntKind.i64.wrap (c + 1) = c1 := by rw [hc1']; exact IntWalk.i64_in _ ⟨by omega, by omega⟩
  rw [hc1'] at eR hk1
  have z2 : ¬ c1 = 0 := by omega
  have z3 : (c1 == 0) = false := by simp; omega
  have eK : IntKind.i64.wrap (K : Int) = (K : Int) := IntWalk.i64_in _ ⟨by omega, by omega⟩
  have hKc : (K : Int) ≤ c := by omega
  have hK4 : K ≤ 4 := by omega
  have hSl2 := hSl
  clear hcf hc0 hc hSl hs0
  go_wp2
  clear k0 k1 k2 c00 z0 z1 eA eC eR z2 z3 hk1 eK
  go_loopg [11] K (fun g sI wr => ∃ (j : Nat) (st : St), g + j = K ∧ sI = .int .i64 j ∧ st.l = l ∧ st.ms.length = j ∧ st.tr.length ≤ 6 * j ∧ Sq c s0 V st.ws j 0 false ∧ WI Own8 Rp8 wr G G 81 st ∧ Below w.heap.size w wr)
  case atStart => exact ⟨0, S0, by omega, rfl, HL.out, HM.out, by rw [HT.out]; omega, HS.out, HW.out, BW2.out⟩
  case round =>
  obtain ⟨j, st, hj, rfl, hsl, hsm, hst, hsq, hwi, hbw⟩ := hrel
  have HWI := hide hwi
  have HBW := hide hbw
  have HSQ := hide hsq
  have HSL := hide hsl
  have HSM := hide hsm
  have HST := hide hst
  clear hwi hbw hsq hsl hsm hst HW BW2 HS HL HM HT
  by_cases hlt : j < K
  · obtain ⟨vv, hvv⟩ : ∃ vv : Int, (j : Int) = vv := ⟨_, rfl⟩
    have hvV : V j = vv := by rw [HV.out]; show (if j = K then a1 else (j : Int)) = vv; rw [if_neg (by omega)]; exact hvv
    have eV1 : IntKind.i64.wrap ((j : Int)) = vv := by rw [hvv]; exact IntWalk.i64_in vv ⟨by omega, by omega⟩
    have eV2 : IntKind.u64.wrap vv = vv := by rw [wrap_u64]; omega
    have eV3 : IntKind.u64.wrap (j : Int) = vv := by rw [hvv, wrap_u64]; omega
    have AD := hide (add8_wi wr G G st 3 0 0 vv HWI.out (by omega) (by rw [HSL.out]; exact hl1) (by omega) (by unfold Go.Proofs.Ytepngbdjobckbaa.u64; omega) (by rw [HSM.out]; omega))
    obtain ⟨x', u', hR, hx0, -, -, -, -, hSQ'⟩ := push_run (s := { st with ms := st.ms ++ [mc0 3 0 0 vv] }) (i := j) (V := V) HSQ.out (by show st.l.getD 0 0 = c; rw [HSL.out]; exact HC.out) (by omega) (by omega) (show (st.ms ++ [mc0 3 0 0 vv])[j]? = some ⟨3, 1, 0, 0, vv % 4, vv % 8, vv, 0, 0, 0, 0⟩ by rw [List.getElem?_append_right (by rw [HSM.out]; omega), HSM.out, Nat.sub_self]; rfl) hvV
    obtain ⟨st1, hst1⟩ : ∃ S : St, S = { st with ms := st.ms ++ [mc0 3 0 0 vv] } := ⟨_, rfl⟩
    have hl1' : st1.l = l := by rw [hst1]; exact HSL.out
    have hm1 : st1.ms.length = j + 1 := by rw [hst1]; show (st.ms ++ [_]).length = _; rw [List.length_append, HSM.out]; rfl
    have ht1 : st1.tr.length ≤ 6 * j := by rw [hst1]; exact HST.out
    rw [← hst1] at hR
    have HR := hide hR
    have HX0 := hide hx0
    have HQ1 := hide hSQ'
    have HL1 := hide hl1'
    have HM1 := hide hm1
    have HT1 := hide ht1
    have HE1 := hide hst1
    clear hR hx0 hSQ' hl1' hm1 ht1 hst1 hvV
    go_wp2_with fail
    refine AD.out.mono ?_
    rintro e v1 ⟨rfl, hw5, hb5, -⟩
    rw [← HE1.out] at hw5
    have HW1 := hide hw5
    have HB1 := hide (HBW.out.trans (hb5.mono hwG))
    clear hw5 hb5 AD HWI HBW HSQ HSL HSM HST eV1 eV2 hvv
    obtain ⟨go, hgo⟩ : ∃ x, x = gk := ⟨_, rfl⟩
    subst hgo
    go_wp2
    go_loopg [] 6 (fun g wr => ∃ m : Nat, g + m = 6 ∧ WI Own8 Rp8 wr G G 81 (stq st1 j m) ∧ Below w.heap.size w wr)
    case atStart => exact ⟨0, by omega, HW1.out, HB1.out⟩
    case round =>
    obtain ⟨m, hm, hwi, hbw⟩ := hrel
    have HW2 := hide hwi
    have HB2 := hide hbw
    clear hwi hbw HW1 HB1
    have d1 : decide ((j : Int) < 0) = false := by simp
    by_cases hlm : m < 6
    · obtain ⟨y, hy, hy0⟩ := HR.out.go m hlm
      obtain ⟨q, hq⟩ : ∃ q : Int, (y.at_ : Int) = q := ⟨_, rfl⟩
      obtain ⟨N1, hN1⟩ : ∃ N, (stq st1 j m).ms.length = N := ⟨_, rfl⟩
      obtain ⟨gL, cL, k6, ca, hjN⟩ := HW2.out.mat hy hN1 hq
      have d2 : decide (N1 ≤ j) = false := by simp; omega
      have d3 : decide (0 < q) = true := by simp; omega
      have hq0 : 0 < q := by omega
      have ST := hide (step8_any knows8 wr G G j _ HW2.out (by rw [hN1]; exact hjN) (by have := stq_tr st1 j m; have := HT1.out; omega))
      clear hy hy0 hq hN1
      go_wp2_with fail
      refine ST.out.mono ?_
      rintro e v2 ⟨rfl, hw5, hb5⟩
      have HW3 := hide hw5
      have HB3 := hide (HB2.out.trans (hb5.mono hwG))
      clear hw5 hb5 ST k6 ca HW2 HB2 d2 d3 hq0
      go_wp2
      go_roundg (gk - 1)
      case rel => exact ⟨m + 1, by omega, HW3.out, HB3.out⟩
      case measure => omega
    obtain rfl : m = 6 := by omega
    obtain ⟨gL, cL, k6, ca, hjN⟩ := HW2.out.mat HR.out.cur (n := j + 1) (by rw [stq_len]; exact HM1.out) (q := 0) (by rw [HX0.out]; rfl)
    have d2 : decide (j + 1 ≤ j) = false := by simp
    go_wp2
    go_roundg (go - 1)
    case rel => exact ⟨j + 1, stq st1 j 6, by omega, by go_num, by rw [HR.out.l]; exact HL1.out, by rw [stq_len]; exact HM1.out, by have := stq_tr st1 j 6; have := HT1.out; omega, by rw [HR.out.ws]; exact HQ1.out, HW2.out, HB2.out⟩
    case measure => omega
  obtain rfl : j = K := by omega
  go_upto_if 58 with fail
  go_cut [] (fun wx => ∃ st : St, st.l = l ∧ st.ms.length ≤ 10 ∧ st.tr.length ≤ 100 ∧ Sq c s0 V st.ws j 0 a2 ∧ WI Own8 Rp8 wx G G 81 st ∧ Below w.heap.size w wx)
  case first =>
    cases a2
    · go_wp2
      go_meet
      case rel => exact ⟨st, HSL.out, by rw [HSM.out]; omega, by have := HST.out; omega, HSQ.out, HWI.out, HBW.out⟩
    have AD := hide (add8_wi wr G G st 5 0 0 0 HWI.out (by omega) (by rw [HSL.out]; exact hl1) (by omega) (by unfold Go.Proofs.Ytepngbdjobckbaa.u64; omega) (by rw [HSM.out]; omega))
    obtain ⟨x', u', hR, hx0, -, hSQ'⟩ := shut_run (s := { st with ms := st.ms ++ [mc0 5 0 0 0] }) (i := j) (V := V) HSQ.out (by show st.l.getD 0 0 = c; rw [HSL.out]; exact HC.out) (show (st.ms ++ [mc0 5 0 0 0])[j]? = some ⟨5, 1, 0, 0, 0, 0, 0, 0, 0, 0, 0⟩ by rw [List.getElem?_append_right (by rw [HSM.out]; omega), HSM.out, Nat.sub_self]; rfl)
    obtain ⟨st1, hst1⟩ : ∃ S : St, S = { st with ms := st.ms ++ [mc0 5 0 0 0] } := ⟨_, rfl⟩
    have hl1' : st1.l = l := by rw [hst1]; exact HSL.out
    have hm1 : st1.ms.length = j + 1 := by rw [hst1]; show (st.ms ++ [_]).length = _; rw [List.length_append, HSM.out]; rfl
    have ht1 : st1.tr.length ≤ 6 * j := by rw [hst1]; exact HST.out
    rw [← hst1] at hR
    have HR := hide hR
    have HX0 := hide hx0
    have HQ1 := hide hSQ'
    have HL1 := hide hl1'
    have HM1 := hide hm1
    have HT1 := hide ht1
    have HE1 := hide hst1
    clear hR hx0 hSQ' hl1' hm1 ht1 hst1
    obtain ⟨N1, hN1⟩ : ∃ N, j + 1 = N := ⟨_, rfl⟩
    have eL1 : IntKind.i64.wrap ((N1 : Int) - 1) = (j : Int) := by rw [show ((N1 : Int) - 1) = (j : Int) by omega]; exact IntWalk.i64_in _ ⟨by omega, by omega⟩
    have eL2 : IntKind.i64.wrap (j : Int) = (j : Int) := IntWalk.i64_in _ ⟨by omega, by omega⟩
    have hjN : j < N1 := by omega
    have d2 : decide (N1 ≤ j) = false := by simp; omega
    have d1 : decide ((j : Int) < 0) = false := by simp
    go_wp2_with fail
    refine AD.out.mono ?_
    rintro e v1 ⟨rfl, hw5, hb5, -⟩
    rw [← HE1.out] at hw5
    have HW1 := hide hw5
    have HB1 := hide (HBW.out.trans (hb5.mono hwG))
    clear hw5 hb5 AD HWI HBW HSQ HSL HSM HST
    go_wp2
    go_loopg [] 2 (fun g wr => ∃ m : Nat, g + m = 2 ∧ WI Own8 Rp8 wr G G 81 (stq st1 j m) ∧ Below w.heap.size w wr)
    case atStart => exact ⟨0, by omega, HW1.out, HB1.out⟩
    case round =>
    obtain ⟨m, hm, hwi, hbw⟩ := hrel
    have HW2 := hide hwi
    have HB2 := hide hbw
    clear hwi hbw HW1 HB1
    by_cases hlm : m < 2
    · obtain ⟨y, hy, hy0⟩ := HR.out.go m hlm
      obtain ⟨q, hq⟩ : ∃ q : Int, (y.at_ : Int) = q := ⟨_, rfl⟩
      obtain ⟨gL, cL, k6, ca, -⟩ := HW2.out.mat hy (show (stq st1 j m).ms.length = N1 by rw [stq_len, HM1.out]; exact hN1) hq
      have d3 : decide (0 < q) = true := by simp; omega
      have hq0 : 0 < q := by omega
      clear hy hy0 hq
      have hGl := HW2.out.lt.2
      go_upto_region 14 with fail
      go_quiet (fail)
      have hbq : Below wr.heap.size wr (wr.drewN nq) := below_drewN (Below.refl _ _) nq
      have HW3 := hide (HW2.out.below hbq)
      have HB3 := hide (HB2.out.trans (hbq.mono HB2.out.size))
      clear k6 ca hbq HW2 HB2 d3 hGl
      generalize wr.drewN nq = wq at *
      obtain ⟨y, hy, hy0⟩ := HR.out.go m hlm
      obtain ⟨gL, cL, k6, -, -⟩ := HW3.out.mat hy (show (stq st1 j m).ms.length = N1 by rw [stq_len, HM1.out]; exact hN1) rfl
      have ST := hide (step8_any knows8 wq G G j _ HW3.out (by rw [stq_len, HM1.out]; omega) (by have := stq_tr st1 j m; have := HT1.out; omega))
      clear hy hy0
      go_wp2_with fail
      refine ST.out.mono ?_
      rintro e v2 ⟨rfl, hw5, hb5⟩
      have HW4 := hide hw5
      have HB4 := hide (HB3.out.trans (hb5.mono hwG))
      clear hw5 hb5 ST k6 HW3 HB3 hq0
      go_wp2
      go_roundg (gk - 1)
      case rel => exact ⟨m + 1, by omega, HW4.out, HB4.out⟩
      case measure => omega
    obtain rfl : m = 2 := by omega
    obtain ⟨gL, cL, k6, ca, -⟩ := HW2.out.mat HR.out.cur (n := N1) (by rw [stq_len, HM1.out]; exact hN1) (q := 0) (by rw [HX0.out]; rfl)
    have hGl := HW2.out.lt.2
    go_upto_region 14 with fail
    go_quiet (fail)
    have hbq : Below wr.heap.size wr (wr.drewN nq) := below_drewN (Below.refl _ _) nq
    have HW3 := hide (HW2.out.below hbq)
    have HB3 := hide (HB2.out.trans (hbq.mono HB2.out.size))
    clear k6 ca hbq HW2 HB2 hGl
    generalize wr.drewN nq = wq at *
    go_wp2
    go_meet
    case rel => exact ⟨stq st1 j 2, by rw [HR.out.l]; exact HL1.out, by rw [stq_len, HM1.out]; omega, by have := stq_tr st1 j 2; have := HT1.out; omega, by rw [HR.out.ws]; exact HQ1.out, HW3.out, HB3.out⟩
  case rest =>
  obtain ⟨st2, hsl, hsm, hst, hsq, hwi, hbw⟩ := hcut
  have HSL2 := hide hsl
  have HSM2 := hide hsm
  have HST2 := hide hst
  have HSQ2 := hide hsq
  have HWI2 := hide hwi
  have HBW2 := hide hbw
  clear hsl hsm hst hsq hwi hbw HSL HSM HST HSQ HWI HBW
  obtain ⟨K, hKj⟩ : ∃ x, x = j := ⟨_, rfl⟩
  subst hKj
  obtain ⟨n, hn⟩ : ∃ n, st2.ms.length = n := ⟨_, rfl⟩
  have HN := hide hn
  have hn14 : n ≤ 14 := by have := HSM2.out; omega
  have AD := hide (add8_wi wc G G st2 3 0 0 a1 HWI2.out (by omega) (by rw [HSL2.out]; exact hl1) (by omega) hu1.out (by rw [HN.out]; omega))
  obtain ⟨st1, hst1⟩ : ∃ S : St, S = { st2 with ms := st2.ms ++ [mc0 3 0 0 a1] } := ⟨_, rfl⟩
  have hgo : ∃ (Kp : Nat) (x' : Mc) (u' : List Int) (kd va : Int), Kp ≤ 6 ∧ Runs st1 n Kp x' u' ∧ x'.at_ = 0 ∧ x'.what = 3 ∧ x'.ok = kd ∧ x'.ov = va ∧ ((a2 = true ∧ Kp = 1 ∧ kd = 4) ∨ (a2 = false ∧ (K : Int) = c ∧ Kp = 3 ∧ kd = 2) ∨ (a2 = false ∧ (K : Int) < c ∧ Kp = 6 ∧ kd = 1 ∧ ∃ p : Nat, p < u'.length ∧ u'.getD p 0 = a1)) := by
    have hx : st1.ms[n]? = some ⟨3, 1, 0, 0, a1 % 4, a1 % 8, a1, 0, 0, 0, 0⟩ := by rw [hst1]; show (st2.ms ++ [mc0 3 0 0 a1])[n]? = _; rw [List.getElem?_append_right (by rw [HN.out]; omega), HN.out, Nat.sub_self]; rfl
    have hl : st1.l.getD 0 0 = c := by rw [hst1]; show st2.l.getD 0 0 = c; rw [HSL2.out]; exact HC.out
    have hs : Sq c s0 V st1.ws K 0 a2 := by rw [hst1]; exact HSQ2.out
    cases a2
    · by_cases hlt : (K : Int) < c
      · obtain ⟨x', u', h1, h2, h3, h4, h5, -, h6⟩ := push_run hs hl (by omega) (by omega) hx (by rw [HV.out]; exact if_pos rfl)
        obtain ⟨p, hp1, hp2⟩ := h6.mem (j := K) (by omega) (by omega)
        exact ⟨6, x', u', 1, 0, by omega, h1, h2, h3, h4, h5, Or.inr (Or.inr ⟨rfl, hlt, rfl, rfl, p, hp1, by rw [hp2, HV.out]; exact if_pos rfl⟩)⟩
      · obtain ⟨x', h1, h2, h3, h4, h5⟩ := push_full hs hl (by omega) hx
        exact ⟨3, x', _, _, _, by omega, h1, h2, h3, h4, h5, Or.inr (Or.inl ⟨rfl, by omega, rfl, rfl⟩)⟩
    · obtain ⟨x', h1, h2, h3, h4, h5⟩ := push_shut hs hl hx
      exact ⟨1, x', _, _, _, by omega, h1, h2, h3, h4, h5, Or.inl ⟨rfl, rfl, rfl⟩⟩
  obtain ⟨Kp, x', u', kd, va, hKp, hR, hx0, hxw, hxk, hxv, hway⟩ := hgo
  have hl1' : st1.l = l := by rw [hst1]; exact HSL2.out
  have hm1 : st1.ms.length = n + 1 := by rw [hst1]; show (st2.ms ++ [_]).length = _; rw [List.length_append, HN.out]; rfl
  have ht1 : st1.tr.length ≤ 100 := by rw [hst1]; exact HST2.out
  have HR := hide hR
  have HX0 := hide hx0
  have HXW := hide hxw
  have HXK := hide hxk
  have HXV := hide hxv
  have HWAY := hide hway
  have HL1 := hide hl1'
  have HM1 := hide hm1
  have HT1 := hide ht1
  have HE1 := hide hst1
  have HBW := HBW2
  have HWI := HWI2
  have HSQ := HSQ2
  have HSL := HSL2
  have HSM := HSM2
  have HST := HST2
  clear hR hx0 hxw hxk hxv hway hl1' hm1 ht1 hst1 hn HWI2 HBW2 HSQ2 HSL2 HSM2 HST2
  obtain ⟨N1, hN1⟩ : ∃ N, n + 1 = N := ⟨_, rfl⟩
  have eL1 : IntKind.i64.wrap ((N1 : Int) - 1) = (n : Int) := by rw [show ((N1 : Int) - 1) = (n : Int) by omega]; exact IntWalk.i64_in _ ⟨by omega, by omega⟩
  have eL2 : IntKind.i64.wrap (n : Int) = (n : Int) := IntWalk.i64_in _ ⟨by omega, by omega⟩
  have hjN : n < N1 := by omega
  have d2 : decide (N1 ≤ n) = false := by simp; omega
  have d1 : decide ((n : Int) < 0) = false := by simp
  go_wp2_with fail
  refine AD.out.mono ?_
  rintro e v1 ⟨rfl, hw5, hb5, -⟩
  rw [← HE1.out] at hw5
  have HW1 := hide hw5
  have HB1 := hide (HBW.out.trans (hb5.mono hwG))
  clear hw5 hb5 AD HWI HBW HSQ HSL HSM HST HN HE1
  obtain ⟨go, hgo⟩ : ∃ x, x = gk := ⟨_, rfl⟩
  subst hgo
  obtain ⟨A6, c6, k6⟩ := HW1.out.row6.2.2
  rw [HM1.out, hN1] at k6
  go_wp2
  clear k6
  go_loopg [13] Kp (fun g sS wr => ∃ m : Nat, g + m = Kp ∧ sS = .int .i64 m ∧ WI Own8 Rp8 wr G G 81 (stq st1 n m) ∧ Below w.heap.size w wr)
  case atStart => exact ⟨0, by omega, rfl, HW1.out, HB1.out⟩
  case round =>
  obtain ⟨m, hm, rfl, hwi, hbw⟩ := hrel
  have HW2 := hide hwi
  have HB2 := hide hbw
  clear hwi hbw HW1 HB1
  by_cases hlm : m < Kp
  · obtain ⟨y, hy, hy0⟩ := HR.out.go m hlm
    obtain ⟨q, hq⟩ : ∃ q : Int, (y.at_ : Int) = q := ⟨_, rfl⟩
    obtain ⟨gL, cL, k6, ca, -⟩ := HW2.out.mat hy (show (stq st1 n m).ms.length = N1 by rw [stq_len, HM1.out]; exact hN1) hq
    have d3 : decide (0 < q) = true := by simp; omega
    have hq0 : 0 < q := by omega
    have hm20 : m < 20 := by omega
    have d4 : decide ((m : Int) < 20) = true := by simp; omega
    have ST := hide (step8_any knows8 wr G G n _ HW2.out (by rw [stq_len, HM1.out]; omega) (by have := stq_tr st1 n m; have := HT1.out; omega))
    clear hy hy0 hq
    go_wp2_with fail
    refine ST.out.mono ?_
    rintro e v2 ⟨rfl, hw5, hb5⟩
    have HW4 := hide hw5
    have HB4 := hide (HB2.out.trans (hb5.mono hwG))
    clear hw5 hb5 ST k6 ca HW2 HB2 hq0 d3 d4
    go_wp2
    go_roundg (gk - 1)
    case rel => exact ⟨m + 1, by omega, by go_num, HW4.out, HB4.out⟩
    case measure => omega
  obtain rfl : m = Kp := by omega
  obtain ⟨gL, cL, k6, ca, -⟩ := HW2.out.mat HR.out.cur (n := N1) (by rw [stq_len, HM1.out]; exact hN1) (q := 0) (by rw [HX0.out]; rfl)
  obtain ⟨gF, cF, FA, fn, fc, FB, fm, fd, code, pc, k9, f0, f1, f2, f3, f4, hend⟩ := HW2.out.fend knows8 HR.out.cur (by show x'.what = 3; exact HXW.out)
  rw [stq_len, HM1.out, hN1] at k9
  rw [HXK.out, HXV.out, HX0.out] at hend
  have HE := hide (fun W (hW : Below wr.heap.size wr W) => show Calls Try.prog 41 #[.agg #[.int .i64 code, .int .i64 pc, .slice FA fn fc, .slice FB fm fd, .slice none 0 0]] W fun e w' => e = .returned (.tuple #[.agg #[.int .i64 kd, .int .u64 va], .bool true]) ∧ Below W.heap.size W w' from hend W hW)
  clear hend
  go_wp2_with fail
  refine (HE.out _ (Below.refl _ _)).mono ?_
  rintro e v6 ⟨rfl, hb7⟩
  have KO := hide (Bk.new v6 56 #[.int .i64 kd, .int .u64 va])
  have HB10 := hide (hb7.trans ((below_new v6 (.cells #[.int .i64 kd, .int .u64 va] 56)).mono hb7.size))
  have HW3 := hide (HW2.out.below HB10.out)
  have HB3 := hide (HB2.out.trans (HB10.out.mono HB2.out.size))
  clear k6 ca k9 f0 f1 f2 f3 f4 hb7 HE HW2 HB2 HB10
  go_upto_region 23 with fail
  generalize (v6.alloc (.cells #[.int .i64 kd, .int .u64 va] 56)) = v7 at *
  generalize v6.heap.size = gO at *
  obtain ⟨o0, o1, -⟩ := bk2 KO.out
  have hOl := KO.out.lt

  rcases HWAY.out with ⟨rfl, rfl, rfl⟩ | ⟨rfl, hKc', rfl, rfl⟩ | ⟨rfl, hKc', rfl, rfl, p, hp1, hp2⟩
  · go_wp2
    go_ret
    exact ⟨rfl, HB3.out⟩
  · obtain ⟨A, n', cA, B, m', d, k0, k1, k2, hcf⟩ := HW3.out.cfg
    rw [HR.out.l, HL1.out] at hcf
    obtain ⟨ad, rfl, hc0, -⟩ := hcf.at_ (show 0 < n' by rw [← hcf.len]; exact hl1)
    rw [HC.out] at hc0
    have c00 : v7.cell? ad = some (.int .i64 c) := by rwa [show ad.add 0 = ad by rcases ad with ⟨_, _, _ | _⟩ <;> rfl] at hc0
    have z1 : 0 < n' := by rw [← hcf.len]; exact hl1
    have z0 : decide (n' ≤ 0) = false := by simp; omega
    have e1 : ((K : Int) == c) = true := by rw [hKc']; simp
    have e2 : decide ((K : Int) = c) = true := by simp; exact hKc'
    clear hcf hc0
    go_wp2
    go_ret
    exact ⟨rfl, HB3.out⟩
  · obtain ⟨A, n', cA, B, m', d, k0, k1, k2, hcf⟩ := HW3.out.cfg
    rw [HR.out.l, HL1.out] at hcf
    obtain ⟨ad, rfl, hc0, -⟩ := hcf.at_ (show 0 < n' by rw [← hcf.len]; exact hl1)
    rw [HC.out] at hc0
    have c00 : v7.cell? ad = some (.int .i64 c) := by rwa [show ad.add 0 = ad by rcases ad with ⟨_, _, _ | _⟩ <;> rfl] at hc0
    have z1 : 0 < n' := by rw [← hcf.len]; exact hl1
    have z0 : decide (n' ≤ 0) = false := by simp; omega
    have hne : ¬ (K : Int) = c := by omega
    have e1 : ((K : Int) == c) = false := by simp; exact hne
    have e2 : decide ((K : Int) = c) = false := by simp; exact hne
    obtain ⟨MA, mn, mc, k3, hI, hmn⟩ := HW3.out.words
    rw [HR.out.ws] at hI
    have hlen : mn = u'.length := hI.len.symm
    have HII := hide hI
    have HP2 := hide hp2
    clear hcf hc0 hI hp2
    go_wp2
    clear k0 k1 k2 c00 z1 z0 e1 e2
    go_loopg [16, 18, 161] mn (fun g sF sX sI wr => ∃ (i : Nat) (b : Bool), g + i = mn ∧ sI = .int .i64 i ∧ sF = .bool b ∧ (p < i → b = true) ∧ wr = v7)
    case atStart => exact ⟨0, false, by omega, rfl, rfl, fun h => absurd h (Nat.not_lt_zero _), rfl⟩
    case round =>
    obtain ⟨i, b, hi, rfl, rfl, hb, rfl⟩ := hrel
    have HBB := hide hb
    clear hb
    by_cases hlt : i < mn
    · obtain ⟨ad2, rfl, -, hcw⟩ := HII.out.at_ hlt
      obtain ⟨xv, hxv⟩ : ∃ v, u'.getD i 0 = v := ⟨_, rfl⟩
      rw [hxv] at hcw
      have HXV2 := hide hxv
      clear hxv
      obtain ⟨b2, hb2'⟩ : ∃ b, (xv == a1) = b := ⟨_, rfl⟩
      have e3 : decide (xv = a1) = b2 := by rw [← hb2']; rfl
      have d5 : decide ((i : Int) < 0) = false := by simp
      have d6 : decide (mn ≤ i) = false := by simp; omega
      cases b
      · go_wp2
        go_roundg (gk - 1)
        case rel => exact ⟨i + 1, b2, by omega, by go_num, rfl, fun h => by
          by_cases e : p = i
          · subst e
            rw [← hb2', ← HXV2.out, HP2.out]
            simp
          · exact absurd (HBB.out (by omega)) (by simp), rfl⟩
        case measure => omega
      · go_wp2
        go_roundg (gk - 1)
        case rel => exact ⟨i + 1, true, by omega, by go_num, rfl, fun _ => rfl, rfl⟩
        case measure => omega
    obtain rfl : i = mn := by omega
    obtain rfl : b = true := HBB.out (by omega)
    go_wp2
    go_ret
    exact ⟨rfl, HB3.out⟩

end Go.Proofs.Ytepngbdjobckbaa
