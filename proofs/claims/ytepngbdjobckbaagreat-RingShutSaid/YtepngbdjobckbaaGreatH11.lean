/- Several texts in one. -/
import Derived.Test.YtepngbdjobckbaaGreatG0
import Derived.Deep.RegionHeld3
import Derived.Deep.RegionLaw
import Derived.Deep.DeepCutAuto
import Derived.Deep.DrawnRows
import Derived.Deep.AppendLies
section
namespace Go.Proofs.YtepngbdjobckbaaGreat
open Go.RowKit
set_option linter.unusedVariables false
set_option maxRecDepth 100000 in
theorem own11_yes (w : World) (A : Option Addr) (n c : Nat) (B : Option Addr) (m d : Nat) (t : Int) (x : Mc) (h : x.what=6) :
    Calls Tryz.prog 32 #[.agg (Mc.cells A n c B m d t x)] w fun e w' => e = .returned (.bool true) ∧ Below w.heap.size w w' := by
  obtain ⟨what, at_, ch, th, ix, kd, v, tt, hh, ok, ov⟩ := x
  dsimp only at h
  have hd2 : ((what:Int)==6) = true := by simp <;> omega
  clear h
  rw [Mc.cells]
  go_enter Tryz.func32, Tryz.ntmps32
  go_wp2
  go_ret
  exact ⟨ret_eq (by first | rfl | simp [hd2]), below_new _ _⟩
set_option maxRecDepth 100000 in
theorem own11_no (w : World) (A : Option Addr) (n c : Nat) (B : Option Addr) (m d : Nat) (t : Int) (x : Mc) (h : x.what≠6) :
    Calls Tryz.prog 32 #[.agg (Mc.cells A n c B m d t x)] w fun e w' => e = .returned (.bool false) ∧ Below w.heap.size w w' := by
  obtain ⟨what, at_, ch, th, ix, kd, v, tt, hh, ok, ov⟩ := x
  dsimp only at h
  have hd2 : ((what:Int)==6) = false := by simp <;> omega
  clear h
  rw [Mc.cells]
  go_enter Tryz.func32, Tryz.ntmps32
  go_wp2
  go_ret
  exact ⟨ret_eq (by first | rfl | simp [hd2]), below_new _ _⟩
set_option maxHeartbeats 1000000 in
set_option maxRecDepth 100000 in
theorem same11_yes (w : World) (base G i : Nat) (h : Hd) (st : St) (x : Mc) (q : Fa) (H : WdH w base G 66 h st) (hx : st.ms[i]? = some x) (hq : st.qs[i]? = some q) (hmv : Mv h.n x) (hown : x.what=6) (hgood : Good 52 18 st.l x q) :
    Calls Tryz.prog 34 #[.pointer (some ⟨G, 0, none⟩), .int .i64 i] w fun e w' => e = .returned (.bool true) ∧ Below w.heap.size w w' := by
  have HN := fun W cs h => (hgood W cs h).1
  have HE := fun W cs h => (hgood W cs h).2
  obtain ⟨bz, hbz⟩ : ∃ b, ((x.at_ : Int) == 0) = b := ⟨_, rfl⟩
  rw [hbz] at HE
  clear hgood
  obtain ⟨what, at_, ch, th, ix, kd, v, tt, hh, ok, ov⟩ := x
  dsimp only at hbz hown HE
  have hi : i < st.ms.length := (List.getElem?_eq_some_iff.1 hx).1
  obtain ⟨gL, cL, eL, hgL⟩ := H.rowL hi
  obtain ⟨FA, fn, fc, FB, fm, fd, gF, cF, hfr, -, eF, hif, hrF⟩ := H.frame hq
  have bk := H.bk
  rw [Hd.cells, eL, eF] at bk
  have hr := H.rL
  rw [eL] at hr
  have hrg := own_range (mcs_len h st) hr hx
  have HOWN := hide (fun W => own11_yes W h.A h.n h.c h.B h.m h.d st.th ⟨what, at_, ch, th, ix, kd, v, tt, hh, ok, ov⟩ hown)
  have HMN := hide (fun W (hW : Below w.heap.size w W) => mnext_any W h.A h.n h.c h.B h.m h.d st.th st.l (H.cf.below hW) ⟨what, at_, ch, th, ix, kd, v, tt, hh, ok, ov⟩ hmv)
  have HN' := hide (fun W (hW : Below w.heap.size w W) => HN W _ (Fr.below hfr hW))
  have HE' := hide (fun W (hW : Below w.heap.size w W) => HE W _ (Fr.below hfr hW))
  have EA := fun W => eq_acc W (mnext st.l ⟨what, at_, ch, th, ix, kd, v, tt, hh, ok, ov⟩) (mnext st.l ⟨what, at_, ch, th, ix, kd, v, tt, hh, ok, ov⟩)
  have EO := fun W => eq_out W ok ov ok ov
  simp only [decide_true, beq_self_eq_true, Bool.and_self] at EA EO
  have BK := hide bk
  have HRG := hide hrg
  have HRF := hide hrF
  have d1 : decide ((i : Int) < 0) = false := by simp
  have d2 : decide (st.ms.length ≤ i) = false := by simp; omega
  have d3 : decide (h.fs.length ≤ i) = false := by simp; omega
  rw [Mc.cells] at HOWN HMN
  rw [Acc.cells] at EA
  have HA : Hid (∃ a, mnext st.l ⟨what, at_, ch, th, ix, kd, v, tt, hh, ok, ov⟩ = a) := hide ⟨_, rfl⟩
  clear H hr hrg hrF hfr HN HE hmv hx hq hown eL eF
  generalize mnext st.l ⟨what, at_, ch, th, ix, kd, v, tt, hh, ok, ov⟩ = a at HMN HN' EA
  have EAH := hide EA
  have EOH := hide EO
  clear EA EO HA
  obtain ⟨k0, k1, k2, k3, k4, k5, k6, k7, k8, k9, kf⟩ := bk10 bk
  obtain ⟨m0, m1, m2, m3, m4, m5, m6, m7, m8, m9, m10, m11, m12, m13⟩ := rg14 HRG.out
  clear bk
  go_enter Tryz.func34, Tryz.ntmps34
  go_wp2_with fail
  refine (HOWN.out _).mono ?_
  rintro e w1 ⟨rfl, hb⟩
  have K1 := (Bk.new w 81 (Mc.cells h.A h.n h.c h.B h.m h.d st.th ⟨what, at_, ch, th, ix, kd, v, tt, hh, ok, ov⟩)).below hb (by simp)
  rw [Mc.cells] at K1
  have hb1 := (below_new w (.cells (Mc.cells h.A h.n h.c h.B h.m h.d st.th ⟨what, at_, ch, th, ix, kd, v, tt, hh, ok, ov⟩) 81)).trans (hb.mono (by simp))
  have KM := hide K1
  have HB1 := hide hb1
  have hlt1 := hide (show w.heap.size < w1.heap.size from K1.lt)
  clear hb hb1 K1 k0 k1 k2 k3 k4 k5 k6 k7 k8 k9 kf m0 m1 m2 m3 m4 m5 m6 m7 m8 m9 m10 m11 m12 m13 HOWN HRG
  obtain ⟨-, -, -, -, -, -, -, -, -, k9, kf⟩ := bk10 (BK.out.below HB1.out BK.out.lt)
  obtain ⟨f0, f1, f2, f3, f4⟩ := rg5 (rangeAt_below HRF.out HB1.out)
  go_wp2_with fail
  refine (HE'.out _ HB1.out).mono ?_
  rintro e w2 ⟨rfl, hb⟩
  have hb2 := HB1.out.trans ((hb.trans ((below_new w2 (.cells #[.int .i64 ok, .int .u64 ov] 47)).mono hb.size)).mono HB1.out.size)
  have KM2 := hide ((KM.out.below hb hlt1.out).alloc (.cells #[.int .i64 ok, .int .u64 ov] 47))
  have KO := hide (Bk.new w2 47 #[.int .i64 ok, .int .u64 ov])
  have HB2 := hide hb2
  clear hb hb2 k9 kf f0 f1 f2 f3 f4 KM HE'
  have hu := fun (u : Up (w2.alloc (.cells #[.int .i64 ok, .int .u64 ov] 47))) => HB2.out.trans (u.2.mono HB2.out.size)
  have up2 := fun (u : Up (w2.alloc (.cells #[.int .i64 ok, .int .u64 ov] 47))) => u.2
  have k9 := fun u => (bk10 (BK.out.below (hu u) BK.out.lt)).2.2.2.2.2.2.2.2.2.1
  have f0 := fun u => (rg5 (rangeAt_below HRF.out (hu u))).1
  have f1 := fun u => (rg5 (rangeAt_below HRF.out (hu u))).2.1
  have f2 := fun u => (rg5 (rangeAt_below HRF.out (hu u))).2.2.1
  have f3 := fun u => (rg5 (rangeAt_below HRF.out (hu u))).2.2.2.1
  have f4 := fun u => (rg5 (rangeAt_below HRF.out (hu u))).2.2.2.2
  have m0 := fun u => (bk14 (KM2.out.below (up2 u) KM2.out.lt)).1
  have m1 := fun u => (bk14 (KM2.out.below (up2 u) KM2.out.lt)).2.1
  have m2 := fun u => (bk14 (KM2.out.below (up2 u) KM2.out.lt)).2.2.1
  have m3 := fun u => (bk14 (KM2.out.below (up2 u) KM2.out.lt)).2.2.2.1
  have m4 := fun u => (bk14 (KM2.out.below (up2 u) KM2.out.lt)).2.2.2.2.1
  have m5 := fun u => (bk14 (KM2.out.below (up2 u) KM2.out.lt)).2.2.2.2.2.1
  have m6 := fun u => (bk14 (KM2.out.below (up2 u) KM2.out.lt)).2.2.2.2.2.2.1
  have m7 := fun u => (bk14 (KM2.out.below (up2 u) KM2.out.lt)).2.2.2.2.2.2.2.1
  have m8 := fun u => (bk14 (KM2.out.below (up2 u) KM2.out.lt)).2.2.2.2.2.2.2.2.1
  have m9 := fun u => (bk14 (KM2.out.below (up2 u) KM2.out.lt)).2.2.2.2.2.2.2.2.2.1
  have m10 := fun u => (bk14 (KM2.out.below (up2 u) KM2.out.lt)).2.2.2.2.2.2.2.2.2.2.1
  have m11 := fun u => (bk14 (KM2.out.below (up2 u) KM2.out.lt)).2.2.2.2.2.2.2.2.2.2.2.1
  have m12 := fun u => (bk14 (KM2.out.below (up2 u) KM2.out.lt)).2.2.2.2.2.2.2.2.2.2.2.2.1
  have m13 := fun u => (bk14 (KM2.out.below (up2 u) KM2.out.lt)).2.2.2.2.2.2.2.2.2.2.2.2.2.1
  have o0 := fun u => (bk2 (KO.out.below (up2 u) KO.out.lt)).1
  have o1 := fun u => (bk2 (KO.out.below (up2 u) KO.out.lt)).2.1
  have N1 := hide (fun u => HN'.out _ (hu u))
  have N2 := hide (fun u => HMN.out _ (hu u))
  have hsz2 := hide HB2.out
  clear BK HRF KM2 KO HN' HMN HB2 hu HB1 hlt1 up2
  rw [Acc.cells] at N1 N2
  go_wp2
  have E1 := EAH.out
  have E2 := EOH.out
  refine wp_region_up (by kernel_rfl) (by kernel_rfl) ?_
  repeat (go_big_quiet_step (first
    | (go_at_call 52; exact up_call (N1.out _))
    | (go_at_call 53; exact up_call (N2.out _))))
  refine wpQuiet_nil ?_
  rintro _ ⟨u, rfl⟩
  clear k9 f0 f1 f2 f3 f4 m0 m1 m2 m3 m4 m5 m6 m7 m8 m9 m10 m11 m12 m13 o0 o1
  go_wp2
  go_ret
  exact ⟨rfl, hsz2.out.trans (u.2.mono hsz2.out.size)⟩
set_option maxHeartbeats 1000000 in
set_option maxRecDepth 100000 in
theorem same11_no (w : World) (base G i : Nat) (h : Hd) (st : St) (x : Mc) (H : WdH w base G 66 h st) (hx : st.ms[i]? = some x) (hown : x.what≠6) :
    Calls Tryz.prog 34 #[.pointer (some ⟨G, 0, none⟩), .int .i64 i] w fun e w' => e = .returned (.bool true) ∧ Below w.heap.size w w' := by
  obtain ⟨what, at_, ch, th, ix, kd, v, tt, hh, ok, ov⟩ := x
  have hi : i < st.ms.length := (List.getElem?_eq_some_iff.1 hx).1
  obtain ⟨gL, cL, eL, hgL⟩ := H.rowL hi
  have bk := H.bk
  rw [Hd.cells, eL] at bk
  have hr := H.rL
  rw [eL] at hr
  have hrg := own_range (mcs_len h st) hr hx
  have HOWN := hide (fun W => own11_no W h.A h.n h.c h.B h.m h.d st.th ⟨what, at_, ch, th, ix, kd, v, tt, hh, ok, ov⟩ hown)
  have d1 : decide ((i : Int) < 0) = false := by simp
  have d2 : decide (st.ms.length ≤ i) = false := by simp; omega
  rw [Mc.cells] at HOWN
  obtain ⟨k0, k1, k2, k3, k4, k5, k6, k7, k8, k9, kf⟩ := bk10 bk
  obtain ⟨m0, m1, m2, m3, m4, m5, m6, m7, m8, m9, m10, m11, m12, m13⟩ := rg14 hrg
  clear H hr hx hown eL bk hrg
  go_enter Tryz.func34, Tryz.ntmps34
  go_wp2_with fail
  refine (HOWN.out _).mono ?_
  rintro e w1 ⟨rfl, hb⟩
  have hb1 := hide ((below_new w (.cells (Mc.cells h.A h.n h.c h.B h.m h.d st.th ⟨what, at_, ch, th, ix, kd, v, tt, hh, ok, ov⟩) 81)).trans (hb.mono (by simp)))
  clear hb k0 k1 k2 k3 k4 k5 k6 k7 k8 k9 kf m0 m1 m2 m3 m4 m5 m6 m7 m8 m9 m10 m11 m12 m13 HOWN
  go_wp2
  go_ret
  exact ⟨rfl, hb1.out⟩
end Go.Proofs.YtepngbdjobckbaaGreat
end
section
namespace Go.Proofs.YtepngbdjobckbaaGreat
open Go.RowKit
set_option linter.unusedVariables false
set_option maxHeartbeats 4000000 in
set_option maxRecDepth 100000 in
theorem step11_own (w : World) (base G i : Nat) (s1 : St) (x : Mc) (q : Fa) (va : Int) (ya : Bool) (R : Fa → Prop) (hbG : base ≤ G) (hGw : G < w.heap.size) (hx : s1.ms[i]? = some x) (hq : s1.qs[i]? = some q) (hown : x.what=6)
    (HSame : Calls Tryz.prog 34 #[.pointer (some ⟨G, 0, none⟩), .int .i64 i] w fun e w' => e = .returned (.bool true) ∧ Below w.heap.size w w')
    (HStep : ∀ W, Below w.heap.size w W → Calls Tryz.prog 35 #[.pointer (some ⟨G, 0, none⟩), .int .i64 i] W fun e w' => e = .returned (.tuple #[.agg #[.int .u64 va, .bool ya, .bool false, .slice none 0 0], .bool true]) ∧ Wd w' base G 66 s1 ∧ Below base W w')
    (HRes : ∀ W cs, FrA W cs q → Calls Tryz.prog 36 #[.agg cs, .agg #[.int .u64 va, .bool ya, .bool false, .slice none 0 0]] W fun e w' => ∃ cs' q', e = .returned (.agg cs') ∧ FrA w' cs' q' ∧ R q' ∧ Below W.heap.size W w')
    (HSame2 : ∀ W q', R q' → Wd W base G 66 { s1 with qs := s1.qs.set i q' } → Calls Tryz.prog 34 #[.pointer (some ⟨G, 0, none⟩), .int .i64 i] W fun e w' => e = .returned (.bool true) ∧ Below W.heap.size W w') :
    Calls Tryz.prog 17 #[.pointer (some ⟨G, 0, none⟩), .int .i64 i] w fun e w' => e = .returned (.bool true) ∧ ∃ q', R q' ∧ Wd w' base G 66 { s1 with qs := s1.qs.set i q' } ∧ Below base w w' := by
  obtain ⟨what, at_, ch, th, ix, kd, v, tt, hh, ok, ov⟩ := x
  have hi : i < s1.ms.length := (List.getElem?_eq_some_iff.1 hx).1
  have H1 := hide HSame
  have H2 := hide HStep
  have H3 := hide HRes
  have H4 := hide HSame2
  have HX := hide hx
  have HQ := hide hq
  have d1 : decide ((i : Int) < 0) = false := by simp
  have d2 : decide (s1.ms.length ≤ i) = false := by simp; omega
  clear HSame HStep HRes HSame2 hx hq
  go_enter Tryz.func17, Tryz.ntmps17
  go_wp2_with fail
  refine H1.out.mono ?_
  rintro e w1 ⟨rfl, hb1⟩
  have HB1 := hide hb1
  clear hb1 H1
  go_wp2_with fail
  refine (H2.out _ HB1.out).mono ?_
  rintro e w2 ⟨rfl, hwd, hb2⟩
  obtain ⟨h, hh2⟩ := hwd
  have hb2' := (HB1.out.mono (Nat.le_trans hbG (Nat.le_of_lt hGw))).trans hb2
  have HB2 := hide hb2'
  have HW := hide hh2
  clear hb2 hb2' hh2 HB1 H2
  obtain ⟨gL, cL, eL, hgL⟩ := HW.out.rowL hi
  have bk := HW.out.bk
  rw [Hd.cells, eL] at bk
  have hr := HW.out.rL
  rw [eL] at hr
  have hrg := own_range (mcs_len h s1) hr HX.out
  have hGl := bk.lt
  have hLl := (hr.lt gL rfl).2
  have hbs := HW.out.base_le
  have HOWN := hide (fun W => own11_yes W h.A h.n h.c h.B h.m h.d s1.th ⟨what, at_, ch, th, ix, kd, v, tt, hh, ok, ov⟩ hown)
  rw [Mc.cells] at HOWN
  clear hown
  obtain ⟨k0, k1, k2, k3, k4, k5, k6, k7, k8, k9, kf⟩ := bk10 bk
  obtain ⟨m0, m1, m2, m3, m4, m5, m6, m7, m8, m9, m10, m11, m12, m13⟩ := rg14 hrg
  clear hr eL bk hrg
  go_wp2_with fail
  refine (HOWN.out _).mono ?_
  rintro e w3 ⟨rfl, hb3⟩
  clear k0 k1 k2 k3 k4 k5 k6 k7 k8 k9 kf m0 m1 m2 m3 m4 m5 m6 m7 m8 m9 m10 m11 m12 m13
  have hx3 := (below_new w2 (.cells #[.int .u64 va, .bool ya, .bool false, .slice none 0 0] 86)).trans (hb3.mono (by simp))
  have K3 : Hid (Bk w3 w2.heap.size 86 #[.int .u64 va, .bool ya, .bool false, .slice none 0 0]) := hide ((Bk.new w2 86 #[.int .u64 va, .bool ya, .bool false, .slice none 0 0]).below hb3 (by simp))
  have W3 := hide (HW.out.below hx3)
  have HB3 := hide (HB2.out.trans (hx3.mono hbs))
  clear hb3 hx3 HB2 HW hGl hLl HOWN
  go_upto_region 5 with fail
  go_cut [] (fun wx => ∃ q', R q' ∧ Wd wx base G 66 { s1 with qs := s1.qs.set i q' } ∧ Below base w wx)
  case first =>
    obtain ⟨FA, fn, fc, FB, fm, fd, gF, cF, hfr, -, eF, hif, hrF⟩ := W3.out.frame HQ.out
    have hgF : base ≤ gF := by
      obtain ⟨g2, c2, e2, h2⟩ := W3.out.rowF hif
      rw [eF] at e2
      cases e2
      exact h2
    have d3 : decide (h.fs.length ≤ i) = false := by simp; omega
    have bk := W3.out.bk
    rw [Hd.cells, eF] at bk
    obtain ⟨-, -, -, -, -, -, -, -, -, k9, kf⟩ := bk10 bk
    obtain ⟨f0, f1, f2, f3, f4⟩ := rg5 hrF
    obtain ⟨q0, q1, q2, q3, -⟩ := bk4 K3.out
    have HRF := hide hrF
    have HFR := hide hfr
    have EF := hide eF
    have hb3s := W3.out.base_le
    clear bk hrF hfr eF
    go_region_law (first
      | (refine step_call _ (by rfl) 36 _ (by go_simp) (H3.out w3.drew _ (Fr.below HFR.out (Below.refl w3.heap.size w3).drew)) ?_; rintro e w4 ⟨cs', q', rfl, hf', hR', hb4⟩; refine ⟨_, rfl, ?_⟩; have hb4 := (Below.refl w3.heap.size w3).drew.trans hb4; have HR := hide hR'; have HF := hide hf'; have W4 := hide (W3.out.below hb4); have HB4 := hide (HB3.out.trans (hb4.mono hb3s)); obtain ⟨FA', fn', fc', FB', fm', fd', rfl, -⟩ := id hf'; obtain ⟨x0, x1, x2, x3, x4⟩ := rg5 (rangeAt_below HRF.out hb4); have bk4' := W4.out.bk; rw [Hd.cells, EF.out] at bk4'; obtain ⟨-, -, -, -, -, -, -, -, -, y9, yf⟩ := bk10 bk4'; have xf := W4.out.frozF EF.out; clear bk4' hf' hR' hb4))
    all_goals
      go_wp2_with fail
      go_meet
      case rel => exact ⟨q', HR.out, ⟨_, W4.out.setQ EF.out i hif _ q' HF.out W4.out.fsz⟩, below_setCells [_, _, _, _, _] (i * 5) HB4.out hgF⟩
  case rest =>
    obtain ⟨q', hR, hW, hB⟩ := hcut
    have X := hide (H4.out wc q' hR hW)
    have HB := hide hB
    have HW := hide hW
    have HR := hide hR
    have hbs := Wd.base_le hW
    clear hR hW hB H4 H3 W3 K3 HB3
    go_wp2_with fail
    refine X.out.mono ?_
    rintro e w5 ⟨rfl, hb5⟩
    have HB5 := hide hb5
    clear hb5
    go_wp2
    go_ret
    exact ⟨rfl, q', HR.out, HW.out.below HB5.out, HB.out.trans (HB5.out.mono hbs)⟩
end Go.Proofs.YtepngbdjobckbaaGreat
end
section
namespace Go.Proofs.YtepngbdjobckbaaGreat
open Go.RowKit
set_option linter.unusedVariables false
set_option maxHeartbeats 2000000 in
set_option maxRecDepth 100000 in
theorem step11_end (w : World) (G i : Nat)
    (HSame : ∀ W, Below w.heap.size w W → Calls Tryz.prog 34 #[.pointer (some ⟨G, 0, none⟩), .int .i64 i] W fun e w' => e = .returned (.bool true) ∧ Below W.heap.size W w')
    (HStep : ∀ W, Below w.heap.size w W → Calls Tryz.prog 35 #[.pointer (some ⟨G, 0, none⟩), .int .i64 i] W fun e w' => e = .returned (.tuple #[.agg #[.int .u64 0, .bool false, .bool false, .slice none 0 0], .bool false]) ∧ Below W.heap.size W w') :
    Calls Tryz.prog 17 #[.pointer (some ⟨G, 0, none⟩), .int .i64 i] w fun e w' => e = .returned (.bool true) ∧ Below w.heap.size w w' := by
  have H1 := hide HSame
  have H2 := hide HStep
  clear HSame HStep
  go_enter Tryz.func17, Tryz.ntmps17
  go_wp2_with fail
  refine (H1.out _ (Below.refl _ _)).mono ?_
  rintro e w1 ⟨rfl, hb1⟩
  have HB1 := hide hb1
  clear hb1
  go_wp2_with fail
  refine (H2.out _ HB1.out).mono ?_
  rintro e w2 ⟨rfl, hb2⟩
  have HB2 := hide ((HB1.out.trans (hb2.mono HB1.out.size)).trans ((below_new w2 (.cells #[.int .u64 0, .bool false, .bool false, .slice none 0 0] 86)).mono (Nat.le_trans HB1.out.size hb2.size)))
  clear hb2 HB1 H2
  go_wp2_with fail
  refine (H1.out _ HB2.out).mono ?_
  rintro e w3 ⟨rfl, hb3⟩
  have HB3 := hide (HB2.out.trans (hb3.mono HB2.out.size))
  clear hb3 HB2 H1
  go_wp2
  go_ret
  exact ⟨rfl, HB3.out⟩
set_option maxHeartbeats 2000000 in
set_option maxRecDepth 100000 in
theorem step11_oth (w : World) (base G i : Nat) (s1 : St) (x : Mc) (va : Int) (ya : Bool) (hbG : base ≤ G) (hGw : G < w.heap.size) (hx : s1.ms[i]? = some x) (hown : x.what≠6)
    (HSame : Calls Tryz.prog 34 #[.pointer (some ⟨G, 0, none⟩), .int .i64 i] w fun e w' => e = .returned (.bool true) ∧ Below w.heap.size w w')
    (HStep : ∀ W, Below w.heap.size w W → Calls Tryz.prog 35 #[.pointer (some ⟨G, 0, none⟩), .int .i64 i] W fun e w' => e = .returned (.tuple #[.agg #[.int .u64 va, .bool ya, .bool false, .slice none 0 0], .bool true]) ∧ Wd w' base G 66 s1 ∧ Below base W w')
    (HSame2 : ∀ W, Wd W base G 66 s1 → Calls Tryz.prog 34 #[.pointer (some ⟨G, 0, none⟩), .int .i64 i] W fun e w' => e = .returned (.bool true) ∧ Below W.heap.size W w') :
    Calls Tryz.prog 17 #[.pointer (some ⟨G, 0, none⟩), .int .i64 i] w fun e w' => e = .returned (.bool true) ∧ Wd w' base G 66 s1 ∧ Below base w w' := by
  obtain ⟨what, at_, ch, th, ix, kd, v, tt, hh, ok, ov⟩ := x
  have hi : i < s1.ms.length := (List.getElem?_eq_some_iff.1 hx).1
  have H1 := hide HSame
  have H2 := hide HStep
  have H4 := hide HSame2
  have HX := hide hx
  have d1 : decide ((i : Int) < 0) = false := by simp
  have d2 : decide (s1.ms.length ≤ i) = false := by simp; omega
  clear HSame HStep HSame2 hx
  go_enter Tryz.func17, Tryz.ntmps17
  go_wp2_with fail
  refine H1.out.mono ?_
  rintro e w1 ⟨rfl, hb1⟩
  have HB1 := hide hb1
  clear hb1 H1
  go_wp2_with fail
  refine (H2.out _ HB1.out).mono ?_
  rintro e w2 ⟨rfl, hwd, hb2⟩
  obtain ⟨h, hh2⟩ := hwd
  have hb2' := (HB1.out.mono (Nat.le_trans hbG (Nat.le_of_lt hGw))).trans hb2
  have HB2 := hide hb2'
  have HW := hide hh2
  clear hb2 hb2' hh2 HB1 H2
  obtain ⟨gL, cL, eL, hgL⟩ := HW.out.rowL hi
  have bk := HW.out.bk
  rw [Hd.cells, eL] at bk
  have hr := HW.out.rL
  rw [eL] at hr
  have hrg := own_range (mcs_len h s1) hr HX.out
  have hGl := bk.lt
  have hLl := (hr.lt gL rfl).2
  have hbs := HW.out.base_le
  have HOWN := hide (fun W => own11_no W h.A h.n h.c h.B h.m h.d s1.th ⟨what, at_, ch, th, ix, kd, v, tt, hh, ok, ov⟩ hown)
  rw [Mc.cells] at HOWN
  clear hown
  obtain ⟨k0, k1, k2, k3, k4, k5, k6, k7, k8, k9, kf⟩ := bk10 bk
  obtain ⟨m0, m1, m2, m3, m4, m5, m6, m7, m8, m9, m10, m11, m12, m13⟩ := rg14 hrg
  clear hr eL bk hrg
  go_wp2_with fail
  refine (HOWN.out _).mono ?_
  rintro e w3 ⟨rfl, hb3⟩
  clear k0 k1 k2 k3 k4 k5 k6 k7 k8 k9 kf m0 m1 m2 m3 m4 m5 m6 m7 m8 m9 m10 m11 m12 m13
  have hx3 := (below_new w2 (.cells #[.int .u64 va, .bool ya, .bool false, .slice none 0 0] 86)).trans (hb3.mono (by simp))
  have W3 := hide (HW.out.below hx3)
  have HB3 := hide (HB2.out.trans (hx3.mono hbs))
  have hbs3 := W3.out.base_le
  clear hb3 hx3 HB2 HW hGl hLl HOWN
  go_wp2_with fail
  refine (H4.out _ ⟨_, W3.out⟩).mono ?_
  rintro e w4 ⟨rfl, hb4⟩
  have HB4 := hide hb4
  clear hb4 H4
  go_wp2
  go_ret
  exact ⟨rfl, ⟨_, W3.out.below HB4.out⟩, HB3.out.trans (HB4.out.mono hbs3)⟩
end Go.Proofs.YtepngbdjobckbaaGreat
end
section
namespace Go.Proofs.YtepngbdjobckbaaGreat
open Go.RowKit
set_option linter.unusedVariables false
theorem step11_any {Rp : List Int → Mc → Fa → Prop} (K : Knows Own11 Rp 52 18 36) (w : World) (base G i : Nat) (s : St) (H : WI Own11 Rp w base G 66 s) (hi : i < s.ms.length) (ht : s.tr.length ≤ 1000000) :
    Calls Tryz.prog 17 #[.pointer (some ⟨G, 0, none⟩), .int .i64 i] w fun e w' => e = .returned (.bool true) ∧ WI Own11 Rp w' base G 66 (stp s i) ∧ Below base w w' := by
  obtain ⟨qs, ⟨h, Hw⟩, I⟩ := H
  have hq' : i < qs.length := by have := I.ln; simp only at this; omega
  have hx : s.ms[i]? = some s.ms[i] := List.getElem?_eq_getElem hi
  have hq : qs[i]? = some qs[i] := List.getElem?_eq_getElem hq'
  generalize s.ms[i] = x at hx
  generalize qs[i] = q at hq
  have mvx := I.mv i x hx
  have hG := Hw.hG
  have hGw := Hw.bk.lt
  have hl : s.l.length = h.n := Hw.cf.len
  have mvh : Mv h.n x := by rw [← hl]; exact mvx
  have hsm : ∀ W, Below w.heap.size w W → Calls Tryz.prog 34 #[.pointer (some ⟨G, 0, none⟩), .int .i64 i] W fun e w' => e = .returned (.bool true) ∧ Below W.heap.size W w' := fun W hW => by
    by_cases ho : Own11 x.what
    · exact same11_yes W base G i h _ x q (Hw.below hW) hx hq mvh ho (K.good _ x q I.cap mvx ho (I.rp i x q hx hq ho))
    · exact same11_no W base G i h _ x (Hw.below hW) hx (by have hnot := ho; exact hnot)
  by_cases hat : x.at_ = 0
  · have e1 : stp s i = s := by unfold stp; rw [hx]; simp only [if_pos hat]
    rw [e1]
    refine (step11_end w G i hsm (fun W hW => Step_end W base G i _ h _ x (Hw.below hW) hx hat)).mono ?_
    rintro e w' ⟨rfl, hb⟩
    exact ⟨rfl, ⟨qs, ⟨h, Hw.below hb⟩, I⟩, hb.mono Hw.base_le⟩
  have e1 : stp s i = stS s i x := by unfold stp; rw [hx]; simp only [if_neg hat]
  rw [e1]
  have hSt : ∀ W, Below w.heap.size w W → _ := fun W hW => Step_any W base G i _ h _ x (Hw.below hW) hx I.cap mvx hat I.wu ht (show s.pa.length ≤ 1000000 from by have hpl : s.pa.length = s.tr.length := I.pl; omega)
  have mu := mapply_u I.wu (mnext_ok I.cap mvx hat).n
  have hx1 : (s.ms.set i (mres s.l x (mapply s.ws (mnext s.l x)).2.1 (mapply s.ws (mnext s.l x)).2.2))[i]? = some (mres s.l x (mapply s.ws (mnext s.l x)).2.1 (mapply s.ws (mnext s.l x)).2.2) := List.getElem?_set_self hi
  have mv1 := mvx.res (l := s.l) mu.2.1 (mapply s.ws (mnext s.l x)).2.2
  by_cases ho : Own11 x.what
  · have ho1 : Own11 (mres s.l x (mapply s.ws (mnext s.l x)).2.1 (mapply s.ws (mnext s.l x)).2.2).what := by rw [mres_what]; exact ho
    refine (step11_own w base G i _ _ q _ _ (fun q' => Rp s.l (mres s.l x (mapply s.ws (mnext s.l x)).2.1 (mapply s.ws (mnext s.l x)).2.2) q') hG hGw hx1 hq ho1 (hsm w (Below.refl _ _)) hSt (fun W cs hf => K.res _ x q I.cap mvx ho (I.rp i x q hx hq ho) W cs _ _ false none 0 0 mu.2.1 hf) (fun W q' hR hW => ?_)).mono ?_
    · obtain ⟨h2, H2⟩ := hW
      have hl2 : s.l.length = h2.n := H2.cf.len
      exact same11_yes W base G i h2 _ _ q' H2 hx1 (List.getElem?_set_self hq') (by rw [← hl2]; exact mv1) ho1 (K.good _ _ q' I.cap mv1 ho1 hR)
    · rintro e w' ⟨rfl, q', hR, hW, hB⟩
      exact ⟨rfl, ⟨qs.set i q', hW, I.step hx hat q' (fun _ => hR)⟩, hB⟩
  · have hn1 : ¬ Own11 (mres s.l x (mapply s.ws (mnext s.l x)).2.1 (mapply s.ws (mnext s.l x)).2.2).what := by rw [mres_what]; exact ho
    refine (step11_oth w base G i _ _ _ _ hG hGw hx1 (by have hnot := hn1; exact hnot) (hsm w (Below.refl _ _)) hSt (fun W hW => ?_)).mono ?_
    · obtain ⟨h2, H2⟩ := hW
      exact same11_no W base G i h2 _ _ H2 hx1 (by have hnot := hn1; exact hnot)
    · rintro e w' ⟨rfl, hW, hB⟩
      exact ⟨rfl, ⟨qs, hW, I.step2 hx hat ho⟩, hB⟩
end Go.Proofs.YtepngbdjobckbaaGreat
end
section
namespace Go.Proofs.YtepngbdjobckbaaGreat
open Go.RowKit
set_option linter.unusedVariables false
set_option maxHeartbeats 4000000 in
set_option maxRecDepth 100000 in
theorem add11_own (w : World) (base G : Nat) (h : Hd) (st : St) (what ch th : Nat) (v r4 r8 : Int) (x : Mc) (R : Fa → Prop) (H : WdH w base G 66 h st) (hxe : x = ⟨what, 1, ch, th, r4, r8, v, 0, 0, 0, 0⟩) (h4 : r4 = v % 4) (h8 : r8 = v % 8) (hv : 0 ≤ v) (hown : x.what=6) (hms : st.ms.length ≤ 1000000) (hfs : h.fs.length ≤ 1000000)
    (HStart : ∀ W, Cf W h.A h.n st.l → Calls Tryz.prog 33 #[.agg #[.slice h.A h.n h.c, .slice h.B h.m h.d, .int .i64 st.th], .agg (Mc.cells h.A h.n h.c h.B h.m h.d st.th x)] W fun e w' => ∃ cs q', e = .returned (.agg cs) ∧ FrA w' cs q' ∧ R q' ∧ Below W.heap.size W w') :
    Calls Tryz.prog 16 #[.pointer (some ⟨G, 0, none⟩), .int .i64 what, .int .i64 ch, .int .i64 th, .int .u64 v] w fun e w' => e = .returned (.tuple #[]) ∧ ∃ q', R q' ∧ Wd w' base G 66 { st with ms := st.ms ++ [x], qs := st.qs ++ [q'] } ∧ Below base w w' ∧ Kp w w' 3 := by
  have e4 : v.tmod 4 = r4 := by rw [Int.tmod_eq_emod_of_nonneg hv, h4]
  have e8 : v.tmod 8 = r8 := by rw [Int.tmod_eq_emod_of_nonneg hv, h8]
  have b4 : 0 ≤ r4 ∧ r4 ≤ 3 := by omega
  have b8 : 0 ≤ r8 ∧ r8 ≤ 7 := by omega
  have u4 : IntKind.u64.wrap r4 = r4 := by rw [wrap_u64]; omega
  have u8 : IntKind.u64.wrap r8 = r8 := by rw [wrap_u64]; omega
  have i4 : IntKind.i64.wrap r4 = r4 := IntWalk.i64_in r4 ⟨by omega, by omega⟩
  have i8 : IntKind.i64.wrap r8 = r8 := IntWalk.i64_in r8 ⟨by omega, by omega⟩
  have bk := H.bk
  have HH := hide H
  have HST := hide HStart
  have HXE := hide hxe
  rw [Hd.cells] at bk
  obtain ⟨k0, k1, k2, k3, k4, k5, k6, k7, k8, k9, kf⟩ := bk10 bk
  have HNW := hide (fun W => mnew_any W h.A h.n h.c h.B h.m h.d st.th what ch th)
  have HOWN := hide (fun W => own11_yes W h.A h.n h.c h.B h.m h.d st.th x hown)
  rw [Mc.cells] at HNW
  clear H HStart hxe bk h4 h8 hown
  go_enter Tryz.func16, Tryz.ntmps16
  go_wp2_with fail
  refine (HNW.out _).mono ?_
  rintro e w1 ⟨rfl, hb1⟩
  have H1 := hide (HH.out.below hb1)
  have HB1 := hide (hb1.mono HH.out.base_le)
  have KP1 := hide (kp_below (T := 3) hb1)
  clear k0 k1 k2 k3 k4 k5 k6 k7 k8 k9 kf hb1 HNW HH
  go_upto_region 2 with fail
  have KM := hide (Bk.new w1 81 #[.int .i64 what, .int .i64 1, .slice h.A h.n h.c, .slice h.B h.m h.d, .int .i64 st.th, .int .i64 ch, .int .i64 th, .int .i64 r4, .int .i64 r8, .int .u64 v, .int .u64 0, .int .u64 0, .int .i64 0, .int .u64 0])
  have H2 := hide (H1.out.alloc (.cells #[.int .i64 what, .int .i64 1, .slice h.A h.n h.c, .slice h.B h.m h.d, .int .i64 st.th, .int .i64 ch, .int .i64 th, .int .i64 r4, .int .i64 r8, .int .u64 v, .int .u64 0, .int .u64 0, .int .i64 0, .int .u64 0] 81))
  have HB2 := hide (HB1.out.trans ((below_new w1 (.cells #[.int .i64 what, .int .i64 1, .slice h.A h.n h.c, .slice h.B h.m h.d, .int .i64 st.th, .int .i64 ch, .int .i64 th, .int .i64 r4, .int .i64 r8, .int .u64 v, .int .u64 0, .int .u64 0, .int .i64 0, .int .u64 0] 81)).mono H1.out.base_le))
  have hGp : G < w1.heap.size := H1.out.bk.lt
  have HNR := hide (show h.vL.ownBlock ≠ some w1.heap.size from fun e => Nat.lt_irrefl _ (H1.out.rL.lt _ e).2)
  have KP2 := hide (KP1.out.trans (kp_below (T := 3) (below_new w1 (.cells #[.int .i64 what, .int .i64 1, .slice h.A h.n h.c, .slice h.B h.m h.d, .int .i64 st.th, .int .i64 ch, .int .i64 th, .int .i64 r4, .int .i64 r8, .int .u64 v, .int .u64 0, .int .u64 0, .int .i64 0, .int .u64 0] 81))))
  clear H1 HB1 KP1
  generalize w1.alloc (.cells #[.int .i64 what, .int .i64 1, .slice h.A h.n h.c, .slice h.B h.m h.d, .int .i64 st.th, .int .i64 ch, .int .i64 th, .int .i64 r4, .int .i64 r8, .int .u64 v, .int .u64 0, .int .u64 0, .int .i64 0, .int .u64 0] 81) = wm at *
  generalize w1.heap.size = p10 at *
  have hbp : base ≤ p10 := Nat.le_trans H2.out.hG (Nat.le_of_lt hGp)
  go_cut [] (fun wx => ∃ vL', WdH wx base G 66 { h with vL := vL' } { st with ms := st.ms ++ [x] } ∧ Bk wx p10 81 #[.int .i64 what, .int .i64 1, .slice h.A h.n h.c, .slice h.B h.m h.d, .int .i64 st.th, .int .i64 ch, .int .i64 th, .int .i64 r4, .int .i64 r8, .int .u64 v, .int .u64 0, .int .u64 0, .int .i64 0, .int .u64 0] ∧ Below base w wx ∧ Kp w wx 3)
  case first =>
    have bk := H2.out.bk
    have hGl := bk.lt
    rw [Hd.cells] at bk
    obtain ⟨-, -, -, -, -, -, k6, -, -, -, kf⟩ := bk10 bk
    obtain ⟨m0, m1, m2, m3, m4, m5, m6, m7, m8, m9, m10, m11, m12, m13, -⟩ := bk14 KM.out
    have hpl := KM.out.lt
    have hbs := H2.out.base_le
    have hms2 : st.ms.length ≤ 1073741824 := by omega
    obtain ⟨i0, hi0, hz0, hz1, hz2⟩ := info_parts Tryz.mcz_inf
    clear bk
    go_region_law (first
      | (refine step_push3 ((wm.drew).alloc (.cells #[.int .i64 what, .int .i64 1, .slice h.A h.n h.c, .slice h.B h.m h.d, .int .i64 st.th, .int .i64 ch, .int .i64 th, .int .i64 r4, .int .i64 r8, .int .u64 v, .int .u64 0, .int .u64 0, .int .i64 0, .int .u64 0] 81)) (by rfl) (.tmp 36) (.tmp 38) _ (by rfl) base 81 i0 _ 14 144 Tryz.underlying60 hi0 hz0 hz1 hz2 (by rfl) (by decide) _ _ _ (by rfl) ((H2.out.below (Below.refl wm.heap.size wm).drew).alloc _).rL [.int .i64 what, .int .i64 1, .slice h.A h.n h.c, .slice h.B h.m h.d, .int .i64 st.th, .int .i64 ch, .int .i64 th, .int .i64 r4, .int .i64 r8, .int .u64 v, .int .u64 0, .int .u64 0, .int .i64 0, .int .u64 0] ⟨wm.heap.size, 0, none⟩ (by rfl) (cells_new (wm.drew) _ _) (by rfl) (by simp [Value.oneCell']) hms2 (by omega) (by simp; omega) ?_; intro v4 w4 hown4 hg4 hv4; obtain ⟨A4, C4, rfl, -⟩ := own_form hown4; have bk5' := ((H2.out.below (Below.refl wm.heap.size wm).drew).alloc (.cells #[.int .i64 what, .int .i64 1, .slice h.A h.n h.c, .slice h.B h.m h.d, .int .i64 st.th, .int .i64 ch, .int .i64 th, .int .i64 r4, .int .i64 r8, .int .u64 v, .int .u64 0, .int .u64 0, .int .i64 0, .int .u64 0] 81)).bk.oth hg4 (Oth.own ((H2.out.below (Below.refl wm.heap.size wm).drew).alloc _).rL H2.out.tw.2.2.1); have BK4 := hide bk5'; rw [Hd.cells] at bk5'; obtain ⟨-, -, -, -, -, -, y6, -, -, -, yf⟩ := bk10 bk5'; clear bk5'))
    all_goals
      go_wp2_with fail
      go_meet
      case rel =>
        refine ⟨_, ((H2.out.below (Below.refl wm.heap.size wm).drew).alloc _).pushL x _ ?_ hg4, ?_, ?_, ?_⟩
        · rw [HXE.out]; exact hown4
        · have r := ((H2.out.below (Below.refl wm.heap.size wm).drew).alloc (.cells #[.int .i64 what, .int .i64 1, .slice h.A h.n h.c, .slice h.B h.m h.d, .int .i64 st.th, .int .i64 ch, .int .i64 th, .int .i64 r4, .int .i64 r8, .int .u64 v, .int .u64 0, .int .u64 0, .int .i64 0, .int .u64 0] 81)).rL
          have hrl := H2.out.rL
          refine Bk.far (Bk.grown ((KM.out.below (Below.refl wm.heap.size wm).drew KM.out.lt).alloc _) hg4 ?_) (by show p10 ≠ G; omega) _
          exact fun e => HNR.out e.symm
        · exact (HB2.out.trans (((Below.refl base wm).drew.alloc hbs _).trans (own_below ((H2.out.below (Below.refl wm.heap.size wm).drew).alloc _).rL hg4 (Nat.le_refl _) (by simp; omega)))).setCell (p := ⟨G, 6, none⟩) H2.out.hG _
        · exact KP2.out.trans ((kp_below (Below.refl wm.heap.size wm).drew).trans ((kp_below (below_new _ _)).trans (kp_push ((H2.out.below (Below.refl wm.heap.size wm).drew).alloc _).rL hg4 ((H2.out.below (Below.refl wm.heap.size wm).drew).alloc (.cells #[.int .i64 what, .int .i64 1, .slice h.A h.n h.c, .slice h.B h.m h.d, .int .i64 st.th, .int .i64 ch, .int .i64 th, .int .i64 r4, .int .i64 r8, .int .u64 v, .int .u64 0, .int .u64 0, .int .i64 0, .int .u64 0] 81)).bk (by decide) (by decide) (by decide))))
  case rest =>
    obtain ⟨vL', h3, k3, b3, p3⟩ := hcut
    have P3 := hide p3
    have H3 := hide h3
    have K3 := hide k3
    have B3 := hide b3
    have hbw := h3.base_le
    clear h3 k3 b3 p3 H2 HB2 KM KP2
    have HOWN2 := HOWN
    rw [HXE.out, Mc.cells] at HOWN2
    have HST2 := HST
    rw [HXE.out, Mc.cells] at HST2
    obtain ⟨m0, m1, m2, m3, m4, m5, m6, m7, m8, m9, m10, m11, m12, m13, -⟩ := bk14 K3.out
    have hpl := K3.out.lt
    go_wp2_with fail
    refine (HOWN2.out _).mono ?_
    rintro e w5 ⟨rfl, hb5⟩
    have hx5 := (below_new wc (.cells #[.int .i64 0, .int .i64 0, .slice none 0 0, .slice none 0 0, .slice none 0 0] 51)).trans (hb5.mono (by simp))
    have H5 := hide (H3.out.below hx5)
    have K5 := hide (K3.out.below hx5 K3.out.lt)
    have F5 := hide ((Bk.new wc 51 #[.int .i64 0, .int .i64 0, .slice none 0 0, .slice none 0 0, .slice none 0 0]).below hb5 (by simp))
    have B5 := hide (B3.out.trans (hx5.mono hbw))
    have P5 := hide (P3.out.trans (kp_below (T := 3) hx5))
    have hNF := hide (show h.vF.ownBlock ≠ some wc.heap.size from fun e => Nat.lt_irrefl _ (H3.out.rF.lt _ e).2)
    have hG5 : G < wc.heap.size := H3.out.bk.lt
    have hp5 : p10 < wc.heap.size := K3.out.lt
    clear m0 m1 m2 m3 m4 m5 m6 m7 m8 m9 m10 m11 m12 m13 hb5 hx5 H3 K3 B3 P3 HOWN HOWN2 HST
    generalize wc.heap.size = p11 at *
    go_upto_region 5 with fail
    go_cut [] (fun wx => ∃ cs q', FrA wx cs q' ∧ R q' ∧ Bk wx p11 51 cs ∧ WdH wx base G 66 { h with vL := vL' } { st with ms := st.ms ++ [x] } ∧ Below base w wx ∧ Kp w wx 3)
    case first =>
      have bk := H5.out.bk
      rw [Hd.cells] at bk
      obtain ⟨k0, k1, k2, -, -, -, -, -, -, -, -⟩ := bk10 bk
      obtain ⟨m0, m1, m2, m3, m4, m5, m6, m7, m8, m9, m10, m11, m12, m13, -⟩ := bk14 K5.out
      clear bk
      have hbs5 := H5.out.base_le
      go_region_law (first
        | (refine step_call _ (by rfl) 33 _ (by go_simp) (HST2.out w5.drew (H5.out.cf.below (Below.refl w5.heap.size w5).drew)) ?_; rintro e w6 ⟨cs', q', rfl, hf', hR', hb6⟩; refine ⟨_, rfl, ?_⟩; have hb6 := (Below.refl w5.heap.size w5).drew.trans hb6; have HR := hide hR'; have HF := hide hf'; have H6 := hide (H5.out.below hb6); have F6 := hide (F5.out.below hb6 F5.out.lt); have B6 := hide (B5.out.trans (hb6.mono hbs5)); have P6 := hide (P5.out.trans (kp_below (T := 3) hb6)); obtain ⟨FA', fn', fc', FB', fm', fd', rfl, -⟩ := id hf'; obtain ⟨e0, e1, e2, e3, e4', ef⟩ := bk5 F6.out; clear hf' hR' hb6))
      all_goals
        go_wp2_with fail
        go_meet
        case rel => exact ⟨_, q', Fr.stored (vs := [.int .i64 q'.code, .int .i64 q'.pc, .slice FA' fn' fc', .slice FB' fm' fd', .slice none 0 0]) (hide rfl) HF.out F6.out, HR.out, Bk.stored (cells := #[.int .i64 q'.code, .int .i64 q'.pc, .slice FA' fn' fc', .slice FB' fm' fd', .slice none 0 0]) (hide rfl) F6.out rfl, H6.out.apartF F6.out (by omega) hNF.out 0 [_, _, _, _, _], below_setCells [_, _, _, _, _] 0 B6.out (by omega), P6.out.trans (kp_sets (by decide) [_, _, _, _, _] 0 F6.out)⟩
    case rest =>
      obtain ⟨cs, q', hf, hR, hF, hW, hB, hP⟩ := hcut
      have P7 := hide hP
      obtain ⟨FA, fn, fc, FB, fm, fd, rfl, -⟩ := id hf
      have HF := hide hf
      have HR := hide hR
      have F7 := hide hF
      have H7 := hide hW
      have B7 := hide hB
      have bk := H7.out.bk
      rw [Hd.cells] at bk
      obtain ⟨-, -, -, -, -, -, -, -, -, k9, kf⟩ := bk10 bk
      obtain ⟨e0, e1, e2, e3, e4', -⟩ := bk5 F7.out
      have hGl := bk.lt
      have hFl := F7.out.lt
      have hbs := H7.out.base_le
      have hfs2 : h.fs.length ≤ 1073741824 := by omega
      have d1 : decide ((h.fs.length : Int) < 0) = false := by simp
      have d2 : decide (h.fs.length + 1 ≤ h.fs.length) = false := by simp
      have dl : (h.fs.length : Int) < (h.fs.length : Int) + 1 := by omega
      obtain ⟨i0, hi0, hz0, hz1, hz2⟩ := info_parts Tryz.frz_inf
      clear bk hf hR hF hW hB hP H5 K5 F5 B5 P5 HST2
      have H8 := hide ((H7.out.below (Below.refl wc.heap.size wc).drew).alloc (.cells #[.int .i64 0, .int .i64 0, .slice none 0 0, .slice none 0 0, .slice none 0 0] 51))
      have rF8 := H8.out.rF
      obtain ⟨VA, VC, eV, -⟩ := own_form rF8
      dsimp only at eV
      dsimp only at rF8
      rw [eV] at rF8 k9
      have EV := hide eV
      have RF8 := hide rF8
      clear eV rF8
      go_upto_region 6 with fail
      go_region_law (first
        | (refine step_push3 ((wc.drew).alloc (.cells #[.int .i64 0, .int .i64 0, .slice none 0 0, .slice none 0 0, .slice none 0 0] 51)) (by rfl) (.tmp 55) (.tmp 58) _ (by rfl) base 51 i0 _ 5 88 Tryz.underlying49 hi0 hz0 hz1 hz2 (by rfl) (by decide) _ _ _ (by rfl) RF8.out [.int .i64 0, .int .i64 0, .slice none 0 0, .slice none 0 0, .slice none 0 0] ⟨wc.heap.size, 0, none⟩ (by rfl) (cells_new (wc.drew) _ _) (by rfl) (by simp [Value.oneCell']) hfs2 (by omega) (by simp; omega) ?_; intro v4 w4 hown4 hg4 hv4; rw [← EV.out] at hg4 hv4; obtain ⟨g4, C4, rfl, -, -⟩ := hown4.form (Nat.succ_pos _); have bk5' := H8.out.bk.oth hg4 (Oth.own H8.out.rF H8.out.tw.2.2.2.2.2); have BK4 := hide bk5'; rw [Hd.cells] at bk5'; obtain ⟨-, -, -, -, -, -, -, -, -, y9, yf⟩ := bk10 bk5'; have HF4 := hide (Bk.grown (((F7.out.below (Below.refl wc.heap.size wc).drew F7.out.lt).alloc _)) hg4 (fun e => hNF.out e.symm)); obtain ⟨z0, z1, z2, z3, z4, -⟩ := bk5 HF4.out; have hcell := own_last hown4; obtain ⟨x0, x1, x2, x3, x4⟩ := rg5 hcell; have xf := fun j => hown4.frozenAt j; have hgG := own_ne hown4 BK4.out H8.out.tw.2.2.2.2.2; have hgG' := fun e => hgG (Eq.symm e); clear bk5'))
      all_goals
        go_wp2
        refine bodyPost_end (v := .tuple #[]) (by simp [results, Tryz.results16, go_sem]) rfl ?_
        have HZ := set5_eq w4 g4 (h.fs.length * 5) (.int .i64 q'.code) (.int .i64 q'.pc) (.slice FA fn fc) (.slice FB fm fd) (.slice none 0 0)
        have HZ2 := set5_eq (w4.setCell ⟨G, 9, none⟩ (.slice (some ⟨g4, 0, none⟩) (h.fs.length + 1) C4)) g4 (h.fs.length * 5) (.int .i64 q'.code) (.int .i64 q'.pc) (.slice FA fn fc) (.slice FB fm fd) (.slice none 0 0)
        first
          | rw [HZ]
          | rw [HZ2, set_sets_comm hgG']
        have hF9 := WdH.pushF (w1 := w4.setCells g4 (h.fs.length * 5) [.int .i64 q'.code, .int .i64 q'.pc, .slice FA fn fc, .slice FB fm fd, .slice none 0 0]) H8.out #[.int .i64 q'.code, .int .i64 q'.pc, .slice FA fn fc, .slice FB fm fd, .slice none 0 0] q' ((Fr.below HF.out (Below.refl wc.heap.size wc).drew).below (below_new _ _)) _ (own_push_store hown4 (H8.out.fsz) #[.int .i64 q'.code, .int .i64 q'.pc, .slice FA fn fc, .slice FB fm fd, .slice none 0 0] rfl) (grown_push_store hg4 (own_new hv4) _ _)
        have hk9 := fun vz => P7.out.trans ((kp_below (Below.refl wc.heap.size wc).drew).trans ((kp_below (below_new _ (.cells #[.int .i64 0, .int .i64 0, .slice none 0 0, .slice none 0 0, .slice none 0 0] 51))).trans ((kp_oth hg4 (Oth.own (T := 3) H8.out.rF (by decide))).trans ((kp_own hown4 (by decide) (h.fs.length * 5) [.int .i64 q'.code, .int .i64 q'.pc, .slice FA fn fc, .slice FB fm fd, .slice none 0 0]).trans (kp_set (BK4.out.grown (grown_sets _ _ _) (by simpa using hgG')) (by decide) 9 vz)))))
        refine ⟨rfl, q', HR.out, ⟨_, hF9⟩, ?_, hk9 _⟩
        have hb9 := B7.out.trans (((Below.refl base wc).drew.alloc hbs (.cells #[.int .i64 0, .int .i64 0, .slice none 0 0, .slice none 0 0, .slice none 0 0] 51)).trans (own_below H8.out.rF hg4 (Nat.le_refl _) (by simp; omega)))
        exact (below_setCells [.int .i64 q'.code, .int .i64 q'.pc, .slice FA fn fc, .slice FB fm fd, .slice none 0 0] _ hb9 ((hown4.lt g4 rfl).1)).setCell (p := ⟨G, 9, none⟩) H7.out.hG _
set_option maxHeartbeats 4000000 in
set_option maxRecDepth 100000 in
theorem add11_oth (w : World) (base G : Nat) (h : Hd) (st : St) (what ch th : Nat) (v r4 r8 : Int) (x : Mc) (H : WdH w base G 66 h st) (hxe : x = ⟨what, 1, ch, th, r4, r8, v, 0, 0, 0, 0⟩) (h4 : r4 = v % 4) (h8 : r8 = v % 8) (hv : 0 ≤ v) (hown : x.what≠6) (hms : st.ms.length ≤ 1000000) (hfs : h.fs.length ≤ 1000000) :
    Calls Tryz.prog 16 #[.pointer (some ⟨G, 0, none⟩), .int .i64 what, .int .i64 ch, .int .i64 th, .int .u64 v] w fun e w' => e = .returned (.tuple #[]) ∧ Wd w' base G 66 { st with ms := st.ms ++ [x], qs := st.qs ++ [⟨0, 0, [], []⟩] } ∧ Below base w w' ∧ Kp w w' 3 := by
  have e4 : v.tmod 4 = r4 := by rw [Int.tmod_eq_emod_of_nonneg hv, h4]
  have e8 : v.tmod 8 = r8 := by rw [Int.tmod_eq_emod_of_nonneg hv, h8]
  have b4 : 0 ≤ r4 ∧ r4 ≤ 3 := by omega
  have b8 : 0 ≤ r8 ∧ r8 ≤ 7 := by omega
  have u4 : IntKind.u64.wrap r4 = r4 := by rw [wrap_u64]; omega
  have u8 : IntKind.u64.wrap r8 = r8 := by rw [wrap_u64]; omega
  have i4 : IntKind.i64.wrap r4 = r4 := IntWalk.i64_in r4 ⟨by omega, by omega⟩
  have i8 : IntKind.i64.wrap r8 = r8 := IntWalk.i64_in r8 ⟨by omega, by omega⟩
  have bk := H.bk
  have HH := hide H
  have HXE := hide hxe
  rw [Hd.cells] at bk
  obtain ⟨k0, k1, k2, k3, k4, k5, k6, k7, k8, k9, kf⟩ := bk10 bk
  have HNW := hide (fun W => mnew_any W h.A h.n h.c h.B h.m h.d st.th what ch th)
  have HOWN := hide (fun W => own11_no W h.A h.n h.c h.B h.m h.d st.th x hown)
  rw [Mc.cells] at HNW
  clear H hxe bk h4 h8 hown
  go_enter Tryz.func16, Tryz.ntmps16
  go_wp2_with fail
  refine (HNW.out _).mono ?_
  rintro e w1 ⟨rfl, hb1⟩
  have H1 := hide (HH.out.below hb1)
  have HB1 := hide (hb1.mono HH.out.base_le)
  have KP1 := hide (kp_below (T := 3) hb1)
  clear k0 k1 k2 k3 k4 k5 k6 k7 k8 k9 kf hb1 HNW HH
  go_upto_region 2 with fail
  have KM := hide (Bk.new w1 81 #[.int .i64 what, .int .i64 1, .slice h.A h.n h.c, .slice h.B h.m h.d, .int .i64 st.th, .int .i64 ch, .int .i64 th, .int .i64 r4, .int .i64 r8, .int .u64 v, .int .u64 0, .int .u64 0, .int .i64 0, .int .u64 0])
  have H2 := hide (H1.out.alloc (.cells #[.int .i64 what, .int .i64 1, .slice h.A h.n h.c, .slice h.B h.m h.d, .int .i64 st.th, .int .i64 ch, .int .i64 th, .int .i64 r4, .int .i64 r8, .int .u64 v, .int .u64 0, .int .u64 0, .int .i64 0, .int .u64 0] 81))
  have HB2 := hide (HB1.out.trans ((below_new w1 (.cells #[.int .i64 what, .int .i64 1, .slice h.A h.n h.c, .slice h.B h.m h.d, .int .i64 st.th, .int .i64 ch, .int .i64 th, .int .i64 r4, .int .i64 r8, .int .u64 v, .int .u64 0, .int .u64 0, .int .i64 0, .int .u64 0] 81)).mono H1.out.base_le))
  have hGp : G < w1.heap.size := H1.out.bk.lt
  have HNR := hide (show h.vL.ownBlock ≠ some w1.heap.size from fun e => Nat.lt_irrefl _ (H1.out.rL.lt _ e).2)
  have KP2 := hide (KP1.out.trans (kp_below (T := 3) (below_new w1 (.cells #[.int .i64 what, .int .i64 1, .slice h.A h.n h.c, .slice h.B h.m h.d, .int .i64 st.th, .int .i64 ch, .int .i64 th, .int .i64 r4, .int .i64 r8, .int .u64 v, .int .u64 0, .int .u64 0, .int .i64 0, .int .u64 0] 81))))
  clear H1 HB1 KP1
  generalize w1.alloc (.cells #[.int .i64 what, .int .i64 1, .slice h.A h.n h.c, .slice h.B h.m h.d, .int .i64 st.th, .int .i64 ch, .int .i64 th, .int .i64 r4, .int .i64 r8, .int .u64 v, .int .u64 0, .int .u64 0, .int .i64 0, .int .u64 0] 81) = wm at *
  generalize w1.heap.size = p10 at *
  have hbp : base ≤ p10 := Nat.le_trans H2.out.hG (Nat.le_of_lt hGp)
  go_cut [] (fun wx => ∃ vL', WdH wx base G 66 { h with vL := vL' } { st with ms := st.ms ++ [x] } ∧ Bk wx p10 81 #[.int .i64 what, .int .i64 1, .slice h.A h.n h.c, .slice h.B h.m h.d, .int .i64 st.th, .int .i64 ch, .int .i64 th, .int .i64 r4, .int .i64 r8, .int .u64 v, .int .u64 0, .int .u64 0, .int .i64 0, .int .u64 0] ∧ Below base w wx ∧ Kp w wx 3)
  case first =>
    have bk := H2.out.bk
    have hGl := bk.lt
    rw [Hd.cells] at bk
    obtain ⟨-, -, -, -, -, -, k6, -, -, -, kf⟩ := bk10 bk
    obtain ⟨m0, m1, m2, m3, m4, m5, m6, m7, m8, m9, m10, m11, m12, m13, -⟩ := bk14 KM.out
    have hpl := KM.out.lt
    have hbs := H2.out.base_le
    have hms2 : st.ms.length ≤ 1073741824 := by omega
    obtain ⟨i0, hi0, hz0, hz1, hz2⟩ := info_parts Tryz.mcz_inf
    clear bk
    go_region_law (first
      | (refine step_push3 ((wm.drew).alloc (.cells #[.int .i64 what, .int .i64 1, .slice h.A h.n h.c, .slice h.B h.m h.d, .int .i64 st.th, .int .i64 ch, .int .i64 th, .int .i64 r4, .int .i64 r8, .int .u64 v, .int .u64 0, .int .u64 0, .int .i64 0, .int .u64 0] 81)) (by rfl) (.tmp 36) (.tmp 38) _ (by rfl) base 81 i0 _ 14 144 Tryz.underlying60 hi0 hz0 hz1 hz2 (by rfl) (by decide) _ _ _ (by rfl) ((H2.out.below (Below.refl wm.heap.size wm).drew).alloc _).rL [.int .i64 what, .int .i64 1, .slice h.A h.n h.c, .slice h.B h.m h.d, .int .i64 st.th, .int .i64 ch, .int .i64 th, .int .i64 r4, .int .i64 r8, .int .u64 v, .int .u64 0, .int .u64 0, .int .i64 0, .int .u64 0] ⟨wm.heap.size, 0, none⟩ (by rfl) (cells_new (wm.drew) _ _) (by rfl) (by simp [Value.oneCell']) hms2 (by omega) (by simp; omega) ?_; intro v4 w4 hown4 hg4 hv4; obtain ⟨A4, C4, rfl, -⟩ := own_form hown4; have bk5' := ((H2.out.below (Below.refl wm.heap.size wm).drew).alloc (.cells #[.int .i64 what, .int .i64 1, .slice h.A h.n h.c, .slice h.B h.m h.d, .int .i64 st.th, .int .i64 ch, .int .i64 th, .int .i64 r4, .int .i64 r8, .int .u64 v, .int .u64 0, .int .u64 0, .int .i64 0, .int .u64 0] 81)).bk.oth hg4 (Oth.own ((H2.out.below (Below.refl wm.heap.size wm).drew).alloc _).rL H2.out.tw.2.2.1); have BK4 := hide bk5'; rw [Hd.cells] at bk5'; obtain ⟨-, -, -, -, -, -, y6, -, -, -, yf⟩ := bk10 bk5'; clear bk5'))
    all_goals
      go_wp2_with fail
      go_meet
      case rel =>
        refine ⟨_, ((H2.out.below (Below.refl wm.heap.size wm).drew).alloc _).pushL x _ ?_ hg4, ?_, ?_, ?_⟩
        · rw [HXE.out]; exact hown4
        · have r := ((H2.out.below (Below.refl wm.heap.size wm).drew).alloc (.cells #[.int .i64 what, .int .i64 1, .slice h.A h.n h.c, .slice h.B h.m h.d, .int .i64 st.th, .int .i64 ch, .int .i64 th, .int .i64 r4, .int .i64 r8, .int .u64 v, .int .u64 0, .int .u64 0, .int .i64 0, .int .u64 0] 81)).rL
          have hrl := H2.out.rL
          refine Bk.far (Bk.grown ((KM.out.below (Below.refl wm.heap.size wm).drew KM.out.lt).alloc _) hg4 ?_) (by show p10 ≠ G; omega) _
          exact fun e => HNR.out e.symm
        · exact (HB2.out.trans (((Below.refl base wm).drew.alloc hbs _).trans (own_below ((H2.out.below (Below.refl wm.heap.size wm).drew).alloc _).rL hg4 (Nat.le_refl _) (by simp; omega)))).setCell (p := ⟨G, 6, none⟩) H2.out.hG _
        · exact KP2.out.trans ((kp_below (Below.refl wm.heap.size wm).drew).trans ((kp_below (below_new _ _)).trans (kp_push ((H2.out.below (Below.refl wm.heap.size wm).drew).alloc _).rL hg4 ((H2.out.below (Below.refl wm.heap.size wm).drew).alloc (.cells #[.int .i64 what, .int .i64 1, .slice h.A h.n h.c, .slice h.B h.m h.d, .int .i64 st.th, .int .i64 ch, .int .i64 th, .int .i64 r4, .int .i64 r8, .int .u64 v, .int .u64 0, .int .u64 0, .int .i64 0, .int .u64 0] 81)).bk (by decide) (by decide) (by decide))))
  case rest =>
    obtain ⟨vL', h3, k3, b3, p3⟩ := hcut
    have P3 := hide p3
    have H3 := hide h3
    have K3 := hide k3
    have B3 := hide b3
    have hbw := h3.base_le
    clear h3 k3 b3 p3 H2 HB2 KM KP2
    have HOWN2 := HOWN
    rw [HXE.out, Mc.cells] at HOWN2
    obtain ⟨m0, m1, m2, m3, m4, m5, m6, m7, m8, m9, m10, m11, m12, m13, -⟩ := bk14 K3.out
    have hpl := K3.out.lt
    go_wp2_with fail
    refine (HOWN2.out _).mono ?_
    rintro e w5 ⟨rfl, hb5⟩
    have hx5 := (below_new wc (.cells #[.int .i64 0, .int .i64 0, .slice none 0 0, .slice none 0 0, .slice none 0 0] 51)).trans (hb5.mono (by simp))
    have H5 := hide (H3.out.below hx5)
    have K5 := hide (K3.out.below hx5 K3.out.lt)
    have F5 := hide ((Bk.new wc 51 #[.int .i64 0, .int .i64 0, .slice none 0 0, .slice none 0 0, .slice none 0 0]).below hb5 (by simp))
    have B5 := hide (B3.out.trans (hx5.mono hbw))
    have P5 := hide (P3.out.trans (kp_below (T := 3) hx5))
    have hNF := hide (show h.vF.ownBlock ≠ some wc.heap.size from fun e => Nat.lt_irrefl _ (H3.out.rF.lt _ e).2)
    have hG5 : G < wc.heap.size := H3.out.bk.lt
    have hp5 : p10 < wc.heap.size := K3.out.lt
    clear m0 m1 m2 m3 m4 m5 m6 m7 m8 m9 m10 m11 m12 m13 hb5 hx5 H3 K3 B3 P3 HOWN HOWN2
    generalize wc.heap.size = p11 at *
    have HF := hide (show FrA w5 #[.int .i64 0, .int .i64 0, .slice none 0 0, .slice none 0 0, .slice none 0 0] ⟨0, 0, [], []⟩ from ⟨none, 0, 0, none, 0, 0, rfl, IsI.nil _ _ _, IsI.nil _ _ _, by omega, by omega, TyA.nil _ _ _, TyA.nil _ _ _⟩)
    have bk := H5.out.bk
    rw [Hd.cells] at bk
    obtain ⟨-, -, -, -, -, -, -, -, -, k9, kf⟩ := bk10 bk
    obtain ⟨e0, e1, e2, e3, e4', -⟩ := bk5 F5.out
    have hGl := bk.lt
    have hFl := F5.out.lt
    have hbs := H5.out.base_le
    have hfs2 : h.fs.length ≤ 1073741824 := by omega
    have d1 : decide ((h.fs.length : Int) < 0) = false := by simp
    have d2 : decide (h.fs.length + 1 ≤ h.fs.length) = false := by simp
    have dl : (h.fs.length : Int) < (h.fs.length : Int) + 1 := by omega
    obtain ⟨i0, hi0, hz0, hz1, hz2⟩ := info_parts Tryz.frz_inf
    clear bk K5
    have H8 := hide ((H5.out.below (Below.refl w5.heap.size w5).drew).alloc (.cells #[.int .i64 0, .int .i64 0, .slice none 0 0, .slice none 0 0, .slice none 0 0] 51))
    have rF8 := H8.out.rF
    obtain ⟨VA, VC, eV, -⟩ := own_form rF8
    dsimp only at eV
    dsimp only at rF8
    rw [eV] at rF8 k9
    have EV := hide eV
    have RF8 := hide rF8
    clear eV rF8
    go_upto_region 6 with fail
    go_region_law (first
      | (refine step_push3 ((w5.drew).alloc (.cells #[.int .i64 0, .int .i64 0, .slice none 0 0, .slice none 0 0, .slice none 0 0] 51)) (by rfl) (.tmp 55) (.tmp 58) _ (by rfl) base 51 i0 _ 5 88 Tryz.underlying49 hi0 hz0 hz1 hz2 (by rfl) (by decide) _ _ _ (by rfl) RF8.out [.int .i64 0, .int .i64 0, .slice none 0 0, .slice none 0 0, .slice none 0 0] ⟨w5.heap.size, 0, none⟩ (by rfl) (cells_new (w5.drew) _ _) (by rfl) (by simp [Value.oneCell']) hfs2 (by omega) (by simp; omega) ?_; intro v4 w4 hown4 hg4 hv4; rw [← EV.out] at hg4 hv4; obtain ⟨g4, C4, rfl, -, -⟩ := hown4.form (Nat.succ_pos _); have bk5' := H8.out.bk.oth hg4 (Oth.own H8.out.rF H8.out.tw.2.2.2.2.2); have BK4 := hide bk5'; rw [Hd.cells] at bk5'; obtain ⟨-, -, -, -, -, -, -, -, -, y9, yf⟩ := bk10 bk5'; have HF4 := hide (Bk.grown (((F5.out.below (Below.refl w5.heap.size w5).drew F5.out.lt).alloc _)) hg4 (fun e => hNF.out e.symm)); obtain ⟨z0, z1, z2, z3, z4, -⟩ := bk5 HF4.out; have hcell := own_last hown4; obtain ⟨x0, x1, x2, x3, x4⟩ := rg5 hcell; have xf := fun j => hown4.frozenAt j; have hgG := own_ne hown4 BK4.out H8.out.tw.2.2.2.2.2; have hgG' := fun e => hgG (Eq.symm e); clear bk5'))
    all_goals
      go_wp2
      refine bodyPost_end (v := .tuple #[]) (by simp [results, Tryz.results16, go_sem]) rfl ?_
      have HZ := set5_eq w4 g4 (h.fs.length * 5) (.int .i64 0) (.int .i64 0) (.slice none 0 0) (.slice none 0 0) (.slice none 0 0)
      have HZ2 := set5_eq (w4.setCell ⟨G, 9, none⟩ (.slice (some ⟨g4, 0, none⟩) (h.fs.length + 1) C4)) g4 (h.fs.length * 5) (.int .i64 0) (.int .i64 0) (.slice none 0 0) (.slice none 0 0) (.slice none 0 0)
      first
        | rw [HZ]
        | rw [HZ2, set_sets_comm hgG']
      have hF9 := WdH.pushF (w1 := w4.setCells g4 (h.fs.length * 5) [.int .i64 0, .int .i64 0, .slice none 0 0, .slice none 0 0, .slice none 0 0]) H8.out #[.int .i64 0, .int .i64 0, .slice none 0 0, .slice none 0 0, .slice none 0 0] ⟨0, 0, [], []⟩ ((Fr.below HF.out (Below.refl w5.heap.size w5).drew).below (below_new _ _)) _ (own_push_store hown4 (H8.out.fsz) #[.int .i64 0, .int .i64 0, .slice none 0 0, .slice none 0 0, .slice none 0 0] rfl) (grown_push_store hg4 (own_new hv4) _ _)
      have hk9 := fun vz => P5.out.trans ((kp_below (Below.refl w5.heap.size w5).drew).trans ((kp_below (below_new _ (.cells #[.int .i64 0, .int .i64 0, .slice none 0 0, .slice none 0 0, .slice none 0 0] 51))).trans ((kp_oth hg4 (Oth.own (T := 3) H8.out.rF (by decide))).trans ((kp_own hown4 (by decide) (h.fs.length * 5) [.int .i64 0, .int .i64 0, .slice none 0 0, .slice none 0 0, .slice none 0 0]).trans (kp_set (BK4.out.grown (grown_sets _ _ _) (by simpa using hgG')) (by decide) 9 vz)))))
      refine ⟨rfl, ⟨_, hF9⟩, ?_, hk9 _⟩
      have hb9 := B5.out.trans (((Below.refl base w5).drew.alloc hbs (.cells #[.int .i64 0, .int .i64 0, .slice none 0 0, .slice none 0 0, .slice none 0 0] 51)).trans (own_below H8.out.rF hg4 (Nat.le_refl _) (by simp; omega)))
      exact (below_setCells [.int .i64 0, .int .i64 0, .slice none 0 0, .slice none 0 0, .slice none 0 0] _ hb9 ((hown4.lt g4 rfl).1)).setCell (p := ⟨G, 9, none⟩) H5.out.hG _
end Go.Proofs.YtepngbdjobckbaaGreat
end
section
namespace Go.Proofs.YtepngbdjobckbaaGreat
open Go.RowKit
set_option linter.unusedVariables false
end Go.Proofs.YtepngbdjobckbaaGreat
end
section
namespace Go.Proofs.YtepngbdjobckbaaGreat
open Go.RowKit
set_option linter.unusedVariables false
set_option maxHeartbeats 1000000 in
theorem one11_ty (w : World) :
    Calls Tryz.prog 15 #[] w fun e w' => ∃ A B, e = .returned (.agg #[.slice A 1 1, .slice B 1 1, .int .i64 2]) ∧ Cf w' A 1 [1] ∧ TyA w' A 1 3 ∧ IsI .u64 w' B 1 [0] ∧ Below w.heap.size w w' := by
  go_enter Tryz.func15, Tryz.ntmps15
  go_wp2
  exact bodyPost_ret (v := .agg #[.slice (some ⟨w.heap.size + 1, 0, none⟩) 1 1, .slice (some ⟨w.heap.size + 1 + 1, 0, none⟩) 1 1, .int .i64 2]) (by simp [results, Tryz.results15, go_sem]) rfl
    ⟨_, _, rfl, ⟨by simpa using (isI_one (w := w.alloc _) (t := 3) (k := .i64) 1).alloc _, by omega, fun x hx => by simp at hx; omega⟩, TyA.bk ((mkb (by simp)).alloc _) 0 1, by simpa using isI_one (w := (w.alloc _).alloc _) (t := 42) (k := .u64) 0, ((below_new _ _).alloc (by simp) _).alloc (by simp; omega) _⟩
end Go.Proofs.YtepngbdjobckbaaGreat
end
