/- Contract: a step of the machines of a law's world (from what same, Step and Resume are known to do). -/
import Derived.Test.YtadaoobdnnleaaaB6
import Derived.Test.YtadaoobdnnleaaaW
import Derived.Deep.RegionHeld3
import Derived.Deep.RegionLaw
import Derived.Deep.DeepCutAuto
import Derived.Deep.DrawnRows
namespace Go.Proofs.Ytadaoobdnnleaaa
open Go.RowKit
set_option linter.unusedVariables false
theorem WdH.frozF {w : World} {base G g n c : Nat} {TW : TypeId} {h : Hd} {st : St} (H : WdH w base G TW h st) (hv : h.vF = .slice (some ⟨g, 0, none⟩) n c) : ∀ j, w.frozen? ⟨g, j, none⟩ = false := by
  have hr := H.rF
  rw [hv] at hr
  rcases hr.2 with ⟨h1, _⟩ | ⟨g', c', cur, h1, h2, h3, _⟩
  · cases h1
  · cases h1
    intro j
    exact frozen_of_row w _ j cur _ h3
theorem Wd.base_le {w : World} {base G : Nat} {TW : TypeId} {st : St} (H : Wd w base G TW st) : base ≤ w.heap.size := by
  obtain ⟨h, H⟩ := H
  exact H.base_le
set_option maxHeartbeats 4000000 in
set_option maxRecDepth 100000 in
theorem step7_own (w : World) (base G i : Nat) (s1 : St) (x : Mc) (q : Fa) (va : Int) (ya : Bool) (R : Fa → Prop) (hbG : base ≤ G) (hGw : G < w.heap.size) (hx : s1.ms[i]? = some x) (hq : s1.qs[i]? = some q) (hown : x.what≤2)
    (HSame : Calls Try.prog 56 #[.pointer (some ⟨G, 0, none⟩), .int .i64 i] w fun e w' => e = .returned (.bool true) ∧ Below w.heap.size w w')
    (HStep : ∀ W, Below w.heap.size w W → Calls Try.prog 57 #[.pointer (some ⟨G, 0, none⟩), .int .i64 i] W fun e w' => e = .returned (.tuple #[.agg #[.int .u64 va, .bool ya, .bool false, .slice none 0 0], .bool true]) ∧ Wd w' base G 43 s1 ∧ Below base W w')
    (HRes : ∀ W cs, FrA W cs q → Calls Try.prog 27 #[.agg cs, .agg #[.int .u64 va, .bool ya, .bool false, .slice none 0 0]] W fun e w' => ∃ cs' q', e = .returned (.agg cs') ∧ FrA w' cs' q' ∧ R q' ∧ Below W.heap.size W w')
    (HSame2 : ∀ W q', R q' → Wd W base G 43 { s1 with qs := s1.qs.set i q' } → Calls Try.prog 56 #[.pointer (some ⟨G, 0, none⟩), .int .i64 i] W fun e w' => e = .returned (.bool true) ∧ Below W.heap.size W w') :
    Calls Try.prog 24 #[.pointer (some ⟨G, 0, none⟩), .int .i64 i] w fun e w' => e = .returned (.bool true) ∧ ∃ q', R q' ∧ Wd w' base G 43 { s1 with qs := s1.qs.set i q' } ∧ Below base w w' := by
  obtain ⟨what, at_, ch, th, ix, kd, v, tt, hh, ok, ov⟩ := x
  have hi : i < s1.ms.length := (List.getElem?_eq_some_iff.1 hx).1
  have H1 := hide HSame
  have H2 := hide HStep
  have H3 := hide HRes
  have H4 := hide HSame2
  have HX := hide hx
  have HQ := hide hq
  have d1 : decide ((i : Int) < 0) = false := by simp
  have d2 : decide (s1.ms.length ≤ i) = false := by simp; omega
  clear HSame HStep HRes HSame2 hx hq
  go_enter Try.func24, Try.ntmps24
  go_wp2_with fail
  refine H1.out.mono ?_
  rintro e w1 ⟨rfl, hb1⟩
  have HB1 := hide hb1
  clear hb1 H1
  go_wp2_with fail
  refine (H2.out _ HB1.out).mono ?_
  rintro e w2 ⟨rfl, hwd, hb2⟩
  obtain ⟨h, hh2⟩ := hwd
  have hb2' := (HB1.out.mono (Nat.le_trans hbG (Nat.le_of_lt hGw))).trans hb2
  have HB2 := hide hb2'
  have HW := hide hh2
  clear hb2 hb2' hh2 HB1 H2
  obtain ⟨gL, cL, eL, hgL⟩ := HW.out.rowL hi
  have bk := HW.out.bk
  rw [Hd.cells, eL] at bk
  have hr := HW.out.rL
  rw [eL] at hr
  have hrg := own_range (mcs_len h s1) hr HX.out
  have hGl := bk.lt
  have hLl := (hr.lt gL rfl).2
  have hbs := HW.out.base_le
  have HOWN := hide (fun W => own7_yes W h.A h.n h.c h.B h.m h.d s1.th ⟨what, at_, ch, th, ix, kd, v, tt, hh, ok, ov⟩ hown)
  rw [Mc.cells] at HOWN
  obtain ⟨k0, k1, k2, k3, k4, k5, k6, k7, k8, k9, kf⟩ := bk10 bk
  obtain ⟨m0, m1, m2, m3, m4, m5, m6, m7, m8, m9, m10, m11, m12, m13⟩ := rg14 hrg
  clear hr eL bk hrg
  go_wp2_with fail
  refine (HOWN.out _).mono ?_
  rintro e w3 ⟨rfl, hb3⟩
  clear k0 k1 k2 k3 k4 k5 k6 k7 k8 k9 kf m0 m1 m2 m3 m4 m5 m6 m7 m8 m9 m10 m11 m12 m13
  have hx3 := (below_new w2 (.cells #[.int .u64 va, .bool ya, .bool false, .slice none 0 0] 63)).trans (hb3.mono (by simp))
  have K3 : Hid (Bk w3 w2.heap.size 63 #[.int .u64 va, .bool ya, .bool false, .slice none 0 0]) := hide ((Bk.new w2 63 #[.int .u64 va, .bool ya, .bool false, .slice none 0 0]).below hb3 (by simp))
  have W3 := hide (HW.out.below hx3)
  have HB3 := hide (HB2.out.trans (hx3.mono hbs))
  clear hb3 hx3 HB2 HW hGl hLl HOWN
  go_upto_region 5 with fail
  go_cut [] (fun wx => ∃ q', R q' ∧ Wd wx base G 43 { s1 with qs := s1.qs.set i q' } ∧ Below base w wx)
  case first =>
    obtain ⟨FA, fn, fc, FB, fm, fd, gF, cF, hfr, -, eF, hif, hrF⟩ := W3.out.frame HQ.out
    have hgF : base ≤ gF := by
      obtain ⟨g2, c2, e2, h2⟩ := W3.out.rowF hif
      rw [eF] at e2
      cases e2
      exact h2
    have d3 : decide (h.fs.length ≤ i) = false := by simp; omega
    have bk := W3.out.bk
    rw [Hd.cells, eF] at bk
    obtain ⟨-, -, -, -, -, -, -, -, -, k9, kf⟩ := bk10 bk
    obtain ⟨f0, f1, f2, f3, f4⟩ := rg5 hrF
    obtain ⟨q0, q1, q2, q3, -⟩ := bk4 K3.out
    have HRF := hide hrF
    have HFR := hide hfr
    have EF := hide eF
    have hb3s := W3.out.base_le
    clear bk hrF hfr eF
    go_region_law (first
      | (refine step_call _ (by rfl) 27 _ (by go_simp) (H3.out w3.drew _ (Fr.below HFR.out (Below.refl w3.heap.size w3).drew)) ?_; rintro e w4 ⟨cs', q', rfl, hf', hR', hb4⟩; refine ⟨_, rfl, ?_⟩; have hb4 := (Below.refl w3.heap.size w3).drew.trans hb4; have HR := hide hR'; have HF := hide hf'; have W4 := hide (W3.out.below hb4); have HB4 := hide (HB3.out.trans (hb4.mono hb3s)); obtain ⟨FA', fn', fc', FB', fm', fd', rfl, -⟩ := id hf'; obtain ⟨x0, x1, x2, x3, x4⟩ := rg5 (rangeAt_below HRF.out hb4); have bk4' := W4.out.bk; rw [Hd.cells, EF.out] at bk4'; obtain ⟨-, -, -, -, -, -, -, -, -, y9, yf⟩ := bk10 bk4'; have xf := W4.out.frozF EF.out; clear bk4' hf' hR' hb4))
    all_goals
      go_wp2_with fail
      go_meet
      case rel => exact ⟨q', HR.out, ⟨_, W4.out.setQ EF.out i hif _ q' HF.out W4.out.fsz⟩, below_setCells [_, _, _, _, _] (i * 5) HB4.out hgF⟩
  case rest =>
    obtain ⟨q', hR, hW, hB⟩ := hcut
    have X := hide (H4.out wc q' hR hW)
    have HB := hide hB
    have HW := hide hW
    have HR := hide hR
    have hbs := Wd.base_le hW
    clear hR hW hB H4 H3 W3 K3 HB3
    go_wp2_with fail
    refine X.out.mono ?_
    rintro e w5 ⟨rfl, hb5⟩
    have HB5 := hide hb5
    clear hb5
    go_wp2
    go_ret
    exact ⟨rfl, q', HR.out, HW.out.below HB5.out, HB.out.trans (HB5.out.mono hbs)⟩
end Go.Proofs.Ytadaoobdnnleaaa
