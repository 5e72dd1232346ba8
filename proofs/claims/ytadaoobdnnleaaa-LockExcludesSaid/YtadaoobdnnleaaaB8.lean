/- Contracts: a step of a machine that has ended, and of one that is not the law's own. -/
import Derived.Test.YtadaoobdnnleaaaB6
namespace Go.Proofs.Ytadaoobdnnleaaa
open Go.RowKit
set_option linter.unusedVariables false
set_option maxHeartbeats 1000000 in
set_option maxRecDepth 100000 in
theorem Step_end (w : World) (base G i : Nat) (TW : TypeId) (h : Hd) (st : St) (x : Mc) (H : WdH w base G TW h st) (hx : st.ms[i]? = some x) (hat : x.at_ = 0) :
    Calls Try.prog 57 #[.pointer (some ⟨G, 0, none⟩), .int .i64 i] w fun e w' => e = .returned (.tuple #[.agg #[.int .u64 0, .bool false, .bool false, .slice none 0 0], .bool false]) ∧ Below w.heap.size w w' := by
  obtain ⟨what, at_, ch, th, ix, kd, v, tt, hh, ok, ov⟩ := x
  dsimp only at hat
  subst hat
  have hi : i < st.ms.length := (List.getElem?_eq_some_iff.1 hx).1
  obtain ⟨gL, cL, eL, hgL⟩ := H.rowL hi
  have bk := H.bk
  rw [Hd.cells, eL] at bk
  have hr := H.rL
  rw [eL] at hr
  have hrg := own_range (mcs_len h st) hr hx
  have d1 : decide ((i : Int) < 0) = false := by simp
  have d2 : decide (st.ms.length ≤ i) = false := by simp; omega
  have hGlt := bk.lt
  have hLlt := (hr.lt gL rfl).2
  obtain ⟨k0, k1, k2, k3, k4, k5, k6, k7, k8, k9, kf⟩ := bk10 bk
  obtain ⟨m0, m1, m2, m3, m4, m5, m6, m7, m8, m9, m10, m11, m12, m13⟩ := rg14 hrg
  clear H hx hr hrg bk eL
  go_enter Try.func57, Try.ntmps57
  go_wp2
  exact bodyPost_ret (v := .tuple #[.agg #[.int .u64 0, .bool false, .bool false, .slice none 0 0], .bool false]) (by simp [results, Try.results57, go_sem]) rfl
    ⟨rfl, by first | exact below_new _ _ | exact ((((below_new _ _).setCell (by simp) _).setCell (by simp) _).setCell (by simp) _).setCell (by simp) _⟩
set_option maxHeartbeats 2000000 in
set_option maxRecDepth 100000 in
theorem step7_end (w : World) (G i : Nat)
    (HSame : ∀ W, Below w.heap.size w W → Calls Try.prog 56 #[.pointer (some ⟨G, 0, none⟩), .int .i64 i] W fun e w' => e = .returned (.bool true) ∧ Below W.heap.size W w')
    (HStep : ∀ W, Below w.heap.size w W → Calls Try.prog 57 #[.pointer (some ⟨G, 0, none⟩), .int .i64 i] W fun e w' => e = .returned (.tuple #[.agg #[.int .u64 0, .bool false, .bool false, .slice none 0 0], .bool false]) ∧ Below W.heap.size W w') :
    Calls Try.prog 24 #[.pointer (some ⟨G, 0, none⟩), .int .i64 i] w fun e w' => e = .returned (.bool true) ∧ Below w.heap.size w w' := by
  have H1 := hide HSame
  have H2 := hide HStep
  clear HSame HStep
  go_enter Try.func24, Try.ntmps24
  go_wp2_with fail
  refine (H1.out _ (Below.refl _ _)).mono ?_
  rintro e w1 ⟨rfl, hb1⟩
  have HB1 := hide hb1
  clear hb1
  go_wp2_with fail
  refine (H2.out _ HB1.out).mono ?_
  rintro e w2 ⟨rfl, hb2⟩
  have HB2 := hide ((HB1.out.trans (hb2.mono HB1.out.size)).trans ((below_new w2 (.cells #[.int .u64 0, .bool false, .bool false, .slice none 0 0] 63)).mono (Nat.le_trans HB1.out.size hb2.size)))
  clear hb2 HB1 H2
  go_wp2_with fail
  refine (H1.out _ HB2.out).mono ?_
  rintro e w3 ⟨rfl, hb3⟩
  have HB3 := hide (HB2.out.trans (hb3.mono HB2.out.size))
  clear hb3 HB2 H1
  go_wp2
  go_ret
  exact ⟨rfl, HB3.out⟩
set_option maxHeartbeats 2000000 in
set_option maxRecDepth 100000 in
theorem step7_oth (w : World) (base G i : Nat) (s1 : St) (x : Mc) (va : Int) (ya : Bool) (hbG : base ≤ G) (hGw : G < w.heap.size) (hx : s1.ms[i]? = some x) (hown : 2<x.what)
    (HSame : Calls Try.prog 56 #[.pointer (some ⟨G, 0, none⟩), .int .i64 i] w fun e w' => e = .returned (.bool true) ∧ Below w.heap.size w w')
    (HStep : ∀ W, Below w.heap.size w W → Calls Try.prog 57 #[.pointer (some ⟨G, 0, none⟩), .int .i64 i] W fun e w' => e = .returned (.tuple #[.agg #[.int .u64 va, .bool ya, .bool false, .slice none 0 0], .bool true]) ∧ Wd w' base G 43 s1 ∧ Below base W w')
    (HSame2 : ∀ W, Wd W base G 43 s1 → Calls Try.prog 56 #[.pointer (some ⟨G, 0, none⟩), .int .i64 i] W fun e w' => e = .returned (.bool true) ∧ Below W.heap.size W w') :
    Calls Try.prog 24 #[.pointer (some ⟨G, 0, none⟩), .int .i64 i] w fun e w' => e = .returned (.bool true) ∧ Wd w' base G 43 s1 ∧ Below base w w' := by
  obtain ⟨what, at_, ch, th, ix, kd, v, tt, hh, ok, ov⟩ := x
  have hi : i < s1.ms.length := (List.getElem?_eq_some_iff.1 hx).1
  have H1 := hide HSame
  have H2 := hide HStep
  have H4 := hide HSame2
  have HX := hide hx
  have d1 : decide ((i : Int) < 0) = false := by simp
  have d2 : decide (s1.ms.length ≤ i) = false := by simp; omega
  clear HSame HStep HSame2 hx
  go_enter Try.func24, Try.ntmps24
  go_wp2_with fail
  refine H1.out.mono ?_
  rintro e w1 ⟨rfl, hb1⟩
  have HB1 := hide hb1
  clear hb1 H1
  go_wp2_with fail
  refine (H2.out _ HB1.out).mono ?_
  rintro e w2 ⟨rfl, hwd, hb2⟩
  obtain ⟨h, hh2⟩ := hwd
  have hb2' := (HB1.out.mono (Nat.le_trans hbG (Nat.le_of_lt hGw))).trans hb2
  have HB2 := hide hb2'
  have HW := hide hh2
  clear hb2 hb2' hh2 HB1 H2
  obtain ⟨gL, cL, eL, hgL⟩ := HW.out.rowL hi
  have bk := HW.out.bk
  rw [Hd.cells, eL] at bk
  have hr := HW.out.rL
  rw [eL] at hr
  have hrg := own_range (mcs_len h s1) hr HX.out
  have hGl := bk.lt
  have hLl := (hr.lt gL rfl).2
  have hbs := HW.out.base_le
  have HOWN := hide (fun W => own7_no W h.A h.n h.c h.B h.m h.d s1.th ⟨what, at_, ch, th, ix, kd, v, tt, hh, ok, ov⟩ hown)
  rw [Mc.cells] at HOWN
  obtain ⟨k0, k1, k2, k3, k4, k5, k6, k7, k8, k9, kf⟩ := bk10 bk
  obtain ⟨m0, m1, m2, m3, m4, m5, m6, m7, m8, m9, m10, m11, m12, m13⟩ := rg14 hrg
  clear hr eL bk hrg
  go_wp2_with fail
  refine (HOWN.out _).mono ?_
  rintro e w3 ⟨rfl, hb3⟩
  clear k0 k1 k2 k3 k4 k5 k6 k7 k8 k9 kf m0 m1 m2 m3 m4 m5 m6 m7 m8 m9 m10 m11 m12 m13
  have hx3 := (below_new w2 (.cells #[.int .u64 va, .bool ya, .bool false, .slice none 0 0] 63)).trans (hb3.mono (by simp))
  have W3 := hide (HW.out.below hx3)
  have HB3 := hide (HB2.out.trans (hx3.mono hbs))
  have hbs3 := W3.out.base_le
  clear hb3 hx3 HB2 HW hGl hLl HOWN
  go_wp2_with fail
  refine (H4.out _ ⟨_, W3.out⟩).mono ?_
  rintro e w4 ⟨rfl, hb4⟩
  have HB4 := hide hb4
  clear hb4 H4
  go_wp2
  go_ret
  exact ⟨rfl, ⟨_, W3.out.below HB4.out⟩, HB3.out.trans (HB4.out.mono hbs3)⟩
end Go.Proofs.Ytadaoobdnnleaaa
