/- Contracts: the laws' own machines beside the document's: own, same, step. -/
import Derived.Test.YtadaoobdnnleaaaB2
import Derived.Test.YtadaoobdnnleaaaB3
import Derived.Test.YtadaoobdnnleaaaO2
namespace Go.Proofs.Ytadaoobdnnleaaa
open Go.RowKit
set_option linter.unusedVariables false

/-- The program's frame wants and has ended with what the document's machine does. -/
def Good (NX EN : FuncId) (l : List Int) (x : Mc) (q : Fa) : Prop := ∀ W cs, FrA W cs q →
  (Calls Try.prog NX #[.agg cs] W fun e w' => e = .returned (.agg (Acc.cells (mnext l x))) ∧ Below W.heap.size W w') ∧
  (Calls Try.prog EN #[.agg cs] W fun e w' => e = .returned (.tuple #[.agg #[.int .i64 x.ok, .int .u64 x.ov], .bool ((x.at_ : Int) == 0)]) ∧ Below W.heap.size W w')
set_option maxRecDepth 100000 in
theorem own7_yes (w : World) (A : Option Addr) (n c : Nat) (B : Option Addr) (m d : Nat) (t : Int) (x : Mc) (h : x.what≤2) :
    Calls Try.prog 52 #[.agg (Mc.cells A n c B m d t x)] w fun e w' => e = .returned (.bool true) ∧ Below w.heap.size w w' := by
  obtain ⟨what, at_, ch, th, ix, kd, v, tt, hh, ok, ov⟩ := x
  dsimp only at h
  have hd2 : decide ((what:Int)≤2) = true := by simp <;> omega
  clear h
  rw [Mc.cells]
  go_enter Try.func52, Try.ntmps52
  go_wp2
  go_ret
  exact ⟨ret_eq (by first | rfl | simp [hd2]), below_new _ _⟩
set_option maxRecDepth 100000 in
theorem own7_no (w : World) (A : Option Addr) (n c : Nat) (B : Option Addr) (m d : Nat) (t : Int) (x : Mc) (h : 2<x.what) :
    Calls Try.prog 52 #[.agg (Mc.cells A n c B m d t x)] w fun e w' => e = .returned (.bool false) ∧ Below w.heap.size w w' := by
  obtain ⟨what, at_, ch, th, ix, kd, v, tt, hh, ok, ov⟩ := x
  dsimp only at h
  have hd2 : decide ((what:Int)≤2) = false := by simp <;> omega
  clear h
  rw [Mc.cells]
  go_enter Try.func52, Try.ntmps52
  go_wp2
  go_ret
  exact ⟨ret_eq (by first | rfl | simp [hd2]), below_new _ _⟩
set_option maxHeartbeats 1000000 in
set_option maxRecDepth 100000 in
theorem same7_yes (w : World) (base G i : Nat) (h : Hd) (st : St) (x : Mc) (q : Fa) (H : WdH w base G 43 h st) (hx : st.ms[i]? = some x) (hq : st.qs[i]? = some q) (hmv : Mv h.n x) (hown : x.what≤2) (hgood : Good 28 26 st.l x q) :
    Calls Try.prog 56 #[.pointer (some ⟨G, 0, none⟩), .int .i64 i] w fun e w' => e = .returned (.bool true) ∧ Below w.heap.size w w' := by
  have HN := fun W cs h => (hgood W cs h).1
  have HE := fun W cs h => (hgood W cs h).2
  obtain ⟨bz, hbz⟩ : ∃ b, ((x.at_ : Int) == 0) = b := ⟨_, rfl⟩
  rw [hbz] at HE
  clear hgood
  obtain ⟨what, at_, ch, th, ix, kd, v, tt, hh, ok, ov⟩ := x
  dsimp only at hbz hown HE
  have hi : i < st.ms.length := (List.getElem?_eq_some_iff.1 hx).1
  obtain ⟨gL, cL, eL, hgL⟩ := H.rowL hi
  obtain ⟨FA, fn, fc, FB, fm, fd, gF, cF, hfr, -, eF, hif, hrF⟩ := H.frame hq
  have bk := H.bk
  rw [Hd.cells, eL, eF] at bk
  have hr := H.rL
  rw [eL] at hr
  have hrg := own_range (mcs_len h st) hr hx
  have HOWN := hide (fun W => own7_yes W h.A h.n h.c h.B h.m h.d st.th ⟨what, at_, ch, th, ix, kd, v, tt, hh, ok, ov⟩ hown)
  have HMN := hide (fun W (hW : Below w.heap.size w W) => mnext_any W h.A h.n h.c h.B h.m h.d st.th st.l (H.cf.below hW) ⟨what, at_, ch, th, ix, kd, v, tt, hh, ok, ov⟩ hmv)
  have HN' := hide (fun W (hW : Below w.heap.size w W) => HN W _ (Fr.below hfr hW))
  have HE' := hide (fun W (hW : Below w.heap.size w W) => HE W _ (Fr.below hfr hW))
  have EA := fun W => eq_acc W (mnext st.l ⟨what, at_, ch, th, ix, kd, v, tt, hh, ok, ov⟩) (mnext st.l ⟨what, at_, ch, th, ix, kd, v, tt, hh, ok, ov⟩)
  have EO := fun W => eq_out W ok ov ok ov
  simp only [decide_true, beq_self_eq_true, Bool.and_self] at EA EO
  have BK := hide bk
  have HRG := hide hrg
  have HRF := hide hrF
  have d1 : decide ((i : Int) < 0) = false := by simp
  have d2 : decide (st.ms.length ≤ i) = false := by simp; omega
  have d3 : decide (h.fs.length ≤ i) = false := by simp; omega
  rw [Mc.cells] at HOWN HMN
  rw [Acc.cells] at EA
  have HA : Hid (∃ a, mnext st.l ⟨what, at_, ch, th, ix, kd, v, tt, hh, ok, ov⟩ = a) := hide ⟨_, rfl⟩
  clear H hr hrg hrF hfr HN HE hmv hx hq hown eL eF
  generalize mnext st.l ⟨what, at_, ch, th, ix, kd, v, tt, hh, ok, ov⟩ = a at HMN HN' EA
  have EAH := hide EA
  have EOH := hide EO
  clear EA EO HA
  obtain ⟨k0, k1, k2, k3, k4, k5, k6, k7, k8, k9, kf⟩ := bk10 bk
  obtain ⟨m0, m1, m2, m3, m4, m5, m6, m7, m8, m9, m10, m11, m12, m13⟩ := rg14 HRG.out
  clear bk
  go_enter Try.func56, Try.ntmps56
  go_wp2_with fail
  refine (HOWN.out _).mono ?_
  rintro e w1 ⟨rfl, hb⟩
  have K1 := (Bk.new w 52 (Mc.cells h.A h.n h.c h.B h.m h.d st.th ⟨what, at_, ch, th, ix, kd, v, tt, hh, ok, ov⟩)).below hb (by simp)
  rw [Mc.cells] at K1
  have hb1 := (below_new w (.cells (Mc.cells h.A h.n h.c h.B h.m h.d st.th ⟨what, at_, ch, th, ix, kd, v, tt, hh, ok, ov⟩) 52)).trans (hb.mono (by simp))
  have KM := hide K1
  have HB1 := hide hb1
  have hlt1 := hide (show w.heap.size < w1.heap.size from K1.lt)
  clear hb hb1 K1 k0 k1 k2 k3 k4 k5 k6 k7 k8 k9 kf m0 m1 m2 m3 m4 m5 m6 m7 m8 m9 m10 m11 m12 m13 HOWN HRG
  obtain ⟨-, -, -, -, -, -, -, -, -, k9, kf⟩ := bk10 (BK.out.below HB1.out BK.out.lt)
  obtain ⟨f0, f1, f2, f3, f4⟩ := rg5 (rangeAt_below HRF.out HB1.out)
  go_wp2_with fail
  refine (HE'.out _ HB1.out).mono ?_
  rintro e w2 ⟨rfl, hb⟩
  have hb2 := HB1.out.trans ((hb.trans ((below_new w2 (.cells #[.int .i64 ok, .int .u64 ov] 50)).mono hb.size)).mono HB1.out.size)
  have KM2 := hide ((KM.out.below hb hlt1.out).alloc (.cells #[.int .i64 ok, .int .u64 ov] 50))
  have KO := hide (Bk.new w2 50 #[.int .i64 ok, .int .u64 ov])
  have HB2 := hide hb2
  clear hb hb2 k9 kf f0 f1 f2 f3 f4 KM HE'
  have hu := fun (u : Up (w2.alloc (.cells #[.int .i64 ok, .int .u64 ov] 50))) => HB2.out.trans (u.2.mono HB2.out.size)
  have up2 := fun (u : Up (w2.alloc (.cells #[.int .i64 ok, .int .u64 ov] 50))) => u.2
  have k9 := fun u => (bk10 (BK.out.below (hu u) BK.out.lt)).2.2.2.2.2.2.2.2.2.1
  have f0 := fun u => (rg5 (rangeAt_below HRF.out (hu u))).1
  have f1 := fun u => (rg5 (rangeAt_below HRF.out (hu u))).2.1
  have f2 := fun u => (rg5 (rangeAt_below HRF.out (hu u))).2.2.1
  have f3 := fun u => (rg5 (rangeAt_below HRF.out (hu u))).2.2.2.1
  have f4 := fun u => (rg5 (rangeAt_below HRF.out (hu u))).2.2.2.2
  have m0 := fun u => (bk14 (KM2.out.below (up2 u) KM2.out.lt)).1
  have m1 := fun u => (bk14 (KM2.out.below (up2 u) KM2.out.lt)).2.1
  have m2 := fun u => (bk14 (KM2.out.below (up2 u) KM2.out.lt)).2.2.1
  have m3 := fun u => (bk14 (KM2.out.below (up2 u) KM2.out.lt)).2.2.2.1
  have m4 := fun u => (bk14 (KM2.out.below (up2 u) KM2.out.lt)).2.2.2.2.1
  have m5 := fun u => (bk14 (KM2.out.below (up2 u) KM2.out.lt)).2.2.2.2.2.1
  have m6 := fun u => (bk14 (KM2.out.below (up2 u) KM2.out.lt)).2.2.2.2.2.2.1
  have m7 := fun u => (bk14 (KM2.out.below (up2 u) KM2.out.lt)).2.2.2.2.2.2.2.1
  have m8 := fun u => (bk14 (KM2.out.below (up2 u) KM2.out.lt)).2.2.2.2.2.2.2.2.1
  have m9 := fun u => (bk14 (KM2.out.below (up2 u) KM2.out.lt)).2.2.2.2.2.2.2.2.2.1
  have m10 := fun u => (bk14 (KM2.out.below (up2 u) KM2.out.lt)).2.2.2.2.2.2.2.2.2.2.1
  have m11 := fun u => (bk14 (KM2.out.below (up2 u) KM2.out.lt)).2.2.2.2.2.2.2.2.2.2.2.1
  have m12 := fun u => (bk14 (KM2.out.below (up2 u) KM2.out.lt)).2.2.2.2.2.2.2.2.2.2.2.2.1
  have m13 := fun u => (bk14 (KM2.out.below (up2 u) KM2.out.lt)).2.2.2.2.2.2.2.2.2.2.2.2.2.1
  have o0 := fun u => (bk2 (KO.out.below (up2 u) KO.out.lt)).1
  have o1 := fun u => (bk2 (KO.out.below (up2 u) KO.out.lt)).2.1
  have N1 := hide (fun u => HN'.out _ (hu u))
  have N2 := hide (fun u => HMN.out _ (hu u))
  have hsz2 := hide HB2.out
  clear BK HRF KM2 KO HN' HMN HB2 hu HB1 hlt1 up2
  rw [Acc.cells] at N1 N2
  go_wp2
  have E1 := EAH.out
  have E2 := EOH.out
  refine wp_region_up (by kernel_rfl) (by kernel_rfl) ?_
  repeat (go_big_quiet_step (first
    | (go_at_call 28; exact up_call (N1.out _))
    | (go_at_call 65; exact up_call (N2.out _))))
  refine wpQuiet_nil ?_
  rintro _ ⟨u, rfl⟩
  clear k9 f0 f1 f2 f3 f4 m0 m1 m2 m3 m4 m5 m6 m7 m8 m9 m10 m11 m12 m13 o0 o1
  go_wp2
  go_ret
  exact ⟨rfl, hsz2.out.trans (u.2.mono hsz2.out.size)⟩
set_option maxHeartbeats 1000000 in
set_option maxRecDepth 100000 in
theorem same7_no (w : World) (base G i : Nat) (h : Hd) (st : St) (x : Mc) (H : WdH w base G 43 h st) (hx : st.ms[i]? = some x) (hown : 2<x.what) :
    Calls Try.prog 56 #[.pointer (some ⟨G, 0, none⟩), .int .i64 i] w fun e w' => e = .returned (.bool true) ∧ Below w.heap.size w w' := by
  obtain ⟨what, at_, ch, th, ix, kd, v, tt, hh, ok, ov⟩ := x
  have hi : i < st.ms.length := (List.getElem?_eq_some_iff.1 hx).1
  obtain ⟨gL, cL, eL, hgL⟩ := H.rowL hi
  have bk := H.bk
  rw [Hd.cells, eL] at bk
  have hr := H.rL
  rw [eL] at hr
  have hrg := own_range (mcs_len h st) hr hx
  have HOWN := hide (fun W => own7_no W h.A h.n h.c h.B h.m h.d st.th ⟨what, at_, ch, th, ix, kd, v, tt, hh, ok, ov⟩ hown)
  have d1 : decide ((i : Int) < 0) = false := by simp
  have d2 : decide (st.ms.length ≤ i) = false := by simp; omega
  rw [Mc.cells] at HOWN
  obtain ⟨k0, k1, k2, k3, k4, k5, k6, k7, k8, k9, kf⟩ := bk10 bk
  obtain ⟨m0, m1, m2, m3, m4, m5, m6, m7, m8, m9, m10, m11, m12, m13⟩ := rg14 hrg
  clear H hr hx hown eL bk hrg
  go_enter Try.func56, Try.ntmps56
  go_wp2_with fail
  refine (HOWN.out _).mono ?_
  rintro e w1 ⟨rfl, hb⟩
  have hb1 := hide ((below_new w (.cells (Mc.cells h.A h.n h.c h.B h.m h.d st.th ⟨what, at_, ch, th, ix, kd, v, tt, hh, ok, ov⟩) 52)).trans (hb.mono (by simp)))
  clear hb k0 k1 k2 k3 k4 k5 k6 k7 k8 k9 kf m0 m1 m2 m3 m4 m5 m6 m7 m8 m9 m10 m11 m12 m13 HOWN
  go_wp2
  go_ret
  exact ⟨rfl, hb1.out⟩
end Go.Proofs.Ytadaoobdnnleaaa
