/- The walk of LayoutDistinct. -/
import Derived.Test.YtcaencocmfkfaaaJ0
import Derived.Deep.OwnRows
namespace Go.Proofs.Ytcaencocmfkfaaa
open Go.RowKit
set_option linter.unusedVariables false
set_option linter.unusedSimpArgs false
theorem Try.bool_inf : (Try.prog.info? 4).map (fun i => (i.zero, i.size, i.bytes)) = some (some (.bool false), 1, 1) := by kernel_rfl
structure E4V (w w2 : World) (t1 t2 t3 t4 : TypeId) (c1 c2 c3 c4 : Array Value) : Prop where
  b1 : Bk w2 w.heap.size t1 c1
  b2 : Bk w2 (w.heap.size + 1) t2 c2
  b3 : Bk w2 (w.heap.size + 1 + 1) t3 c3
  b4 : Bk w2 (w.heap.size + 1 + 1 + 1) t4 c4
  bel : Below w.heap.size w w2
theorem E4V.of {w w2 : World} {t1 t2 t3 t4 : TypeId} {c1 c2 c3 c4 : Array Value}
    (hb : Below ((((w.alloc (.cells c1 t1)).alloc (.cells c2 t2)).alloc (.cells c3 t3)).alloc (.cells c4 t4)).heap.size ((((w.alloc (.cells c1 t1)).alloc (.cells c2 t2)).alloc (.cells c3 t3)).alloc (.cells c4 t4)) w2) : E4V w w2 t1 t2 t3 t4 c1 c2 c3 c4 := by
  have h1 : Bk ((((w.alloc (.cells c1 t1)).alloc (.cells c2 t2)).alloc (.cells c3 t3)).alloc (.cells c4 t4)) w.heap.size t1 c1 := (((Bk.new w t1 c1).alloc _).alloc _).alloc _
  have h2 : Bk ((((w.alloc (.cells c1 t1)).alloc (.cells c2 t2)).alloc (.cells c3 t3)).alloc (.cells c4 t4)) (w.heap.size + 1) t2 c2 := by simpa using ((Bk.new (w.alloc (.cells c1 t1)) t2 c2).alloc _).alloc _
  have h3 : Bk ((((w.alloc (.cells c1 t1)).alloc (.cells c2 t2)).alloc (.cells c3 t3)).alloc (.cells c4 t4)) (w.heap.size + 1 + 1) t3 c3 := by simpa using (Bk.new ((w.alloc (.cells c1 t1)).alloc (.cells c2 t2)) t3 c3).alloc _
  have h4 : Bk ((((w.alloc (.cells c1 t1)).alloc (.cells c2 t2)).alloc (.cells c3 t3)).alloc (.cells c4 t4)) (w.heap.size + 1 + 1 + 1) t4 c4 := by simpa using Bk.new (((w.alloc (.cells c1 t1)).alloc (.cells c2 t2)).alloc (.cells c3 t3)) t4 c4
  refine ⟨h1.below hb h1.lt, h2.below hb h2.lt, h3.below hb h3.lt, h4.below hb h4.lt, ?_⟩
  exact ((((below_new w _).alloc (by simp) _).alloc (by simp; omega) _).alloc (by simp; omega) _).trans (hb.mono (by simp; omega))
/-- The first p of N words are marked. -/
def rowB (N p : Nat) : Array Value := ((List.range N).map fun j => Value.bool (decide (j < p))).toArray
theorem rowB_at (N p j : Nat) (hj : j < N) : (rowB N p)[j]? = some (.bool (decide (j < p))) := by
  unfold rowB
  simp [hj]
theorem rowB_zero (N : Nat) : rowB N 0 = (List.replicate N (Value.bool false)).toArray := by
  unfold rowB
  congr 1
  apply List.ext_getElem (by simp)
  intro i h1 h2
  simp
theorem made_row (N : Nat) : madeCells #[Value.bool false] N = rowB N 0 := by
  have := toList_madeCells_one (.bool false) N
  rw [rowB_zero]
  rw [← this]
theorem rowB_set (N p : Nat) (hp : p < N) : (rowB N p).setIfInBounds p (.bool true) = rowB N (p + 1) := by
  unfold rowB
  rw [List.setIfInBounds_toArray]
  congr 1
  apply List.ext_getElem (by simp)
  intro i h1 h2
  rw [List.getElem_set]
  by_cases h : p = i
  · subst h
    simp
  · rw [if_neg h]
    simp
    omega
structure Mk (W : World) (gT gS gN gR N p : Nat) : Prop where
  t : Bk W gT 3 #[.int .i64 N]
  s : Bk W gS 38 #[.slice (some ⟨gR, 0, none⟩) N N]
  n : Bk W gN 3 #[.int .i64 p]
  r : Bk W gR 4 (rowB N p)
  h : gT < gR ∧ gR < gS ∧ gS < gN
theorem Mk.below {W W' : World} {gT gS gN gR N p : Nat} (H : Mk W gT gS gN gR N p) (hb : Below W.heap.size W W') : Mk W' gT gS gN gR N p :=
  ⟨H.t.below hb H.t.lt, H.s.below hb H.s.lt, H.n.below hb H.n.lt, H.r.below hb H.r.lt, H.h⟩
theorem bk1V {w : World} {g : Nat} {t : TypeId} {a0 : Value} (h : Bk w g t #[a0]) : w.cell? ⟨g, 0, none⟩ = some a0 ∧ ∀ i, w.frozen? ⟨g, i, none⟩ = false := ⟨h.cell 0, h.frozen⟩
set_option maxHeartbeats 4000000 in
set_option maxRecDepth 100000 in
theorem mark_any (W : World) (gT gS gN gR N p : Nat) (H : Mk W gT gS gN gR N p) (hp : p < N) (hN : N ≤ 1000) :
    Calls Try.prog 15 #[.int .i64 p, .pointer (some ⟨gT, 0, none⟩), .pointer (some ⟨gS, 0, none⟩), .pointer (some ⟨gN, 0, none⟩)] W fun e w' => e = .returned (.bool true) ∧ Mk w' gT gS gN gR N (p + 1) ∧ Below gT W w' := by
  obtain ⟨t0, tf⟩ := bk1V H.t
  obtain ⟨s0, sf⟩ := bk1V H.s
  obtain ⟨n0, nf⟩ := bk1V H.n
  have r0 : W.cell? ⟨gR, p, none⟩ = some (.bool false) := by rw [H.r.cell p, rowB_at N p p hp]; simp
  have rf := H.r.frozen p
  have hh := H.h
  have HM := hide H
  clear H
  have hlt1 := HM.out.s.lt
  have hlt2 := HM.out.n.lt
  have hlt3 := HM.out.r.lt
  have x1 : ¬ (⟨gN, 0, none⟩ : Addr) = ⟨gR, p, none⟩ := by intro e; injection e with e; omega
  have x2 : ¬ (⟨gR, p, none⟩ : Addr) = ⟨gN, 0, none⟩ := by intro e; injection e with e; omega
  have d1 : decide ((p : Int) < 0) = false := by simp
  have d2 : decide (N ≤ p) = false := by simp; omega
  have e1 : IntKind.i64.wrap ((p : Int) + 1) = (p : Int) + 1 := IntWalk.i64_in _ ⟨by omega, by omega⟩
  go_enter Try.func15, Try.ntmps15
  go_wp2
  go_ret
  have k1 := HM.out.r.set_ p (.bool true)
  rw [rowB_set N p hp] at k1
  refine ⟨rfl, ⟨(HM.out.t.far (by show gT ≠ gR; omega) _).far (by show gT ≠ gN; omega) _, (HM.out.s.far (by show gS ≠ gR; omega) _).far (by show gS ≠ gN; omega) _, ?_, k1.far (by show gR ≠ gN; omega) _, hh⟩, ?_⟩
  · exact (HM.out.n.far (by show gN ≠ gR; omega) _).set_ 0 _
  · exact ((Below.refl gT W).setCell (p := ⟨gR, p, none⟩) (by show gT ≤ gR; omega) _).setCell (p := ⟨gN, 0, none⟩) (by show gT ≤ gN; omega) _
theorem tl_up {w : World} {A : Option Addr} {n k : Nat} {l : List Int} (h : Cf w A n l) : ∀ m, k ≤ m → m ≤ n → tlN l k ≤ tlN l m := by
  intro m
  induction m with
  | zero =>
    intro h1 _
    obtain rfl : k = 0 := by omega
    exact Int.le_refl _
  | succ m ih =>
    intro h1 h2
    by_cases e : k = m + 1
    · subst e
      exact Int.le_refl _
    · have h3 := ih (by omega) (by omega)
      have h4 := h.in_ (show m < n by omega)
      have h5 := sz_bd _ h4.1 h4.2
      rw [tlN]
      omega
theorem Cf.belowB {B n : Nat} {w w' : World} {A : Option Addr} {l : List Int} (h : Cf w A n l) (hb : Below B w w') (hs : w.heap.size ≤ B) : Cf w' A n l := by
  refine ⟨Rds.belowB h.1 hb fun h0 ad e => ?_, h.2⟩
  obtain ⟨ad', e', hl, -⟩ := h.1.at_ h0
  rw [e] at e'
  cases e'
  omega
set_option maxHeartbeats 16000000 in
set_option maxRecDepth 100000 in
theorem distinct_walk (a0 : Option Addr) (len0 cap0 : Nat) (z0 : List Int) (w : World) (w0 : Row .u8 w a0 len0 cap0 z0) :
    Calls Try.prog 4 #[.slice a0 len0 cap0] w fun e w' => e = .returned (.bool true) ∧ Below w.heap.size w w' := by
  obtain ⟨hI1, hc1, hm1, hwf1⟩ := w0.isI
  have H1 := hide hI1
  have HB1 := hide (show ∀ x ∈ z0.take len0, 0 ≤ x ∧ x ≤ 255 from fun x hx => bounds_u8 (hwf1 x hx))
  clear hwf1 w0 hI1
  generalize z0.take len0 = l0 at H1 HB1
  have hcm1 : cap0 ≤ 9223372036854775807 := hm1
  clear hm1
  go_enter Try.func4, Try.ntmps4
  go_wp2_with fail
  refine (awake5_any _).mono ?_
  rintro e y1 ⟨rfl, hb1⟩
  have hs1 := hb1.size
  go_wp2_with fail
  refine (new_any y1 _ _ _ _ 60 (H1.out.below hb1) HB1.out (by omega) hc1 hcm1).mono ?_
  rintro e y2 ⟨rfl, hcd, hb2⟩
  have BW2 := hide (hb1.trans (hb2.mono hs1))
  have CD2 := hide hcd
  clear hb1 hb2 hcd H1 HB1
  generalize y1.heap.size = gC at *
  go_wp2_with fail
  refine (wide_cf _ _ _ _ CD2.out).mono ?_
  rintro e y3 ⟨A, n, c, B, d, tn, l, s, r', rfl, hcf, hsi, hst, ht1, ht8, -, hg⟩
  have BW3 := hide (below_grownBy BW2.out hg (Nat.le_refl _) hs1)
  have CF := hide hcf
  have hn8 : n ≤ 8 := hcf.2.1
  clear hcf hsi hst hg CD2 BW2
  go_upto_region 4 with fail
  have HKK := hide (Bk.new y3 25 #[.slice A n c, .slice B n d, .int .i64 tn])
  have HBN := hide (below_new y3 (.cells #[.slice A n c, .slice B n d, .int .i64 tn] 25))
  have CFK := hide (CF.out.below HBN.out)
  have BWK := hide (BW3.out.trans (HBN.out.mono BW3.out.size))
  clear CF BW3 HBN
  generalize (y3.alloc (.cells #[.slice A n c, .slice B n d, .int .i64 tn] 25)) = wK at *
  generalize y3.heap.size = gK at *
  have hb := CFK.out.tl n (Nat.le_refl _)
  obtain ⟨pn, hpn⟩ := Int.eq_ofNat_of_zero_le hb.1
  obtain ⟨N, hN⟩ : ∃ N : Nat, pn + tn * 11 = N := ⟨_, rfl⟩
  have HN := hide hN
  have hNb : 11 ≤ N ∧ N ≤ 400 := by omega
  have HPN := hide hpn
  obtain ⟨c0, c1, c2, cfz⟩ := bkm3V HKK.out
  have TW := hide (show Calls Try.prog 14 #[.agg #[.slice A n c, .slice B n d, .int .i64 tn]] wK fun e w' => e = .returned (.int .i64 N) ∧ Below wK.heap.size wK w' from by
    have := lwords_any wK A n c l B n d CFK.out tn (by omega)
    rwa [hpn, show ((pn : Int) + (tn : Int) * 11) = ((N : Nat) : Int) by omega] at this)
  clear hpn hb hN
  go_wp2_with fail
  refine TW.out.mono ?_
  rintro e v0 ⟨rfl, hb0⟩
  have CF0 := hide (CFK.out.below hb0)
  have KK0 := hide (HKK.out.below hb0 HKK.out.lt)
  have BW0 := hide (BWK.out.trans (hb0.mono BWK.out.size))
  clear c0 c1 c2 cfz TW CFK HKK BWK hb0
  have hmk := fun W => run_make_row' (P := Try.prog) 38 4 (.bool false) 1 Try.underlying38 Try.bool_inf rfl .i64 .i64 N (by omega) (by omega) W
  have HMK := hide hmk
  clear hmk
  have d0 : decide ((N : Int) < 0) = false := by simp
  have d1 : decide ((1000 : Int) < (N : Int)) = false := by simp; omega
  have hmk := HMK.out
  go_wp2
  have E := hide (E4V.of (w := v0) (c1 := #[.int .i64 N]) (t1 := 3) (c2 := madeCells #[.bool false] N) (t2 := 4) (c3 := #[.slice (some ⟨v0.heap.size + 1, 0, none⟩) N N]) (t3 := 38) (c4 := #[.int .i64 0]) (t4 := 3) (Below.refl _ _))
  have MK0 := hide (show Mk _ v0.heap.size (v0.heap.size + 1 + 1) (v0.heap.size + 1 + 1 + 1) (v0.heap.size + 1) N 0 from ⟨E.out.b1, E.out.b3, E.out.b4, by rw [← made_row]; exact E.out.b2, by omega⟩)
  have HB0 := hide E.out.bel
  clear hmk HMK d0 d1 E
  generalize (((v0.alloc (.cells #[.int .i64 N] 3)).alloc (.cells (madeCells #[.bool false] N) 4)).alloc (.cells #[.slice (some ⟨v0.heap.size + 1, 0, none⟩) N N] 38)).alloc (.cells #[.int .i64 0] 3) = wT at *
  go_loopg [8] n (fun g sI wr => ∃ k p : Nat, g + k = n ∧ sI = .int .i64 k ∧ tlN l k = (p : Int) ∧ Mk wr v0.heap.size (v0.heap.size + 1 + 1) (v0.heap.size + 1 + 1 + 1) (v0.heap.size + 1) N p ∧ Below v0.heap.size v0 wr)
  case atStart => exact ⟨0, 0, by omega, rfl, rfl, MK0.out, HB0.out⟩
  case round =>
  obtain ⟨k, p, hk, rfl, hp, hmk, hbr⟩ := hrel
  have MK := hide hmk
  have HB := hide hbr
  have HP := hide hp
  clear hmk hbr hp MK0 HB0
  obtain ⟨c0, c1, c2, cfz⟩ := bkm3V (KK0.out.below HB.out KK0.out.lt)
  by_cases hlt : k < n
  · have hzb := CF0.out.in_ hlt
    have hzz := sz_bd _ hzb.1 hzb.2
    obtain ⟨z, hz⟩ := Int.eq_ofNat_of_zero_le (show 0 ≤ sz (l.getD k 0) by omega)
    rw [hz] at hzz
    have htl : tlN l (k + 1) = (p : Int) + (5 + 2 * (z : Int)) := by rw [tlN, HP.out, hz]
    have hup := tl_up CF0.out (k := k + 1) n (by omega) (Nat.le_refl _)
    rw [htl, HPN.out] at hup
    have hpz : p + 5 + 2 * z ≤ N := by have := HN.out; omega
    have HTL := hide htl
    have HZ := hide hz
    clear htl hup hz hzb
    obtain ⟨p1, e1⟩ : ∃ x : Nat, p + 1 = x := ⟨_, rfl⟩
    obtain ⟨p2, e2⟩ : ∃ x : Nat, p1 + 1 = x := ⟨_, rfl⟩
    obtain ⟨p3, e3⟩ : ∃ x : Nat, p2 + 1 = x := ⟨_, rfl⟩
    obtain ⟨p4, e4⟩ : ∃ x : Nat, p3 + 1 = x := ⟨_, rfl⟩
    obtain ⟨p5, e5⟩ : ∃ x : Nat, p4 + 1 = x := ⟨_, rfl⟩
    have TT := hide (fun W (hW : Below v0.heap.size v0 W) => show Calls Try.prog 16 #[.agg #[.slice A n c, .slice B n d, .int .i64 tn], .int .i64 k] W fun e w' => e = .returned (.int .i64 (p : Nat)) ∧ Below W.heap.size W w' from by
      have := ltail_any W A n c l B n d tn (CF0.out.below hW) k (by omega)
      rwa [show tlN l k + 0 = ((p : Nat) : Int) by rw [HP.out]; omega] at this)
    go_wp2_with fail
    refine (TT.out _ HB.out).mono ?_
    rintro e uu ⟨rfl, hbu⟩
    have HBu := hide (HB.out.trans (hbu.mono HB.out.size))
    have MKu := hide (MK.out.below hbu)
    clear TT hbu HB MK c0 c1 c2 cfz
    go_wp2_with fail
    refine (mark_any uu _ _ _ _ N p MKu.out (by omega) (by omega)).mono ?_
    rintro e xx ⟨rfl, hmkx, hbx⟩
    have MK := hide hmkx
    have HB := hide (HBu.out.trans hbx)
    clear hmkx hbx MKu HBu
    obtain ⟨c0, c1, c2, cfz⟩ := bkm3V (KK0.out.below HB.out KK0.out.lt)
    rw [e1] at MK
    have TT := hide (fun W (hW : Below v0.heap.size v0 W) => show Calls Try.prog 17 #[.agg #[.slice A n c, .slice B n d, .int .i64 tn], .int .i64 k] W fun e w' => e = .returned (.int .i64 (p1 : Nat)) ∧ Below W.heap.size W w' from by
      have := lhead_any W A n c l B n d tn (CF0.out.below hW) k (by omega)
      rwa [show tlN l k + 1 = ((p1 : Nat) : Int) by rw [HP.out]; omega] at this)
    go_wp2_with fail
    refine (TT.out _ HB.out).mono ?_
    rintro e uu ⟨rfl, hbu⟩
    have HBu := hide (HB.out.trans (hbu.mono HB.out.size))
    have MKu := hide (MK.out.below hbu)
    clear TT hbu HB MK c0 c1 c2 cfz
    go_wp2_with fail
    refine (mark_any uu _ _ _ _ N p1 MKu.out (by omega) (by omega)).mono ?_
    rintro e xx ⟨rfl, hmkx, hbx⟩
    have MK := hide hmkx
    have HB := hide (HBu.out.trans hbx)
    clear hmkx hbx MKu HBu
    obtain ⟨c0, c1, c2, cfz⟩ := bkm3V (KK0.out.below HB.out KK0.out.lt)
    rw [e2] at MK
    have TT := hide (fun W (hW : Below v0.heap.size v0 W) => show Calls Try.prog 18 #[.agg #[.slice A n c, .slice B n d, .int .i64 tn], .int .i64 k] W fun e w' => e = .returned (.int .i64 (p2 : Nat)) ∧ Below W.heap.size W w' from by
      have := llock_any W A n c l B n d tn (CF0.out.below hW) k (by omega)
      rwa [show tlN l k + 2 = ((p2 : Nat) : Int) by rw [HP.out]; omega] at this)
    go_wp2_with fail
    refine (TT.out _ HB.out).mono ?_
    rintro e uu ⟨rfl, hbu⟩
    have HBu := hide (HB.out.trans (hbu.mono HB.out.size))
    have MKu := hide (MK.out.below hbu)
    clear TT hbu HB MK c0 c1 c2 cfz
    go_wp2_with fail
    refine (mark_any uu _ _ _ _ N p2 MKu.out (by omega) (by omega)).mono ?_
    rintro e xx ⟨rfl, hmkx, hbx⟩
    have MK := hide hmkx
    have HB := hide (HBu.out.trans hbx)
    clear hmkx hbx MKu HBu
    obtain ⟨c0, c1, c2, cfz⟩ := bkm3V (KK0.out.below HB.out KK0.out.lt)
    rw [e3] at MK
    have TT := hide (fun W (hW : Below v0.heap.size v0 W) => show Calls Try.prog 19 #[.agg #[.slice A n c, .slice B n d, .int .i64 tn], .int .i64 k] W fun e w' => e = .returned (.int .i64 (p3 : Nat)) ∧ Below W.heap.size W w' from by
      have := lrecv_any W A n c l B n d tn (CF0.out.below hW) k (by omega)
      rwa [show tlN l k + 3 = ((p3 : Nat) : Int) by rw [HP.out]; omega] at this)
    go_wp2_with fail
    refine (TT.out _ HB.out).mono ?_
    rintro e uu ⟨rfl, hbu⟩
    have HBu := hide (HB.out.trans (hbu.mono HB.out.size))
    have MKu := hide (MK.out.below hbu)
    clear TT hbu HB MK c0 c1 c2 cfz
    go_wp2_with fail
    refine (mark_any uu _ _ _ _ N p3 MKu.out (by omega) (by omega)).mono ?_
    rintro e xx ⟨rfl, hmkx, hbx⟩
    have MK := hide hmkx
    have HB := hide (HBu.out.trans hbx)
    clear hmkx hbx MKu HBu
    obtain ⟨c0, c1, c2, cfz⟩ := bkm3V (KK0.out.below HB.out KK0.out.lt)
    rw [e4] at MK
    have TT := hide (fun W (hW : Below v0.heap.size v0 W) => show Calls Try.prog 20 #[.agg #[.slice A n c, .slice B n d, .int .i64 tn], .int .i64 k] W fun e w' => e = .returned (.int .i64 (p4 : Nat)) ∧ Below W.heap.size W w' from by
      have := lsend_any W A n c l B n d tn (CF0.out.below hW) k (by omega)
      rwa [show tlN l k + 4 = ((p4 : Nat) : Int) by rw [HP.out]; omega] at this)
    go_wp2_with fail
    refine (TT.out _ HB.out).mono ?_
    rintro e uu ⟨rfl, hbu⟩
    have HBu := hide (HB.out.trans (hbu.mono HB.out.size))
    have MKu := hide (MK.out.below hbu)
    clear TT hbu HB MK c0 c1 c2 cfz
    go_wp2_with fail
    refine (mark_any uu _ _ _ _ N p4 MKu.out (by omega) (by omega)).mono ?_
    rintro e xx ⟨rfl, hmkx, hbx⟩
    have MK := hide hmkx
    have HB := hide (HBu.out.trans hbx)
    clear hmkx hbx MKu HBu
    obtain ⟨c0, c1, c2, cfz⟩ := bkm3V (KK0.out.below HB.out KK0.out.lt)
    rw [e5] at MK
    obtain ⟨go, hgo⟩ : ∃ x, x = gk := ⟨_, rfl⟩
    subst hgo
    have MKL := MK
    have HBL := HB
    clear MK HB c0 c1 c2 cfz
    go_wp2
    go_loopg [9] z (fun g sI wr => ∃ q : Nat, g + q = z ∧ sI = .int .i64 q ∧ Mk wr v0.heap.size (v0.heap.size + 1 + 1) (v0.heap.size + 1 + 1 + 1) (v0.heap.size + 1) N (p5 + 2 * q) ∧ Below v0.heap.size v0 wr)
    case atStart => exact ⟨0, by omega, rfl, MKL.out, HBL.out⟩
    case round =>
    obtain ⟨q, hq, rfl, hmk, hbr⟩ := hrel
    have MK := hide hmk
    have HB := hide hbr
    clear hmk hbr MKL HBL
    obtain ⟨c0, c1, c2, cfz⟩ := bkm3V (KK0.out.below HB.out KK0.out.lt)
    obtain ⟨ad, hadA, hcx, -, -⟩ := (CF0.out.below HB.out).at_ hlt
    have d1 : decide ((k : Int) < 0) = false := by simp
    have d2 : decide (n ≤ k) = false := by simp; omega
    have RS := hide (fun W => show Calls Try.prog 21 #[.int .i64 (l.getD k 0)] W fun e w' => e = .returned (.int .i64 (z : Nat)) ∧ W = w' from by
      have := rsize_any (l.getD k 0) W
      rwa [HZ.out] at this)
    rw [hadA] at c0
    have HAD := hide hadA
    clear hadA
    generalize l.getD k 0 = xk at hcx RS
    go_wp2_with fail
    refine (RS.out _).mono ?_
    rintro e _ ⟨rfl, rfl⟩
    clear RS hcx d1 d2
    rw [← HAD.out] at c0
    clear HAD
    by_cases hlq : q < z
    · have eq1 : IntKind.u64.wrap (q : Int) = (q : Int) := by rw [wrap_u64]; omega
      obtain ⟨q0, hq0⟩ : ∃ x : Nat, p5 + 2 * q = x := ⟨_, rfl⟩
      obtain ⟨q1, hq1⟩ : ∃ x : Nat, q0 + 1 = x := ⟨_, rfl⟩
      have hsl : sl (q : Int) ((z : Nat) : Int) = (q : Int) := by
        unfold sl
        rw [if_neg (by omega), Int.emod_eq_of_lt (by omega) (by omega), Int.emod_eq_of_lt (by omega) (by omega)]
      have MKq := hide (show Mk _ _ _ _ _ N q0 from hq0 ▸ MK.out)
      clear MK
      have MK := MKq
      clear MKq
      have TT := hide (fun W (hW : Below v0.heap.size v0 W) => show Calls Try.prog 22 #[.agg #[.slice A n c, .slice B n d, .int .i64 tn], .int .i64 k, .int .u64 q] W fun e w' => e = .returned (.int .i64 (q0 : Nat)) ∧ Below W.heap.size W w' from by
        have := lslotseq_any W A n c l B n d tn (CF0.out.below hW) k hlt q (by omega) (by omega)
        rwa [show tlN l k + 5 + 2 * sl (q : Int) (sz (l.getD k 0)) + 0 = ((q0 : Nat) : Int) by rw [HP.out, HZ.out, hsl]; omega] at this)
      go_wp2_with fail
      refine (TT.out _ HB.out).mono ?_
      rintro e uu ⟨rfl, hbu⟩
      have HBu := hide (HB.out.trans (hbu.mono HB.out.size))
      have MKu := hide (MK.out.below hbu)
      clear TT hbu HB MK c0 c1 c2 cfz
      go_wp2_with fail
      refine (mark_any uu _ _ _ _ N q0 MKu.out (by omega) (by omega)).mono ?_
      rintro e xx ⟨rfl, hmkx, hbx⟩
      have MK := hide hmkx
      have HB := hide (HBu.out.trans hbx)
      clear hmkx hbx MKu HBu
      obtain ⟨c0, c1, c2, cfz⟩ := bkm3V (KK0.out.below HB.out KK0.out.lt)
      rw [hq1] at MK
      have TT := hide (fun W (hW : Below v0.heap.size v0 W) => show Calls Try.prog 23 #[.agg #[.slice A n c, .slice B n d, .int .i64 tn], .int .i64 k, .int .u64 q] W fun e w' => e = .returned (.int .i64 (q1 : Nat)) ∧ Below W.heap.size W w' from by
        have := lslotvalue_any W A n c l B n d tn (CF0.out.below hW) k hlt q (by omega) (by omega)
        rwa [show tlN l k + 5 + 2 * sl (q : Int) (sz (l.getD k 0)) + 1 = ((q1 : Nat) : Int) by rw [HP.out, HZ.out, hsl]; omega] at this)
      go_wp2_with fail
      refine (TT.out _ HB.out).mono ?_
      rintro e uu ⟨rfl, hbu⟩
      have HBu := hide (HB.out.trans (hbu.mono HB.out.size))
      have MKu := hide (MK.out.below hbu)
      clear TT hbu HB MK c0 c1 c2 cfz
      go_wp2_with fail
      refine (mark_any uu _ _ _ _ N q1 MKu.out (by omega) (by omega)).mono ?_
      rintro e xx ⟨rfl, hmkx, hbx⟩
      have MK := hide hmkx
      have HB := hide (HBu.out.trans hbx)
      clear hmkx hbx MKu HBu
      obtain ⟨c0, c1, c2, cfz⟩ := bkm3V (KK0.out.below HB.out KK0.out.lt)
      have hq2 : q1 + 1 = p5 + 2 * (q + 1) := by omega
      rw [hq2] at MK
      go_wp2
      go_roundg (gk - 1)
      case rel => exact ⟨q + 1, by omega, by go_num, MK.out, HB.out⟩
      case measure => omega
    obtain rfl : q = z := by omega
    go_wp2
    go_roundg (go - 1)
    case rel => exact ⟨k + 1, p5 + 2 * q, by omega, by go_num, by rw [HTL.out]; omega, MK.out, HB.out⟩
    case measure => omega
  obtain rfl : k = n := by omega
  have hpp : p = pn := by have := HP.out; rw [HPN.out] at this; omega
  subst hpp
  go_wp2
  have MKL := MK
  have HBL := HB
  clear MK HB c0 c1 c2 cfz HP
  go_loopg [10] tn (fun g sI wr => ∃ t : Nat, g + t = tn ∧ sI = .int .i64 t ∧ Mk wr v0.heap.size (v0.heap.size + 1 + 1) (v0.heap.size + 1 + 1 + 1) (v0.heap.size + 1) N (p + t * 11) ∧ Below v0.heap.size v0 wr)
  case atStart => exact ⟨0, by omega, rfl, by simpa using MKL.out, HBL.out⟩
  case round =>
  obtain ⟨t, ht, rfl, hmk, hbr⟩ := hrel
  have MK := hide hmk
  have HB := hide hbr
  clear hmk hbr MKL HBL
  obtain ⟨c0, c1, c2, cfz⟩ := bkm3V (KK0.out.below HB.out KK0.out.lt)
  by_cases hlt : t < tn
  · obtain ⟨p0, hp0⟩ : ∃ x : Nat, p + t * 11 = x := ⟨_, rfl⟩
    rw [hp0] at MK
    have hpz : p0 + 11 ≤ N := by have := HN.out; omega
    have HP0 := hide (show tlN l k + (t : Int) * 11 = (p0 : Int) by rw [HPN.out]; omega)
    obtain ⟨p1, e1⟩ : ∃ x : Nat, p0 + 1 = x := ⟨_, rfl⟩
    obtain ⟨p2, e2⟩ : ∃ x : Nat, p1 + 1 = x := ⟨_, rfl⟩
    obtain ⟨p3, e3⟩ : ∃ x : Nat, p2 + 1 = x := ⟨_, rfl⟩
    obtain ⟨p4, e4⟩ : ∃ x : Nat, p3 + 1 = x := ⟨_, rfl⟩
    obtain ⟨p5, e5⟩ : ∃ x : Nat, p4 + 1 = x := ⟨_, rfl⟩
    have TT := hide (fun W (hW : Below v0.heap.size v0 W) => show Calls Try.prog 24 #[.agg #[.slice A k c, .slice B k d, .int .i64 tn], .int .i64 t] W fun e w' => e = .returned (.int .i64 (p0 : Nat)) ∧ Below W.heap.size W w' from by
      have := lclaim_any W A k c l B k d tn (CF0.out.below hW) t (by omega)
      rwa [show tlN l k + (t : Int) * 11 + 0 = ((p0 : Nat) : Int) by rw [HP0.out]; omega] at this)
    go_wp2_with fail
    refine (TT.out _ HB.out).mono ?_
    rintro e uu ⟨rfl, hbu⟩
    have HBu := hide (HB.out.trans (hbu.mono HB.out.size))
    have MKu := hide (MK.out.below hbu)
    clear TT hbu HB MK c0 c1 c2 cfz
    go_wp2_with fail
    refine (mark_any uu _ _ _ _ N p0 MKu.out (by omega) (by omega)).mono ?_
    rintro e xx ⟨rfl, hmkx, hbx⟩
    have MK := hide hmkx
    have HB := hide (HBu.out.trans hbx)
    clear hmkx hbx MKu HBu
    obtain ⟨c0, c1, c2, cfz⟩ := bkm3V (KK0.out.below HB.out KK0.out.lt)
    rw [e1] at MK
    have TT := hide (fun W (hW : Below v0.heap.size v0 W) => show Calls Try.prog 25 #[.agg #[.slice A k c, .slice B k d, .int .i64 tn], .int .i64 t] W fun e w' => e = .returned (.int .i64 (p1 : Nat)) ∧ Below W.heap.size W w' from by
      have := lflag_any W A k c l B k d tn (CF0.out.below hW) t (by omega)
      rwa [show tlN l k + (t : Int) * 11 + 1 = ((p1 : Nat) : Int) by rw [HP0.out]; omega] at this)
    go_wp2_with fail
    refine (TT.out _ HB.out).mono ?_
    rintro e uu ⟨rfl, hbu⟩
    have HBu := hide (HB.out.trans (hbu.mono HB.out.size))
    have MKu := hide (MK.out.below hbu)
    clear TT hbu HB MK c0 c1 c2 cfz
    go_wp2_with fail
    refine (mark_any uu _ _ _ _ N p1 MKu.out (by omega) (by omega)).mono ?_
    rintro e xx ⟨rfl, hmkx, hbx⟩
    have MK := hide hmkx
    have HB := hide (HBu.out.trans hbx)
    clear hmkx hbx MKu HBu
    obtain ⟨c0, c1, c2, cfz⟩ := bkm3V (KK0.out.below HB.out KK0.out.lt)
    rw [e2] at MK
    have TT := hide (fun W (hW : Below v0.heap.size v0 W) => show Calls Try.prog 26 #[.agg #[.slice A k c, .slice B k d, .int .i64 tn], .int .i64 t] W fun e w' => e = .returned (.int .i64 (p2 : Nat)) ∧ Below W.heap.size W w' from by
      have := lkind_any W A k c l B k d tn (CF0.out.below hW) t (by omega)
      rwa [show tlN l k + (t : Int) * 11 + 2 = ((p2 : Nat) : Int) by rw [HP0.out]; omega] at this)
    go_wp2_with fail
    refine (TT.out _ HB.out).mono ?_
    rintro e uu ⟨rfl, hbu⟩
    have HBu := hide (HB.out.trans (hbu.mono HB.out.size))
    have MKu := hide (MK.out.below hbu)
    clear TT hbu HB MK c0 c1 c2 cfz
    go_wp2_with fail
    refine (mark_any uu _ _ _ _ N p2 MKu.out (by omega) (by omega)).mono ?_
    rintro e xx ⟨rfl, hmkx, hbx⟩
    have MK := hide hmkx
    have HB := hide (HBu.out.trans hbx)
    clear hmkx hbx MKu HBu
    obtain ⟨c0, c1, c2, cfz⟩ := bkm3V (KK0.out.below HB.out KK0.out.lt)
    rw [e3] at MK
    have TT := hide (fun W (hW : Below v0.heap.size v0 W) => show Calls Try.prog 27 #[.agg #[.slice A k c, .slice B k d, .int .i64 tn], .int .i64 t] W fun e w' => e = .returned (.int .i64 (p3 : Nat)) ∧ Below W.heap.size W w' from by
      have := lcase_any W A k c l B k d tn (CF0.out.below hW) t (by omega)
      rwa [show tlN l k + (t : Int) * 11 + 3 = ((p3 : Nat) : Int) by rw [HP0.out]; omega] at this)
    go_wp2_with fail
    refine (TT.out _ HB.out).mono ?_
    rintro e uu ⟨rfl, hbu⟩
    have HBu := hide (HB.out.trans (hbu.mono HB.out.size))
    have MKu := hide (MK.out.below hbu)
    clear TT hbu HB MK c0 c1 c2 cfz
    go_wp2_with fail
    refine (mark_any uu _ _ _ _ N p3 MKu.out (by omega) (by omega)).mono ?_
    rintro e xx ⟨rfl, hmkx, hbx⟩
    have MK := hide hmkx
    have HB := hide (HBu.out.trans hbx)
    clear hmkx hbx MKu HBu
    obtain ⟨c0, c1, c2, cfz⟩ := bkm3V (KK0.out.below HB.out KK0.out.lt)
    rw [e4] at MK
    have TT := hide (fun W (hW : Below v0.heap.size v0 W) => show Calls Try.prog 28 #[.agg #[.slice A k c, .slice B k d, .int .i64 tn], .int .i64 t] W fun e w' => e = .returned (.int .i64 (p4 : Nat)) ∧ Below W.heap.size W w' from by
      have := lvalue_any W A k c l B k d tn (CF0.out.below hW) t (by omega)
      rwa [show tlN l k + (t : Int) * 11 + 4 = ((p4 : Nat) : Int) by rw [HP0.out]; omega] at this)
    go_wp2_with fail
    refine (TT.out _ HB.out).mono ?_
    rintro e uu ⟨rfl, hbu⟩
    have HBu := hide (HB.out.trans (hbu.mono HB.out.size))
    have MKu := hide (MK.out.below hbu)
    clear TT hbu HB MK c0 c1 c2 cfz
    go_wp2_with fail
    refine (mark_any uu _ _ _ _ N p4 MKu.out (by omega) (by omega)).mono ?_
    rintro e xx ⟨rfl, hmkx, hbx⟩
    have MK := hide hmkx
    have HB := hide (HBu.out.trans hbx)
    clear hmkx hbx MKu HBu
    obtain ⟨c0, c1, c2, cfz⟩ := bkm3V (KK0.out.below HB.out KK0.out.lt)
    rw [e5] at MK
    obtain ⟨go, hgo⟩ : ∃ x, x = gk := ⟨_, rfl⟩
    subst hgo
    have MKL := MK
    have HBL := HB
    clear MK HB c0 c1 c2 cfz
    go_wp2
    go_loopg [11] 6 (fun g sI wr => ∃ q : Nat, g + q = 6 ∧ sI = .int .i64 q ∧ Mk wr v0.heap.size (v0.heap.size + 1 + 1) (v0.heap.size + 1 + 1 + 1) (v0.heap.size + 1) N (p5 + q) ∧ Below v0.heap.size v0 wr)
    case atStart => exact ⟨0, by omega, rfl, MKL.out, HBL.out⟩
    case round =>
    obtain ⟨q, hq, rfl, hmk, hbr⟩ := hrel
    have MK := hide hmk
    have HB := hide hbr
    clear hmk hbr MKL HBL
    obtain ⟨c0, c1, c2, cfz⟩ := bkm3V (KK0.out.below HB.out KK0.out.lt)
    by_cases hlq : q < 6
    · obtain ⟨q0, hq0⟩ : ∃ x : Nat, p5 + q = x := ⟨_, rfl⟩
      rw [hq0] at MK
      have TT := hide (fun W (hW : Below v0.heap.size v0 W) => show Calls Try.prog 29 #[.agg #[.slice A k c, .slice B k d, .int .i64 tn], .int .i64 t, .int .i64 q] W fun e w' => e = .returned (.int .i64 (q0 : Nat)) ∧ Below W.heap.size W w' from by
        have := lout_any W A k c l B k d tn (CF0.out.below hW) t (by omega) q (by omega)
        rwa [show tlN l k + (t : Int) * 11 + 5 + (q : Int) = ((q0 : Nat) : Int) by rw [HP0.out]; omega] at this)
      go_wp2_with fail
      refine (TT.out _ HB.out).mono ?_
      rintro e uu ⟨rfl, hbu⟩
      have HBu := hide (HB.out.trans (hbu.mono HB.out.size))
      have MKu := hide (MK.out.below hbu)
      clear TT hbu HB MK c0 c1 c2 cfz
      go_wp2_with fail
      refine (mark_any uu _ _ _ _ N q0 MKu.out (by omega) (by omega)).mono ?_
      rintro e xx ⟨rfl, hmkx, hbx⟩
      have MK := hide hmkx
      have HB := hide (HBu.out.trans hbx)
      clear hmkx hbx MKu HBu
      obtain ⟨c0, c1, c2, cfz⟩ := bkm3V (KK0.out.below HB.out KK0.out.lt)
      have hq2 : q0 + 1 = p5 + (q + 1) := by omega
      rw [hq2] at MK
      go_wp2
      go_roundg (gk - 1)
      case rel => exact ⟨q + 1, by omega, by go_num, MK.out, HB.out⟩
      case measure => omega
    obtain rfl : q = 6 := by omega
    go_wp2
    go_roundg (go - 1)
    case rel => exact ⟨t + 1, by omega, by go_num, (show p5 + 6 = p + (t + 1) * 11 by omega) ▸ MK.out, HB.out⟩
    case measure => omega
  obtain rfl : t = tn := by omega
  rw [HN.out] at MK
  obtain ⟨t0, tf⟩ := bk1V MK.out.t
  obtain ⟨n0, nf⟩ := bk1V MK.out.n
  go_wp2
  go_ret
  exact ⟨rfl, BW0.out.trans (HB.out.mono BW0.out.size)⟩
end Go.Proofs.Ytcaencocmfkfaaa
