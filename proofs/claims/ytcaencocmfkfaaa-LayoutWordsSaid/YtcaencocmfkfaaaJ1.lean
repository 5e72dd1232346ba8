/- The walk of LayoutWords. -/
import Derived.Test.YtcaencocmfkfaaaJ0
namespace Go.Proofs.Ytcaencocmfkfaaa
open Go.RowKit
set_option linter.unusedVariables false
set_option linter.unusedSimpArgs false
set_option maxHeartbeats 16000000 in
set_option maxRecDepth 100000 in
theorem words_walk (a0 : Option Addr) (len0 cap0 : Nat) (z0 : List Int) (a1 : Int) (w : World) (w0 : Row .u8 w a0 len0 cap0 z0) (w1 : (Lit.int .u64 a1).wf = true) :
    Calls Try.prog 5 #[.slice a0 len0 cap0, .int .u64 a1] w fun e w' => e = .returned (.bool true) ∧ Below w.heap.size w w' := by
  obtain ⟨hI1, hc1, hm1, hwf1⟩ := w0.isI
  have H1 := hide hI1
  have HB1 := hide (show ∀ x ∈ z0.take len0, 0 ≤ x ∧ x ≤ 255 from fun x hx => bounds_u8 (hwf1 x hx))
  have hu1 := bounds_u64 w1
  clear hwf1 w0 hI1 w1
  generalize z0.take len0 = l0 at H1 HB1
  have hcm1 : cap0 ≤ 9223372036854775807 := hm1
  clear hm1
  go_enter Try.func5, Try.ntmps5
  go_wp2_with fail
  refine (awake5_any _).mono ?_
  rintro e y1 ⟨rfl, hb1⟩
  have hs1 := hb1.size
  go_wp2_with fail
  refine (new_any y1 _ _ _ _ 60 (H1.out.below hb1) HB1.out (by omega) hc1 hcm1).mono ?_
  rintro e y2 ⟨rfl, hcd, hb2⟩
  have BW2 := hide (hb1.trans (hb2.mono hs1))
  have CD2 := hide hcd
  clear hb1 hb2 hcd H1 HB1
  generalize y1.heap.size = gC at *
  go_wp2_with fail
  refine (wide_cf _ _ _ _ CD2.out).mono ?_
  rintro e y3 ⟨A, n, c, B, d, tn, l, s, r', rfl, hcf, hsi, hst, ht1, ht8, -, hg⟩
  have BW3 := hide (below_grownBy BW2.out hg (Nat.le_refl _) hs1)
  have CF := hide hcf
  have SI := hide hsi
  have SB := hide hst
  have hn8 : n ≤ 8 := hcf.2.1
  clear hcf hsi hst hg CD2 BW2
  go_upto_region 4 with fail
  have HKK := hide (Bk.new y3 25 #[.slice A n c, .slice B n d, .int .i64 tn])
  have HBN := hide (below_new y3 (.cells #[.slice A n c, .slice B n d, .int .i64 tn] 25))
  have CFK := hide (CF.out.below HBN.out)
  have SIK := hide (SI.out.below HBN.out)
  have BWK := hide (BW3.out.trans (HBN.out.mono BW3.out.size))
  clear CF SI BW3 HBN
  generalize (y3.alloc (.cells #[.slice A n c, .slice B n d, .int .i64 tn] 25)) = wK at *
  generalize y3.heap.size = gK at *
  go_wp2
  go_loopg [6] n (fun g sI wr => ∃ k : Nat, g + k = n ∧ sI = .int .i64 k ∧ Below wK.heap.size wK wr)
  case atStart => exact ⟨0, by omega, rfl, Below.refl _ _⟩
  case round =>
  obtain ⟨k, hk, rfl, hbr⟩ := hrel
  have HBR := hide hbr
  clear hbr
  have CFR := hide (CFK.out.below HBR.out)
  have KKR := hide (HKK.out.below HBR.out HKK.out.lt)
  obtain ⟨c0, c1, c2, cfz⟩ := bkm3V KKR.out
  by_cases hlt : k < n
  · obtain ⟨v0, hv0⟩ : ∃ v, tlN l k + 0 = v := ⟨_, rfl⟩
    obtain ⟨v1, hv1⟩ : ∃ v, tlN l k + 1 = v := ⟨_, rfl⟩
    obtain ⟨v2, hv2⟩ : ∃ v, tlN l k + 2 = v := ⟨_, rfl⟩
    obtain ⟨v3, hv3⟩ : ∃ v, tlN l k + 3 = v := ⟨_, rfl⟩
    obtain ⟨v4, hv4⟩ : ∃ v, tlN l k + 4 = v := ⟨_, rfl⟩
    have hv0b : tlN l k = v0 := by rw [← hv0, Int.add_zero]
    have ne0 : (v0 != v0) = false := by simp
    have ne1 : (v1 != v1) = false := by simp
    have ne2 : (v2 != v2) = false := by simp
    have ne3 : (v3 != v3) = false := by simp
    have ne4 : (v4 != v4) = false := by simp
    have Q0 := hide (fun (u : Up wr) => show Calls Try.prog 16 #[.agg #[.slice A n c, .slice B n d, .int .i64 tn], .int .i64 k] u.1 fun e w' => e = .returned (.int .i64 v0) ∧ Below u.1.heap.size u.1 w' from by have := ltail_any u.1 A n c l B n d tn (CFR.out.up u) k (by omega); rwa [hv0] at this)
    have Q1 := hide (fun (u : Up wr) => show Calls Try.prog 30 #[.agg #[.slice A n c, .slice B n d, .int .i64 tn], .int .i64 k] u.1 fun e w' => e = .returned (.int .i64 v0) ∧ Below u.1.heap.size u.1 w' from by have := rtl_any u.1 A n c l B n d tn (CFR.out.up u) k (by omega); rwa [hv0b] at this)
    have Q2 := hide (fun (u : Up wr) => show Calls Try.prog 17 #[.agg #[.slice A n c, .slice B n d, .int .i64 tn], .int .i64 k] u.1 fun e w' => e = .returned (.int .i64 v1) ∧ Below u.1.heap.size u.1 w' from by have := lhead_any u.1 A n c l B n d tn (CFR.out.up u) k (by omega); rwa [hv1] at this)
    have Q3 := hide (fun (u : Up wr) => show Calls Try.prog 31 #[.agg #[.slice A n c, .slice B n d, .int .i64 tn], .int .i64 k] u.1 fun e w' => e = .returned (.int .i64 v1) ∧ Below u.1.heap.size u.1 w' from by have := rhead_any u.1 A n c l B n d tn (CFR.out.up u) k (by omega); rwa [hv1] at this)
    have Q4 := hide (fun (u : Up wr) => show Calls Try.prog 18 #[.agg #[.slice A n c, .slice B n d, .int .i64 tn], .int .i64 k] u.1 fun e w' => e = .returned (.int .i64 v2) ∧ Below u.1.heap.size u.1 w' from by have := llock_any u.1 A n c l B n d tn (CFR.out.up u) k (by omega); rwa [hv2] at this)
    have Q5 := hide (fun (u : Up wr) => show Calls Try.prog 32 #[.agg #[.slice A n c, .slice B n d, .int .i64 tn], .int .i64 k] u.1 fun e w' => e = .returned (.int .i64 v2) ∧ Below u.1.heap.size u.1 w' from by have := rlock_any u.1 A n c l B n d tn (CFR.out.up u) k (by omega); rwa [hv2] at this)
    have Q6 := hide (fun (u : Up wr) => show Calls Try.prog 19 #[.agg #[.slice A n c, .slice B n d, .int .i64 tn], .int .i64 k] u.1 fun e w' => e = .returned (.int .i64 v3) ∧ Below u.1.heap.size u.1 w' from by have := lrecv_any u.1 A n c l B n d tn (CFR.out.up u) k (by omega); rwa [hv3] at this)
    have Q7 := hide (fun (u : Up wr) => show Calls Try.prog 33 #[.agg #[.slice A n c, .slice B n d, .int .i64 tn], .int .i64 k] u.1 fun e w' => e = .returned (.int .i64 v3) ∧ Below u.1.heap.size u.1 w' from by have := rrecv_any u.1 A n c l B n d tn (CFR.out.up u) k (by omega); rwa [hv3] at this)
    have Q8 := hide (fun (u : Up wr) => show Calls Try.prog 20 #[.agg #[.slice A n c, .slice B n d, .int .i64 tn], .int .i64 k] u.1 fun e w' => e = .returned (.int .i64 v4) ∧ Below u.1.heap.size u.1 w' from by have := lsend_any u.1 A n c l B n d tn (CFR.out.up u) k (by omega); rwa [hv4] at this)
    have Q9 := hide (fun (u : Up wr) => show Calls Try.prog 34 #[.agg #[.slice A n c, .slice B n d, .int .i64 tn], .int .i64 k] u.1 fun e w' => e = .returned (.int .i64 v4) ∧ Below u.1.heap.size u.1 w' from by have := rsend_any u.1 A n c l B n d tn (CFR.out.up u) k (by omega); rwa [hv4] at this)
    have u0 := fun (u : Up wr) => up_cell c0 u
    have u1 := fun (u : Up wr) => up_cell c1 u
    have u2 := fun (u : Up wr) => up_cell c2 u
    go_upto_region 7 with fail
    refine wp_region_up (by kernel_rfl) (by kernel_rfl) ?_
    repeat (go_big_quiet_step (first
      | (go_at_call 16; exact up_call (Q0.out _))
      | (go_at_call 30; exact up_call (Q1.out _))
      | (go_at_call 17; exact up_call (Q2.out _))
      | (go_at_call 31; exact up_call (Q3.out _))
      | (go_at_call 18; exact up_call (Q4.out _))
      | (go_at_call 32; exact up_call (Q5.out _))
      | (go_at_call 19; exact up_call (Q6.out _))
      | (go_at_call 33; exact up_call (Q7.out _))
      | (go_at_call 20; exact up_call (Q8.out _))
      | (go_at_call 34; exact up_call (Q9.out _))))
    refine wpQuiet_nil ?_
    rintro _ ⟨u, rfl⟩
    have HBU := hide (HBR.out.trans (u.2.mono HBR.out.size))
    clear u0 u1 u2 c0 c1 c2 cfz Q0 Q1 Q2 Q3 Q4 Q5 Q6 Q7 Q8 Q9
    generalize u.1 = w7 at *
    clear HBR CFR KKR
    have HBR := HBU
    clear HBU
    clear ne0 ne1 ne2 ne3 ne4 hv0 hv1 hv2 hv3 hv4 hv0b
    have CFR := hide (CFK.out.below HBR.out)
    have KKR := hide (HKK.out.below HBR.out HKK.out.lt)
    obtain ⟨c0, c1, c2, cfz⟩ := bkm3V KKR.out
    obtain ⟨ad, hadB, -, hcs⟩ := (SIK.out.below HBR.out).at_ hlt
    have hsb := SB.out (s.getD k 0) (by rw [List.getD, List.getElem?_eq_getElem (by rw [SIK.out.len]; exact hlt)]; exact List.getElem_mem _)
    subst hadB
    obtain ⟨sv, hsv⟩ : ∃ v, s.getD k 0 = v := ⟨_, rfl⟩
    rw [hsv] at hcs hsb
    have d1 : decide ((k : Int) < 0) = false := by simp
    have d2 : decide (n ≤ k) = false := by simp; omega
    clear hsv
    go_wp2
    have LB := hide (show ∀ x ∈ [a1, sv, 9223372036854775807, 0], 0 ≤ x ∧ x ≤ 18446744073709551615 from fun x hx => by simp at hx; rcases hx with rfl | rfl | rfl | rfl <;> omega)
    have KS := hide (Bk.new w7 33 (([a1, sv, 9223372036854775807, 0].map (Value.int .u64)).toArray))
    have HBS := hide (HBR.out.trans ((below_new w7 (.cells (([a1, sv, 9223372036854775807, 0].map (Value.int .u64)).toArray) 33)).mono HBR.out.size))
    clear c0 c1 c2 cfz hcs d1 d2 CFR KKR HBR
    obtain ⟨go, hgo⟩ : ∃ x, x = gk := ⟨_, rfl⟩
    subst hgo
    obtain ⟨w9, hw9⟩ : ∃ x, x = (w7.alloc (.cells (([a1, sv, 9223372036854775807, 0].map (Value.int .u64)).toArray) 33)) := ⟨_, rfl⟩
    rw [← hw9] at KS HBS
    go_loopg [8, 74] 4 (fun g s8 sI wr => ∃ j : Nat, g + j = 4 ∧ sI = .int .i64 j ∧ Below w9.heap.size w9 wr)
    case atStart => exact ⟨0, by omega, rfl, by rw [hw9]; exact Below.refl _ _⟩
    case round =>
    obtain ⟨j, hj, rfl, hb9⟩ := hrel
    have KSR := hide (KS.out.below hb9 KS.out.lt)
    have HBR := hide (HBS.out.trans (hb9.mono HBS.out.size))
    have HB9 := hide hb9
    clear hb9
    have CFR := hide (CFK.out.below HBR.out)
    have KKR := hide (HKK.out.below HBR.out HKK.out.lt)
    obtain ⟨c0, c1, c2, cfz⟩ := bkm3V KKR.out
    by_cases hlj : j < 4
    · have hcx := bk6V (l := [a1, sv, 9223372036854775807, 0]) KSR.out j hlj
      have hxb := LB.out ([a1, sv, 9223372036854775807, 0].getD j 0) (by rw [List.getD, List.getElem?_eq_getElem (show j < [a1, sv, 9223372036854775807, 0].length from hlj)]; exact List.getElem_mem _)
      generalize [a1, sv, 9223372036854775807, 0].getD j 0 = xv at hcx hxb
      have d3 : decide ((j : Int) < 0) = false := by simp
      have d4 : decide (4 ≤ j) = false := by simp; omega
      obtain ⟨v0, hv0⟩ : ∃ v, tlN l k + 5 + 2 * sl xv (sz (l.getD k 0)) + 0 = v := ⟨_, rfl⟩
      obtain ⟨v1, hv1⟩ : ∃ v, tlN l k + 5 + 2 * sl xv (sz (l.getD k 0)) + 1 = v := ⟨_, rfl⟩
      have hv0b : tlN l k + 5 + 2 * sl xv (sz (l.getD k 0)) = v0 := by rw [← hv0, Int.add_zero]
      have ne0 : (v0 != v0) = false := by simp
      have ne1 : (v1 != v1) = false := by simp
      have Q0 := hide (fun (u : Up wr) => show Calls Try.prog 22 #[.agg #[.slice A n c, .slice (some ad) n d, .int .i64 tn], .int .i64 k, .int .u64 xv] u.1 fun e w' => e = .returned (.int .i64 v0) ∧ Below u.1.heap.size u.1 w' from by have := lslotseq_any u.1 A n c l (some ad) n d tn (CFR.out.up u) k hlt xv hxb.1 hxb.2; rwa [hv0] at this)
      have Q1 := hide (fun (u : Up wr) => show Calls Try.prog 35 #[.agg #[.slice A n c, .slice (some ad) n d, .int .i64 tn], .int .i64 k, .int .u64 xv] u.1 fun e w' => e = .returned (.int .i64 v0) ∧ Below u.1.heap.size u.1 w' from by have := rslotseq_any u.1 A n c l (some ad) n d tn (CFR.out.up u) k hlt xv hxb.1 hxb.2; rwa [hv0b] at this)
      have Q2 := hide (fun (u : Up wr) => show Calls Try.prog 23 #[.agg #[.slice A n c, .slice (some ad) n d, .int .i64 tn], .int .i64 k, .int .u64 xv] u.1 fun e w' => e = .returned (.int .i64 v1) ∧ Below u.1.heap.size u.1 w' from by have := lslotvalue_any u.1 A n c l (some ad) n d tn (CFR.out.up u) k hlt xv hxb.1 hxb.2; rwa [hv1] at this)
      have Q3 := hide (fun (u : Up wr) => show Calls Try.prog 36 #[.agg #[.slice A n c, .slice (some ad) n d, .int .i64 tn], .int .i64 k, .int .u64 xv] u.1 fun e w' => e = .returned (.int .i64 v1) ∧ Below u.1.heap.size u.1 w' from by have := rslotvalue_any u.1 A n c l (some ad) n d tn (CFR.out.up u) k hlt xv hxb.1 hxb.2; rwa [hv1] at this)
      have u0 := fun (u : Up wr) => up_cell c0 u
      have u1 := fun (u : Up wr) => up_cell c1 u
      have u2 := fun (u : Up wr) => up_cell c2 u
      go_upto_region 12 with fail
      refine wp_region_up (by kernel_rfl) (by kernel_rfl) ?_
      repeat (go_big_quiet_step (first
        | (go_at_call 22; exact up_call (Q0.out _))
        | (go_at_call 35; exact up_call (Q1.out _))
        | (go_at_call 23; exact up_call (Q2.out _))
        | (go_at_call 36; exact up_call (Q3.out _))))
      refine wpQuiet_nil ?_
      rintro _ ⟨u, rfl⟩
      have HBU := hide (HB9.out.trans (u.2.mono HB9.out.size))
      clear u0 u1 u2 c0 c1 c2 cfz Q0 Q1 Q2 Q3
      generalize u.1 = w12 at *
      clear HBR CFR KKR
      have HBR := HBU
      clear HBU
      clear HB9 ne0 ne1 hv0 hv1 hv0b hcx hxb d3 d4 KSR
      go_wp2
      go_roundg (gk - 1)
      case rel => exact ⟨j + 1, by omega, by go_num, HBR.out⟩
      case measure => omega
    obtain rfl : j = 4 := by omega
    have e1 : IntKind.i64.wrap (2 * (k : Int)) = 2 * (k : Int) := IntWalk.i64_in _ ⟨by omega, by omega⟩
    have e2 : IntKind.i64.wrap (2 * (k : Int) + 1) = 2 * (k : Int) + 1 := IntWalk.i64_in _ ⟨by omega, by omega⟩
    have ne1 : (2 * (k : Int) != 2 * (k : Int)) = false := by simp
    have ne2 : (2 * (k : Int) + 1 != 2 * (k : Int) + 1) = false := by simp
    go_wp2_with fail
    refine (rlist_any wr A n c (some ad) n d tn k (by omega)).mono ?_
    rintro e v1 ⟨rfl, hb1⟩
    have hbr1 := HBR.out.trans (hb1.mono HBR.out.size)
    obtain ⟨x0, x1, x2, xfz⟩ := bkm3V (HKK.out.below hbr1 HKK.out.lt)
    go_wp2_with fail
    refine (slist_any v1 A n c (some ad) n d tn k (by omega)).mono ?_
    rintro e v2 ⟨rfl, hb2⟩
    have HB5 := hide (hbr1.trans (hb2.mono hbr1.size))
    clear hb1 hb2 hbr1 x0 x1 x2 xfz
    go_wp2
    go_roundg (go - 1)
    case rel => exact ⟨k + 1, by omega, by go_num, HB5.out⟩
    case measure => omega
  obtain rfl : k = n := by omega
  go_wp2
  obtain ⟨wL, hwL⟩ : ∃ x, x = wr := ⟨_, rfl⟩
  subst hwL
  have HBL := hide HBR.out
  clear c0 c1 c2 cfz CFR KKR HBR
  go_loopg [9] tn (fun g sI wr => ∃ j : Nat, g + j = tn ∧ sI = .int .i64 j ∧ Below wK.heap.size wK wr)
  case atStart => exact ⟨0, by omega, rfl, HBL.out⟩
  case round =>
  obtain ⟨t, ht, rfl, hbr⟩ := hrel
  have HBR := hide hbr
  clear hbr HBL
  have CFR := hide (CFK.out.below HBR.out)
  have KKR := hide (HKK.out.below HBR.out HKK.out.lt)
  obtain ⟨c0, c1, c2, cfz⟩ := bkm3V KKR.out
  by_cases hlt : t < tn
  · obtain ⟨v0, hv0⟩ : ∃ v, tlN l k + t * 11 + 0 = v := ⟨_, rfl⟩
    obtain ⟨v1, hv1⟩ : ∃ v, tlN l k + t * 11 + 1 = v := ⟨_, rfl⟩
    obtain ⟨v2, hv2⟩ : ∃ v, tlN l k + t * 11 + 2 = v := ⟨_, rfl⟩
    obtain ⟨v3, hv3⟩ : ∃ v, tlN l k + t * 11 + 3 = v := ⟨_, rfl⟩
    obtain ⟨v4, hv4⟩ : ∃ v, tlN l k + t * 11 + 4 = v := ⟨_, rfl⟩
    have hv0b : tlN l k + t * 11 = v0 := by rw [← hv0, Int.add_zero]
    have ne0 : (v0 != v0) = false := by simp
    have ne1 : (v1 != v1) = false := by simp
    have ne2 : (v2 != v2) = false := by simp
    have ne3 : (v3 != v3) = false := by simp
    have ne4 : (v4 != v4) = false := by simp
    have Q0 := hide (fun (u : Up wr) => show Calls Try.prog 24 #[.agg #[.slice A k c, .slice B k d, .int .i64 tn], .int .i64 t] u.1 fun e w' => e = .returned (.int .i64 v0) ∧ Below u.1.heap.size u.1 w' from by have := lclaim_any u.1 A k c l B k d tn (CFR.out.up u) t (by omega); rwa [hv0] at this)
    have Q1 := hide (fun (u : Up wr) => show Calls Try.prog 39 #[.agg #[.slice A k c, .slice B k d, .int .i64 tn], .int .i64 t] u.1 fun e w' => e = .returned (.int .i64 v0) ∧ Below u.1.heap.size u.1 w' from by have := rclaim_any u.1 A k c l B k d tn (CFR.out.up u) t (by omega); rwa [hv0b] at this)
    have Q2 := hide (fun (u : Up wr) => show Calls Try.prog 25 #[.agg #[.slice A k c, .slice B k d, .int .i64 tn], .int .i64 t] u.1 fun e w' => e = .returned (.int .i64 v1) ∧ Below u.1.heap.size u.1 w' from by have := lflag_any u.1 A k c l B k d tn (CFR.out.up u) t (by omega); rwa [hv1] at this)
    have Q3 := hide (fun (u : Up wr) => show Calls Try.prog 40 #[.agg #[.slice A k c, .slice B k d, .int .i64 tn], .int .i64 t] u.1 fun e w' => e = .returned (.int .i64 v1) ∧ Below u.1.heap.size u.1 w' from by have := rflag_any u.1 A k c l B k d tn (CFR.out.up u) t (by omega); rwa [hv1] at this)
    have Q4 := hide (fun (u : Up wr) => show Calls Try.prog 26 #[.agg #[.slice A k c, .slice B k d, .int .i64 tn], .int .i64 t] u.1 fun e w' => e = .returned (.int .i64 v2) ∧ Below u.1.heap.size u.1 w' from by have := lkind_any u.1 A k c l B k d tn (CFR.out.up u) t (by omega); rwa [hv2] at this)
    have Q5 := hide (fun (u : Up wr) => show Calls Try.prog 41 #[.agg #[.slice A k c, .slice B k d, .int .i64 tn], .int .i64 t] u.1 fun e w' => e = .returned (.int .i64 v2) ∧ Below u.1.heap.size u.1 w' from by have := rkind_any u.1 A k c l B k d tn (CFR.out.up u) t (by omega); rwa [hv2] at this)
    have Q6 := hide (fun (u : Up wr) => show Calls Try.prog 27 #[.agg #[.slice A k c, .slice B k d, .int .i64 tn], .int .i64 t] u.1 fun e w' => e = .returned (.int .i64 v3) ∧ Below u.1.heap.size u.1 w' from by have := lcase_any u.1 A k c l B k d tn (CFR.out.up u) t (by omega); rwa [hv3] at this)
    have Q7 := hide (fun (u : Up wr) => show Calls Try.prog 42 #[.agg #[.slice A k c, .slice B k d, .int .i64 tn], .int .i64 t] u.1 fun e w' => e = .returned (.int .i64 v3) ∧ Below u.1.heap.size u.1 w' from by have := rcase_any u.1 A k c l B k d tn (CFR.out.up u) t (by omega); rwa [hv3] at this)
    have Q8 := hide (fun (u : Up wr) => show Calls Try.prog 28 #[.agg #[.slice A k c, .slice B k d, .int .i64 tn], .int .i64 t] u.1 fun e w' => e = .returned (.int .i64 v4) ∧ Below u.1.heap.size u.1 w' from by have := lvalue_any u.1 A k c l B k d tn (CFR.out.up u) t (by omega); rwa [hv4] at this)
    have Q9 := hide (fun (u : Up wr) => show Calls Try.prog 43 #[.agg #[.slice A k c, .slice B k d, .int .i64 tn], .int .i64 t] u.1 fun e w' => e = .returned (.int .i64 v4) ∧ Below u.1.heap.size u.1 w' from by have := rvalue_any u.1 A k c l B k d tn (CFR.out.up u) t (by omega); rwa [hv4] at this)
    have u0 := fun (u : Up wr) => up_cell c0 u
    have u1 := fun (u : Up wr) => up_cell c1 u
    have u2 := fun (u : Up wr) => up_cell c2 u
    go_upto_region 20 with fail
    refine wp_region_up (by kernel_rfl) (by kernel_rfl) ?_
    repeat (go_big_quiet_step (first
      | (go_at_call 24; exact up_call (Q0.out _))
      | (go_at_call 39; exact up_call (Q1.out _))
      | (go_at_call 25; exact up_call (Q2.out _))
      | (go_at_call 40; exact up_call (Q3.out _))
      | (go_at_call 26; exact up_call (Q4.out _))
      | (go_at_call 41; exact up_call (Q5.out _))
      | (go_at_call 27; exact up_call (Q6.out _))
      | (go_at_call 42; exact up_call (Q7.out _))
      | (go_at_call 28; exact up_call (Q8.out _))
      | (go_at_call 43; exact up_call (Q9.out _))))
    refine wpQuiet_nil ?_
    rintro _ ⟨u, rfl⟩
    have HBU := hide (HBR.out.trans (u.2.mono HBR.out.size))
    clear u0 u1 u2 c0 c1 c2 cfz Q0 Q1 Q2 Q3 Q4 Q5 Q6 Q7 Q8 Q9
    generalize u.1 = w7 at *
    clear HBR CFR KKR
    have HBR := HBU
    clear HBU
    clear ne0 ne1 ne2 ne3 ne4 hv0 hv1 hv2 hv3 hv4 hv0b
    obtain ⟨go, hgo⟩ : ∃ x, x = gk := ⟨_, rfl⟩
    subst hgo
    have HBM := HBR
    clear HBR
    go_wp2
    go_loopg [10] 6 (fun g sI wr => ∃ j : Nat, g + j = 6 ∧ sI = .int .i64 j ∧ Below wK.heap.size wK wr)
    case atStart => exact ⟨0, by omega, rfl, HBM.out⟩
    case round =>
    obtain ⟨j, hj, rfl, hbr⟩ := hrel
    have HBR := hide hbr
    clear hbr HBM
    have CFR := hide (CFK.out.below HBR.out)
    have KKR := hide (HKK.out.below HBR.out HKK.out.lt)
    obtain ⟨c0, c1, c2, cfz⟩ := bkm3V KKR.out
    by_cases hlj : j < 6
    · obtain ⟨v0, hv0⟩ : ∃ v, tlN l k + t * 11 + 5 + j = v := ⟨_, rfl⟩
      have ne0 : (v0 != v0) = false := by simp
      have Q0 := hide (fun (u : Up wr) => show Calls Try.prog 29 #[.agg #[.slice A k c, .slice B k d, .int .i64 tn], .int .i64 t, .int .i64 j] u.1 fun e w' => e = .returned (.int .i64 v0) ∧ Below u.1.heap.size u.1 w' from by have := lout_any u.1 A k c l B k d tn (CFR.out.up u) t (by omega) j (by omega); rwa [hv0] at this)
      have Q1 := hide (fun (u : Up wr) => show Calls Try.prog 44 #[.agg #[.slice A k c, .slice B k d, .int .i64 tn], .int .i64 t, .int .i64 j] u.1 fun e w' => e = .returned (.int .i64 v0) ∧ Below u.1.heap.size u.1 w' from by have := rout_any u.1 A k c l B k d tn (CFR.out.up u) t (by omega) j (by omega); rwa [hv0] at this)
      have u0 := fun (u : Up wr) => up_cell c0 u
      have u1 := fun (u : Up wr) => up_cell c1 u
      have u2 := fun (u : Up wr) => up_cell c2 u
      go_upto_region 25 with fail
      refine wp_region_up (by kernel_rfl) (by kernel_rfl) ?_
      repeat (go_big_quiet_step (first
        | (go_at_call 29; exact up_call (Q0.out _))
        | (go_at_call 44; exact up_call (Q1.out _))))
      refine wpQuiet_nil ?_
      rintro _ ⟨u, rfl⟩
      have HBU := hide (HBR.out.trans (u.2.mono HBR.out.size))
      clear u0 u1 u2 c0 c1 c2 cfz Q0 Q1
      generalize u.1 = w7b at *
      clear HBR CFR KKR
      have HBR := HBU
      clear HBU
      clear ne0 hv0
      go_wp2
      go_roundg (gk - 1)
      case rel => exact ⟨j + 1, by omega, by go_num, HBR.out⟩
      case measure => omega
    obtain rfl : j = 6 := by omega
    go_wp2
    go_roundg (go - 1)
    case rel => exact ⟨t + 1, by omega, by go_num, HBR.out⟩
    case measure => omega
  obtain rfl : t = tn := by omega
  obtain ⟨v0, hv0⟩ : ∃ v, tlN l k + t * 11 = v := ⟨_, rfl⟩
  have ne0 : (v0 == v0) = true := by simp
  have Q0 := hide (fun (u : Up wr) => show Calls Try.prog 14 #[.agg #[.slice A k c, .slice B k d, .int .i64 t]] u.1 fun e w' => e = .returned (.int .i64 v0) ∧ Below u.1.heap.size u.1 w' from by have := lwords_any u.1 A k c l B k d (CFR.out.up u) t (by omega); rwa [hv0] at this)
  have Q1 := hide (fun (u : Up wr) => show Calls Try.prog 45 #[.agg #[.slice A k c, .slice B k d, .int .i64 t]] u.1 fun e w' => e = .returned (.int .i64 v0) ∧ Below u.1.heap.size u.1 w' from by have := rwords_any u.1 A k c l B k d (CFR.out.up u) t (by omega); rwa [hv0] at this)
  have u0 := fun (u : Up wr) => up_cell c0 u
  have u1 := fun (u : Up wr) => up_cell c1 u
  have u2 := fun (u : Up wr) => up_cell c2 u
  go_upto_region 27 with fail
  refine wp_region_up (by kernel_rfl) (by kernel_rfl) ?_
  repeat (go_big_quiet_step (first
    | (go_at_call 14; exact up_call (Q0.out _))
    | (go_at_call 45; exact up_call (Q1.out _))))
  refine wpQuiet_nil ?_
  rintro _ ⟨u, rfl⟩
  have HBU := hide (HBR.out.trans (u.2.mono HBR.out.size))
  clear u0 u1 u2 c0 c1 c2 cfz Q0 Q1
  generalize u.1 = w7 at *
  clear HBR CFR KKR
  have HBR := HBU
  clear HBU
  go_wp2
  go_ret
  exact ⟨rfl, BWK.out.trans (HBR.out.mono BWK.out.size)⟩
end Go.Proofs.Ytcaencocmfkfaaa
