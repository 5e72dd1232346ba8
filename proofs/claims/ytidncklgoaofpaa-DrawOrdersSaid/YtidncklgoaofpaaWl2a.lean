/- The walk of DrawOrders. -/
import Derived.Test.YtidncklgoaofpaaD3
namespace Go.Proofs.Ytidncklgoaofpaa
open Go.RowKit
set_option linter.unusedVariables false

set_option maxHeartbeats 2000000 in
set_option maxRecDepth 100000 in
theorem orders_walk (a0 : Int) (a1 : Option Addr) (len1 cap1 : Nat) (z1 : List Int) (a2 : Option Addr) (len2 cap2 : Nat) (z2 : List Int) (w : World) (w1 : Row .i64 w a1 len1 cap1 z1) (w2 : Row .u8 w a2 len2 cap2 z2) :
    Calls Try.prog 5 #[.int .i64 a0, .slice a1 len1 cap1, .slice a2 len2 cap2] w fun e w' => e = .returned (.bool true) ∧ Below w.heap.size w w' := by
  obtain ⟨hI1, hc1, hm1, hwf1⟩ := w1.isI
  obtain ⟨hI2, hc2, hm2, hwf2⟩ := w2.isI
  have hbd2 : ∀ x ∈ z2.take len2, 0 ≤ x ∧ x ≤ 255 := fun x hx => bounds_u8 (hwf2 x hx)
  have HB2 := hide hbd2
  have H1 := hide hI1
  have H2 := hide hI2
  clear hwf1 hwf2 w1 w2 hbd2 hI1 hI2
  generalize z1.take len1 = l1 at H1
  generalize z2.take len2 = l2 at H2 HB2
  by_cases h40 : 40 < len1
  · go_enter Try.func5, Try.ntmps5
    go_wp2_with (go_at_call 20; refine (awake2_any _).mono ?_; rintro e y ⟨rfl, hb⟩)
    go_ret
    exact ⟨rfl, hb⟩
  go_enter Try.func5, Try.ntmps5
  go_wp2_with fail
  refine (awake2_any _).mono ?_
  rintro e y1 ⟨rfl, hb1⟩
  have hs1 := hb1.size
  go_wp2_with fail
  refine (new_any _ _ _ _ _ 30 (H2.out.below hb1) HB2.out (by omega) hc2 hm2).mono ?_
  rintro e y2 ⟨rfl, hcd2, hb2'⟩
  have hb2 : Below w.heap.size w y2 := hb1.trans (hb2'.mono hs1)
  have C2 := hide hcd2
  clear hcd2 hb2'
  generalize l2.take 30 = r at C2
  have hkb := codeV_bd r 23 (by omega)
  go_wp2_with fail
  refine (codeNext _ _ _ _ _ C2.out (by omega) (by omega)).mono ?_
  rintro e y3 ⟨rfl, hcd3, hg3⟩
  generalize hk : codeV r 23 = k at hkb
  clear hk
  have hb3 := below_grownBy hb2 hg3 (Nat.le_refl _) hs1
  have C3 := hide hcd3
  clear hcd3 hg3
  by_cases hk1 : k ≤ 1
  · go_wp2_with fail
    refine (draws_any _ _ _ _ 0 C3.out (by omega)).mono ?_
    rintro e y4 ⟨u, rfl, hown4, hcd4, hg4⟩
    have hb4 := below_grownBy hb3 hg4 (Nat.le_refl _) hs1
    obtain ⟨UA, UC, rfl, -⟩ := own_form hown4
    have L2 := hide (IsI.of_own hown4)
    have hll : (drawsL r.tail 0).length ≤ 100 := by rw [drawsL_len]; omega
    clear hown4 hcd4 hg4
    generalize drawsL r.tail 0 = L at L2 hll
    go_wp2_with fail
    refine (order_any _ _ _ _ _ _ (H1.out.below hb4) (by omega)).mono ?_
    rintro e p1 ⟨A1, c1, rfl, hI1, hle1, hc1, hbp1⟩
    have hbw1 : Below w.heap.size w p1 := hb4.trans (hbp1.mono hb4.size)
    have J1 := hide hI1
    clear hI1
    go_wp2_with fail
    refine (rorder_any _ _ _ _ _ _ (H1.out.below hbw1) (by omega)).mono ?_
    rintro e q1 ⟨B1, d1, rfl, hK1, hme1, hd1, hbq1⟩
    have hbv1 : Below w.heap.size w q1 := hbw1.trans (hbq1.mono hbw1.size)
    have I1 := hide (J1.out.below hbq1)
    have K1 := hide hK1
    clear hK1
    go_wp2_with fail
    refine (same_any _ _ _ _ _ _ _ _ _ I1.out K1.out (by omega)).mono ?_
    rintro e z1 ⟨rfl, m1, rfl⟩
    have hbx1 : Below w.heap.size w (q1.drewN m1) := below_drewN hbv1 m1
    go_wp2_with fail
    refine (order_any _ _ _ _ _ _ (H1.out.below hbx1) (by omega)).mono ?_
    rintro e p2 ⟨A2, c2, rfl, hI2, hle2, hc2, hbp2⟩
    have hbw2 : Below w.heap.size w p2 := hbx1.trans (hbp2.mono hbx1.size)
    have J2 := hide hI2
    clear hI2
    go_wp2_with fail
    refine (rorder_any _ _ _ _ _ _ (H1.out.below hbw2) (by omega)).mono ?_
    rintro e q2 ⟨B2, d2, rfl, hK2, hme2, hd2, hbq2⟩
    have hbv2 : Below w.heap.size w q2 := hbw2.trans (hbq2.mono hbw2.size)
    have I2 := hide (J2.out.below hbq2)
    have K2 := hide hK2
    clear hK2
    go_wp2_with fail
    refine (same_any _ _ _ _ _ _ _ _ _ I2.out K2.out (by omega)).mono ?_
    rintro e z2 ⟨rfl, m2, rfl⟩
    have hbx2 : Below w.heap.size w (q2.drewN m2) := below_drewN hbv2 m2
    have L3 := hide ((((L2.out.below hbp1).below hbq1).drewN m1 |>.below hbp2).below hbq2 |>.drewN m2)
    go_wp2_with fail
    refine (order_any _ _ _ _ _ _ L3.out (by omega)).mono ?_
    rintro e p3 ⟨A3, c3, rfl, hI3, hle3, hc3, hbp3⟩
    have hbw3 : Below w.heap.size w p3 := hbx2.trans (hbp3.mono hbx2.size)
    have J3 := hide hI3
    clear hI3
    go_wp2_with fail
    refine (rorder_any _ _ _ _ _ _ (L3.out.below hbp3) (by omega)).mono ?_
    rintro e q3 ⟨B3, d3, rfl, hK3, hme3, hd3, hbq3⟩
    have hbv3 : Below w.heap.size w q3 := hbw3.trans (hbq3.mono hbw3.size)
    have I3 := hide (J3.out.below hbq3)
    have K3 := hide hK3
    clear hK3
    go_wp2_with fail
    refine (same_any _ _ _ _ _ _ _ _ _ I3.out K3.out (by omega)).mono ?_
    rintro e z3 ⟨rfl, m3, rfl⟩
    have hbx3 : Below w.heap.size w (q3.drewN m3) := below_drewN hbv3 m3
    go_wp2
    go_ret
    exact ⟨rfl, hbx3⟩
  · obtain ⟨n, rfl⟩ : ∃ n : Nat, k = (n : Int) + 1 := ⟨(k - 1).toNat, by omega⟩
    go_wp2_with fail
    refine (draws_any _ _ _ _ n C3.out (by omega)).mono ?_
    rintro e y4 ⟨u, rfl, hown4, hcd4, hg4⟩
    have hb4 := below_grownBy hb3 hg4 (Nat.le_refl _) hs1
    obtain ⟨UA, UC, rfl, -⟩ := own_form hown4
    have L2 := hide (IsI.of_own hown4)
    have hll : (drawsL r.tail n).length ≤ 100 := by rw [drawsL_len]; omega
    clear hown4 hcd4 hg4
    generalize drawsL r.tail n = L at L2 hll
    go_wp2_with fail
    refine (order_any _ _ _ _ _ _ (H1.out.below hb4) (by omega)).mono ?_
    rintro e p1 ⟨A1, c1, rfl, hI1, hle1, hc1, hbp1⟩
    have hbw1 : Below w.heap.size w p1 := hb4.trans (hbp1.mono hb4.size)
    have J1 := hide hI1
    clear hI1
    go_wp2_with fail
    refine (rorder_any _ _ _ _ _ _ (H1.out.below hbw1) (by omega)).mono ?_
    rintro e q1 ⟨B1, d1, rfl, hK1, hme1, hd1, hbq1⟩
    have hbv1 : Below w.heap.size w q1 := hbw1.trans (hbq1.mono hbw1.size)
    have I1 := hide (J1.out.below hbq1)
    have K1 := hide hK1
    clear hK1
    go_wp2_with fail
    refine (same_any _ _ _ _ _ _ _ _ _ I1.out K1.out (by omega)).mono ?_
    rintro e z1 ⟨rfl, m1, rfl⟩
    have hbx1 : Below w.heap.size w (q1.drewN m1) := below_drewN hbv1 m1
    go_wp2_with fail
    refine (order_any _ _ _ _ _ _ (H1.out.below hbx1) (by omega)).mono ?_
    rintro e p2 ⟨A2, c2, rfl, hI2, hle2, hc2, hbp2⟩
    have hbw2 : Below w.heap.size w p2 := hbx1.trans (hbp2.mono hbx1.size)
    have J2 := hide hI2
    clear hI2
    go_wp2_with fail
    refine (rorder_any _ _ _ _ _ _ (H1.out.below hbw2) (by omega)).mono ?_
    rintro e q2 ⟨B2, d2, rfl, hK2, hme2, hd2, hbq2⟩
    have hbv2 : Below w.heap.size w q2 := hbw2.trans (hbq2.mono hbw2.size)
    have I2 := hide (J2.out.below hbq2)
    have K2 := hide hK2
    clear hK2
    go_wp2_with fail
    refine (same_any _ _ _ _ _ _ _ _ _ I2.out K2.out (by omega)).mono ?_
    rintro e z2 ⟨rfl, m2, rfl⟩
    have hbx2 : Below w.heap.size w (q2.drewN m2) := below_drewN hbv2 m2
    have L3 := hide ((((L2.out.below hbp1).below hbq1).drewN m1 |>.below hbp2).below hbq2 |>.drewN m2)
    go_wp2_with fail
    refine (order_any _ _ _ _ _ _ L3.out (by omega)).mono ?_
    rintro e p3 ⟨A3, c3, rfl, hI3, hle3, hc3, hbp3⟩
    have hbw3 : Below w.heap.size w p3 := hbx2.trans (hbp3.mono hbx2.size)
    have J3 := hide hI3
    clear hI3
    go_wp2_with fail
    refine (rorder_any _ _ _ _ _ _ (L3.out.below hbp3) (by omega)).mono ?_
    rintro e q3 ⟨B3, d3, rfl, hK3, hme3, hd3, hbq3⟩
    have hbv3 : Below w.heap.size w q3 := hbw3.trans (hbq3.mono hbw3.size)
    have I3 := hide (J3.out.below hbq3)
    have K3 := hide hK3
    clear hK3
    go_wp2_with fail
    refine (same_any _ _ _ _ _ _ _ _ _ I3.out K3.out (by omega)).mono ?_
    rintro e z3 ⟨rfl, m3, rfl⟩
    have hbx3 : Below w.heap.size w (q3.drewN m3) := below_drewN hbv3 m3
    go_wp2
    go_ret
    exact ⟨rfl, hbx3⟩
end Go.Proofs.Ytidncklgoaofpaa
