/- The walk of the accesses' law of a chapter of the ring. -/
import Derived.Test.YtepngbdjobckbaaA9
namespace Go.Proofs.Ytepngbdjobckbaa
open Go.RowKit
set_option linter.unusedVariables false
set_option maxHeartbeats 4000000 in
set_option maxRecDepth 100000 in
theorem accesses9_walk (a0 : Option Addr) (len0 cap0 : Nat) (z0 : List Int) (a1 : Option Addr) (len1 cap1 : Nat) (z1 : List Int) (w : World) (w0 : Row .u8 w a0 len0 cap0 z0) (w1 : Row .u8 w a1 len1 cap1 z1) :
    Calls Try.prog 6 #[.slice a0 len0 cap0, .slice a1 len1 cap1] w fun e w' => e = .returned (.bool true) ∧ Below w.heap.size w w' := by
  obtain ⟨hI1, hc1, hm1, hwf1⟩ := w0.isI
  obtain ⟨hI2, hc2, hm2, hwf2⟩ := w1.isI
  have H1 := hide hI1
  have HB1 := hide (show ∀ x ∈ z0.take len0, 0 ≤ x ∧ x ≤ 255 from fun x hx => bounds_u8 (hwf1 x hx))
  have H2 := hide hI2
  have HB2 := hide (show ∀ x ∈ z1.take len1, 0 ≤ x ∧ x ≤ 255 from fun x hx => bounds_u8 (hwf2 x hx))
  clear hwf1 w0 hI1 hwf2 w1 hI2
  generalize z0.take len0 = l0 at H1 HB1
  generalize z1.take len1 = l1 at H2 HB2
  have hcm1 : cap0 ≤ 9223372036854775807 := hm1
  have hcm2 : cap1 ≤ 9223372036854775807 := hm2
  have HAB := hide (show 0 < len1 → ∀ ad, a1 = some ad → ad.block < w.heap.size from fun h0 ad e => by
    obtain ⟨ad', e', _, hcl⟩ := H2.out.at_ h0
    rw [e] at e'
    cases e'
    have := block_lt hcl
    rwa [block_add] at this)
  clear hm1 hm2
  go_enter Try.func6, Try.ntmps6
  go_wp2_with fail
  refine (awake9_any _).mono ?_
  rintro e y1 ⟨rfl, hb1⟩
  have hs1 := hb1.size
  have HB1' := hide hb1
  clear hb1
  go_wp2_with fail
  refine (others9_any addOk9 y1 _ _ _ _ (H1.out.below HB1'.out) HB1.out hc1 hcm1 6 (by omega)).mono ?_
  rintro e y2 ⟨G, l, s, tn, ms, rfl, hG, hwi, hok, hb2⟩
  have hwG : w.heap.size ≤ G := Nat.le_trans hs1 hG
  have BW2 := hide (HB1'.out.trans (hb2.mono hs1))
  have WI2 := hide hwi
  have OK := hide hok
  clear hwi hok hb2 HB1' H1 HB1
  have AD := hide (add9_wi y2 G G _ 4 0 0 0 WI2.out (by omega) (by show 0 < l.length; have := OK.out.n; omega) (by omega) (by unfold u64; omega) (by show ms.length ≤ 1000; have := OK.out.k; omega))
  go_wp2_with fail
  refine AD.out.mono ?_
  rintro e y3 ⟨rfl, hw3, hb3, -⟩
  have WI3 := hide hw3
  have BW3 := hide (BW2.out.trans (hb3.mono hwG))
  clear hw3 hb3 AD WI2 BW2
  have AD := hide (add9_wi y3 G G _ 4 0 0 0 WI3.out (by omega) (by show 0 < l.length; have := OK.out.n; omega) (by omega) (by unfold u64; omega) (by show (ms ++ [mc0 4 0 0 0]).length ≤ 1000; have := OK.out.k; rw [List.length_append, List.length_singleton]; omega))
  go_wp2_with fail
  refine AD.out.mono ?_
  rintro e y4 ⟨rfl, hw3, hb3, -⟩
  have WI4 := hide hw3
  have BW4 := hide (BW3.out.trans (hb3.mono hwG))
  clear hw3 hb3 AD WI3 BW3
  have HL : Hid (((ms ++ [mc0 4 0 0 0]) ++ [mc0 4 0 0 0]).length = ms.length + 2) := hide (by simp)
  have PL := hide (play9_any knows9 y4 G G _ a1 len1 cap1 l1 150 25 WI4.out (H2.out.below BW4.out) HB2.out (fun h0 ad e => Nat.lt_of_lt_of_le (HAB.out h0 ad e) hwG) (by omega) (by omega) (by omega) (by show 0 < ((ms ++ [mc0 4 0 0 0]) ++ [mc0 4 0 0 0]).length; rw [HL.out]; omega) (by show ((ms ++ [mc0 4 0 0 0]) ++ [mc0 4 0 0 0]).length ≤ 20; rw [HL.out]; have := OK.out.k; omega) (by show 0 ≤ 100; omega))
  clear WI4 HL OK
  go_wp2_with fail
  refine PL.out.mono ?_
  rintro e w9 ⟨rfl, -, hb9⟩
  have HB9 := hide (BW4.out.trans (hb9.mono hwG))
  clear hb9 PL
  go_wp2
  go_ret
  exact ⟨rfl, HB9.out⟩
end Go.Proofs.Ytepngbdjobckbaa
