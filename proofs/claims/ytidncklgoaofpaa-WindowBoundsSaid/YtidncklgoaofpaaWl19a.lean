/- The walks of WindowBounds and WindowMeasures. -/
import Derived.Test.YtidncklgoaofpaaW19
import Derived.Test.YtidncklgoaofpaaS
namespace Go.Proofs.Ytidncklgoaofpaa
open Go.RowKit
set_option linter.unusedVariables false

theorem Try.int_info : (Try.prog.info? 3).map (fun i => (i.zero, i.size, i.bytes)) = some (some (.int .i64 0), 1, 8) := by kernel_rfl
theorem bounds_walk (a0 : Int) (a1 : Int) (a2 : Int) (a3 : Int) (w : World) (w0 : (Lit.int .i64 a0).wf = true) (w1 : (Lit.int .i64 a1).wf = true) (w2 : (Lit.int .u8 a2).wf = true) (w3 : (Lit.int .u8 a3).wf = true) :
    Calls Try.prog 4 #[.int .i64 a0, .int .i64 a1, .int .u8 a2, .int .u8 a3] w fun e w' => e = .returned (.bool true) ∧ Below w.heap.size w w' := by
  have b2 := bounds_u8 w2
  have b3 := bounds_u8 w3
  go_enter Try.func4, Try.ntmps4
  go_wp2_with (first
    | (go_at_call 14; refine (awake_any _).mono ?_; rintro e w1 ⟨rfl, hb1⟩)
    | (go_at_call 18; refine (bound_any _ _ _).mono ?_; rintro e w' ⟨rfl, rfl⟩)
    | (go_at_call 19; refine (rbound_any _ _ _).mono ?_; rintro e w' ⟨rfl, rfl⟩))
  go_ret
  exact ⟨rfl, hb1⟩

def smallL (l : List Int) : List Int := l.map fun b => b % 10 - 1
set_option maxHeartbeats 2000000 in
theorem measures_walk (a0 : Option Addr) (len0 cap0 : Nat) (z0 : List Int) (a1 : Int) (a2 : Option Addr) (len2 cap2 : Nat) (z2 : List Int) (w : World) (w0 : Row .i64 w a0 len0 cap0 z0) (w1 : (Lit.int .i64 a1).wf = true) (w2 : Row .u8 w a2 len2 cap2 z2) :
    Calls Try.prog 3 #[.slice a0 len0 cap0, .int .i64 a1, .slice a2 len2 cap2] w fun e w' => e = .returned (.bool true) ∧ Below w.heap.size w w' := by
  obtain ⟨hI0, hc0, hm0, hwf0⟩ := w0.isI
  obtain ⟨hI2, hc2, hm2, hwf2⟩ := w2.isI
  have b1 := bounds_i64 w1
  have hbd2 : ∀ x ∈ z2.take len2, 0 ≤ x ∧ x ≤ 255 := fun x hx => bounds_u8 (hwf2 x hx)
  have hl2 := hI2.len
  have HB2 := hide hbd2
  have H0 := hide hI0
  have H2 := hide hI2
  have HL2 := hide hl2
  clear hwf0 hwf2 w0 w2 hbd2 hI0 hI2 hl2
  generalize z0.take len0 = l0 at H0
  generalize z2.take len2 = l2 at H2 HB2 HL2
  obtain ⟨i0, hi, hz0, hz1, hz2⟩ := info_parts Try.int_info
  by_cases h0 : 100 < len0
  · go_enter Try.func3, Try.ntmps3
    go_wp2_with (go_at_call 14; refine (awake_any _).mono ?_; rintro e w1 ⟨rfl, hb1⟩)
    go_ret
    exact ⟨rfl, hb1⟩
  by_cases h2 : 100 < len2
  · have h3 : decide ((100 : Int) < len0) = false := by simp; omega
    go_enter Try.func3, Try.ntmps3
    go_wp2_with (go_at_call 14; refine (awake_any _).mono ?_; rintro e w1 ⟨rfl, hb1⟩)
    go_ret
    exact ⟨rfl, hb1⟩
  have h3 : decide ((100 : Int) < len0) = false := by simp; omega
  have h4 : decide ((100 : Int) < len2) = false := by simp; omega
  go_enter Try.func3, Try.ntmps3
  go_wp2_with (first
    | (go_at_call 14; refine (awake_any _).mono ?_; rintro e w1 ⟨rfl, hb1⟩)
    | (go_at_call 15; refine (mod_any _ _ _ (by omega) (by omega) (by omega) (by omega)).mono ?_; rintro e w' ⟨rfl, rfl⟩))
  have hsz1 := hb1.size
  generalize ht : a1 % 10 = t
  go_loopg [8, 24] len2 (fun m v i wr => ∃ k : Nat, m + k = len2 ∧ i = .int .i64 k ∧ Below w.heap.size w wr ∧ wr.ownsRow w.heap.size 3 1 v (smallL (l2.take k)).length ((smallL (l2.take k)).map (Value.int .i64)))
  case atStart => exact ⟨0, by omega, rfl, hb1, World.ownsRow_nil _ _ _ _⟩
  case round =>
    obtain ⟨k, hk, rfl, hbel, hown⟩ := hrel
    have OW := hide hown
    have hsz := hbel.size
    clear hown hb1 hsz1
    by_cases hlt : k < len2
    · obtain ⟨ad, rfl, _, c1⟩ := (H2.out.below hbel).at_ hlt
      have hkl : k < l2.length := by have := HL2.out; omega
      have hb := HB2.out (l2.getD k 0) (by rw [List.getD, List.getElem?_eq_getElem hkl]; exact List.getElem_mem _)
      have hst : smallL (l2.take (k + 1)) = smallL (l2.take k) ++ [l2.getD k 0 % 10 - 1] := by
        unfold smallL
        rw [List.take_succ_eq_append_getElem hkl, List.map_append, List.getD, List.getElem?_eq_getElem hkl]
        rfl
      have HST := hide hst
      have hlen : (smallL (l2.take k)).length ≤ 100 := by unfold smallL; simp; omega
      clear hst
      generalize l2.getD k 0 = b at c1 hb HST
      go_wp2_with ((at_builtin; refine wpList_pushI wr (by rfl) _ _ _ (by rfl) w.heap.size 3 i0 .i64 8 Try.underlying22 hi hz0 hz1 hz2 _ _ (by rfl) OW.out _ (by rfl) ?_ ?_ ?_ ?_))
      · omega
      · omega
      · omega
      intro v' w3 hown3 hg3 _
      have hb3 := hbel.trans (own_below OW.out hg3 (Nat.le_refl _) hsz)
      have O3 := hide hown3
      clear hown3 hg3
      go_wp2
      go_roundg (gk - 1)
      case rel => exact ⟨k + 1, by omega, by go_num, hb3, by rw [HST.out]; simpa using O3.out⟩
      case measure => omega
    · have hfin : smallL (l2.take k) = smallL l2 := by rw [List.take_of_length_le (by have := HL2.out; omega)]
      have hlen : (smallL l2).length ≤ 100 := by unfold smallL; rw [List.length_map, HL2.out]; omega
      have O1 := OW.out
      rw [hfin] at O1
      obtain ⟨A, C, rfl, -⟩ := own_form O1
      have I1 := hide (IsI.of_own O1)
      have I0 := hide (H0.out.below hbel)
      clear hfin O1 OW
      generalize smallL l2 = L at I1 hlen
      go_wp2_with fail
      refine (measure_any _ _ _ _ _ _ I0.out (by omega)).mono ?_
      rintro e x1 ⟨rfl, hb1⟩
      go_wp2_with fail
      refine (rmeasure_any _ _ _ _ _ _ (I0.out.below hb1) (by omega)).mono ?_
      rintro e x2 ⟨rfl, hb2⟩
      have hb12 : Below wr.heap.size wr x2 := hb1.trans (hb2.mono hb1.size)
      go_wp2_with fail
      refine (measure_any _ _ _ _ _ _ (I1.out.below hb12) (by omega)).mono ?_
      rintro e x3 ⟨rfl, hb3⟩
      have hb13 : Below wr.heap.size wr x3 := hb12.trans (hb3.mono hb12.size)
      go_wp2_with fail
      refine (rmeasure_any _ _ _ _ _ _ (I1.out.below hb13) (by omega)).mono ?_
      rintro e x4 ⟨rfl, hb4⟩
      have hb14 : Below wr.heap.size wr x4 := hb13.trans (hb4.mono hb13.size)
      go_wp2_with fail
      refine (measure_any _ _ _ _ _ _ (I0.out.below hb14) (by omega)).mono ?_
      rintro e x5 ⟨rfl, hb5⟩
      have hb15 : Below wr.heap.size wr x5 := hb14.trans (hb5.mono hb14.size)
      go_wp2_with fail
      refine (rmeasure_any _ _ _ _ _ _ (I0.out.below hb15) (by omega)).mono ?_
      rintro e x6 ⟨rfl, hb6⟩
      have hb16 : Below wr.heap.size wr x6 := hb15.trans (hb6.mono hb15.size)
      go_wp2
      go_ret
      exact ⟨rfl, hbel.trans (hb16.mono hsz)⟩
end Go.Proofs.Ytidncklgoaofpaa
