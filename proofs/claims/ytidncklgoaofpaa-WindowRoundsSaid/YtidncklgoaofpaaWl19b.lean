/- The walk of WindowRounds. -/
import Derived.Test.YtidncklgoaofpaaD4
import Derived.Test.YtidncklgoaofpaaW19
namespace Go.Proofs.Ytidncklgoaofpaa
open Go.RowKit
set_option linter.unusedVariables false

def TwoI (w : World) (g : Nat) : Prop := g < w.heap.size ∧ ∀ k, k < 2 → ∃ x, w.cell? ⟨g, k, none⟩ = some (.int .i64 x)
theorem TwoI.below {w w' : World} {g : Nat} (h : TwoI w g) (hb : Below w.heap.size w w') : TwoI w' g :=
  ⟨Nat.lt_of_lt_of_le h.1 hb.size, fun k hk => by
    obtain ⟨x, h1⟩ := h.2 k hk
    exact ⟨x, by rw [hb.cell (p := ⟨g, k, none⟩) h.1]; exact h1⟩⟩
theorem TwoI.new (w : World) (t : TypeId) (x y : Int) : TwoI (w.alloc (.cells #[.int .i64 x, .int .i64 y] t)) w.heap.size := by
  refine ⟨by simp, fun j hj => ?_⟩
  have hj' : j = 0 ∨ j = 1 := by omega
  rcases hj' with rfl | rfl
  · exact ⟨_, (Bk.new _ _ _).cell 0⟩
  · exact ⟨_, (Bk.new _ _ _).cell 1⟩
set_option maxHeartbeats 2000000 in
set_option maxRecDepth 100000 in
theorem rounds_walk (a0 : Int) (a1 : Int) (a2 : Option Addr) (len2 cap2 : Nat) (z2 : List Int) (w : World) (w0 : (Lit.int .i64 a0).wf = true) (w1 : (Lit.int .i64 a1).wf = true) (w2 : Row .i64 w a2 len2 cap2 z2) :
    Calls Try.prog 12 #[.int .i64 a0, .int .i64 a1, .slice a2 len2 cap2] w fun e w' => e = .returned (.bool true) ∧ Below w.heap.size w w' := by
  obtain ⟨hI2, hc2, hm2, hwf2⟩ := w2.isI
  have b0 := bounds_i64 w0
  have b1 := bounds_i64 w1
  have hbd2 : ∀ x ∈ z2.take len2, -9223372036854775808 ≤ x ∧ x ≤ 9223372036854775807 := fun x hx => bounds_i64 (hwf2 x hx)
  have HB2 := hide hbd2
  have H2 := hide hI2
  have HL := hide hI2.len
  clear hwf2 w2 hbd2 hI2
  generalize z2.take len2 = l2 at H2 HB2 HL
  by_cases h40 : 40 < len2
  · go_enter Try.func12, Try.ntmps12
    go_wp2_with (go_at_call 14; refine (awake_any _).mono ?_; rintro e y ⟨rfl, hb⟩)
    go_ret
    exact ⟨rfl, hb⟩
  go_enter Try.func12, Try.ntmps12
  go_wp2_with fail
  refine (awake_any _).mono ?_
  rintro e y1 ⟨rfl, hb1⟩
  have hs1 := hb1.size
  go_wp2_with (go_at_call 15; refine (mod_any _ _ _ (by omega) (by omega) (by omega) (by omega)).mono ?_; rintro e w' ⟨rfl, rfl⟩)
  have T0 := hide (TwoI.new y1 3 a0 (a0 % 11 - 1))
  have hbA : Below w.heap.size w (y1.alloc (.cells #[.int .i64 a0, .int .i64 (a0 % 11 - 1)] 3)) := hb1.alloc hs1 _
  go_loopg [20] 2 (fun m i wr => ∃ k : Nat, m + k = 2 ∧ i = .int .i64 k ∧ Below w.heap.size w wr ∧ TwoI wr y1.heap.size)
  case atStart => exact ⟨0, rfl, rfl, hbA, T0.out⟩
  case round =>
    obtain ⟨k, hk, rfl, hbel, htw⟩ := hrel
    clear T0 hbA hb1
    by_cases hk2 : k < 2
    · obtain ⟨t, hct⟩ := htw.2 k hk2
      have T1 := hide htw
      have hsz := hbel.size
      clear htw
      go_wp2_with fail
      refine (round_any _ _ _ b1.1 b1.2).mono ?_
      rintro e p1 ⟨A1, c1, rfl, hI1, hle1, hd1, hp1⟩
      have I1 := hide hI1
      have hr := rnd_len t a1
      clear hI1
      go_wp2_with fail
      refine (rround_any _ _ _ b1.1 b1.2).mono ?_
      rintro e p2 ⟨A2, c2, rfl, hI2, hle2, hd2, hp2⟩
      have I2 := hide (I1.out.below hp2)
      have J2 := hide hI2
      clear hI2
      go_wp2_with fail
      refine (same_any _ _ _ _ _ _ _ _ _ I2.out J2.out (by omega)).mono ?_
      rintro e z2 ⟨rfl, m2, rfl⟩
      have hb2 : Below wr.heap.size wr (p2.drewN m2) := below_drewN (hp1.trans (hp2.mono hp1.size)) m2
      go_wp2_with fail
      refine (rounds_any _ _ _ _ _ _ ((H2.out.below hbel).below hb2) HB2.out (by omega)).mono ?_
      rintro e p3 ⟨A3, c3, rfl, hI3, hle3, hd3, hp3⟩
      have I3 := hide hI3
      have hr3 := rnds_len t l2
      have hl2 : l2.length ≤ 40 := by have := HL.out; omega
      have hb3 : Below wr.heap.size wr p3 := hb2.trans (hp3.mono hb2.size)
      clear hI3
      go_wp2_with fail
      refine (rrounds_any _ _ _ _ _ _ ((H2.out.below hbel).below hb3) HB2.out (by omega)).mono ?_
      rintro e p4 ⟨A4, c4, rfl, hI4, hle4, hd4, hp4⟩
      have I4 := hide (I3.out.below hp4)
      have J4 := hide hI4
      clear hI4
      go_wp2_with fail
      refine (same_any _ _ _ _ _ _ _ _ _ I4.out J4.out (by omega)).mono ?_
      rintro e z4 ⟨rfl, m4, rfl⟩
      have hb4 : Below wr.heap.size wr (p4.drewN m4) := below_drewN (hb3.trans (hp4.mono hb3.size)) m4
      go_wp2
      go_roundg (gk - 1)
      case rel => exact ⟨k + 1, by omega, by go_num, hbel.trans (hb4.mono hsz), T1.out.below hb4⟩
      case measure => omega
    · clear htw
      go_wp2
      go_ret
      exact ⟨rfl, hbel⟩
end Go.Proofs.Ytidncklgoaofpaa
