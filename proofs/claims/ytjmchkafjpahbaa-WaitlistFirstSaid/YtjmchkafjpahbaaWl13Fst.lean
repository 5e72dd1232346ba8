/- The walk of WaitlistFirst. -/
import Derived.Test.YtjmchkafjpahbaaW13b
import Derived.Test.YtjmchkafjpahbaaS
namespace Go.Proofs.Ytjmchkafjpahbaa
open Go.RowKit
set_option linter.unusedVariables false

/-- Block g holds two slices of numbers. -/
def TwoL (w : World) (g : Nat) : Prop :=
  g < w.heap.size ∧ ∀ k, k < 2 → ∃ A n c l, w.cell? ⟨g, k, none⟩ = some (.slice A n c) ∧ IsI .i64 w A n l ∧ n ≤ 40 ∧ ∀ x ∈ l, x ≤ 9223372036854775807
theorem TwoL.below {w w' : World} {g : Nat} (h : TwoL w g) (hb : Below w.heap.size w w') : TwoL w' g :=
  ⟨Nat.lt_of_lt_of_le h.1 hb.size, fun k hk => by
    obtain ⟨A, n, c, l, h1, h2, h3⟩ := h.2 k hk
    exact ⟨A, n, c, l, by rw [hb.cell (p := ⟨g, k, none⟩) h.1]; exact h1, h2.below hb, h3⟩⟩
def TwoI (w : World) (g : Nat) : Prop := g < w.heap.size ∧ ∀ k, k < 2 → ∃ x, w.cell? ⟨g, k, none⟩ = some (.int .i64 x)
theorem TwoI.below {w w' : World} {g : Nat} (h : TwoI w g) (hb : Below w.heap.size w w') : TwoI w' g :=
  ⟨Nat.lt_of_lt_of_le h.1 hb.size, fun k hk => by
    obtain ⟨x, h1⟩ := h.2 k hk
    exact ⟨x, by rw [hb.cell (p := ⟨g, k, none⟩) h.1]; exact h1⟩⟩
theorem fst2_wout (l : List Int) (t : Int) : fst2 l t = decide (0 < (wout l t).length) := by
  unfold fst2 wout
  rw [Bool.eq_iff_iff, List.find?_isSome]
  simp [List.length_filter_pos_iff]
theorem fst1_wout (l : List Int) (t : Int) (h : 0 < (wout l t).length) : (wout l t).getD 0 0 = fst1 l t := by
  unfold fst1 wout at *
  rw [List.getD, ← List.head?_eq_getElem?, List.head?_filter]
theorem first_in (l : List Int) (t : Int) : (fst2 l t = false ∧ (wout l t).length ≤ 0) ∨ (fst2 l t = true ∧ 0 < (wout l t).length) := by
  have h := fst2_wout l t
  rcases Nat.eq_zero_or_pos (wout l t).length with h0 | h0
  · left; rw [h, h0]; exact ⟨rfl, Nat.le_refl _⟩
  · right; rw [h]; exact ⟨by simpa using h0, h0⟩
set_option maxHeartbeats 2000000 in
set_option maxRecDepth 100000 in
theorem first_walk (a0 : Option Addr) (len0 cap0 : Nat) (z0 : List Int) (a1 : Option Addr) (len1 cap1 : Nat) (z1 : List Int) (a2 : Int) (w : World) (w0 : Row .i64 w a0 len0 cap0 z0) (w1 : Row .u8 w a1 len1 cap1 z1) (w2 : (Lit.int .i64 a2).wf = true) :
    Calls Try.prog 6 #[.slice a0 len0 cap0, .slice a1 len1 cap1, .int .i64 a2] w fun e w' => e = .returned (.bool true) ∧ Below w.heap.size w w' := by
  obtain ⟨hI0, hc0, hm0, hwf0⟩ := w0.isI
  obtain ⟨hI1, hc1, hm1, hwf1⟩ := w1.isI
  have b2 := bounds_i64 w2
  have hbd0 : ∀ x ∈ z0.take len0, x ≤ 9223372036854775807 := fun x hx => (bounds_i64 (hwf0 x hx)).2
  have hbd1 : ∀ x ∈ z1.take len1, 0 ≤ x ∧ x ≤ 255 := fun x hx => bounds_u8 (hwf1 x hx)
  clear hwf0 hwf1 w0 w1
  have HB0 := hide hbd0
  have HB1 := hide hbd1
  have H0 := hide hI0
  have H1 := hide hI1
  clear hbd0 hbd1 hI0 hI1
  by_cases h40 : 40 < len0
  · go_enter Try.func6, Try.ntmps6
    go_wp2_with (first | (go_at_call 8; refine (awake_any _).mono ?_; rintro e w' ⟨rfl, rfl⟩))
    go_ret
    exact ⟨rfl, Below.refl _ _⟩
  · go_enter Try.func6, Try.ntmps6
    go_wp2_with (first
      | (go_at_call 8; refine (awake_any _).mono ?_; rintro e w' ⟨rfl, rfl⟩)
      | (go_at_call 18; refine (records_any _ _ _ _ _ H1.out HB1.out hc1 hm1).mono ?_; rintro e x1 ⟨v, rfl, hown, hb1⟩; obtain ⟨RA, RC, hv, -⟩ := own_form hown; have OW := hide hown; clear hown; subst hv))
    have hT : TwoL (x1.alloc (.cells #[.slice a0 len0 cap0, .slice RA (recs (z1.take len1)).length RC] 27)) x1.heap.size := by
      refine ⟨by simp, fun k hk => ?_⟩
      have hk' : k = 0 ∨ k = 1 := by omega
      rcases hk' with rfl | rfl
      · exact ⟨a0, len0, cap0, z0.take len0, (Bk.new _ _ _).cell 0, (H0.out.below hb1).alloc _, by omega, HB0.out⟩
      · refine ⟨RA, _, RC, recs (z1.take len1), (Bk.new _ _ _).cell 1, (IsI.of_own OW.out).alloc _, ?_, ?_⟩
        · unfold recs; simp; omega
        · intro x hx
          unfold recs at hx
          simp only [List.mem_map] at hx
          obtain ⟨y, hy, rfl⟩ := hx
          have := Int.emod_lt_of_pos y (show (0 : Int) < 26 by decide)
          omega
    have hbA : Below w.heap.size w (x1.alloc (.cells #[.slice a0 len0 cap0, .slice RA (recs (z1.take len1)).length RC] 27)) := hb1.alloc hb1.size _
    have HT := hide hT
    clear hT OW H0 H1 HB0 HB1 hb1
    go_loopg [26] 2 (fun m i wr => ∃ k : Nat, m + k = 2 ∧ i = .int .i64 k ∧ Below w.heap.size w wr ∧ TwoL wr x1.heap.size)
    case atStart => exact ⟨0, rfl, rfl, hbA, HT.out⟩
    case round =>
      obtain ⟨k, hk, rfl, hbel, hT⟩ := hrel
      obtain ⟨gko, hgo⟩ : ∃ g : Nat, g = gk := ⟨_, rfl⟩
      subst hgo
      have hsz := hbel.size
      clear HT hbA
      by_cases hk2 : k < 2
      · obtain ⟨A, n, c, l, hcell, hI, hn, hbd⟩ := hT.2 k hk2
        have T1 := hide hT
        have I1 := hide hI
        have HBD := hide hbd
        clear hT hI hbd
        go_wp2_with (first
          | (go_at_call 13; refine (mod_any _ _ _ (by omega) (by omega) (by omega) (by omega)).mono ?_; rintro e w' ⟨rfl, rfl⟩))
        obtain ⟨wo, hwo, two, twi, hbo, hio, hszo⟩ : ∃ wo : World, wo = wr.alloc (.cells #[.int .i64 a2, .int .i64 (a2 % 6 - 1)] 3) ∧ TwoL wo x1.heap.size ∧ TwoI wo wr.heap.size ∧ Below w.heap.size w wo ∧ IsI .i64 wo A n l ∧ wr.heap.size < wo.heap.size := by
          refine ⟨_, rfl, T1.out.below ((Below.refl _ _).alloc (Nat.le_refl _) _), ⟨by simp, fun j hj => ?_⟩, hbel.alloc hbel.size _, I1.out.alloc _, by simp⟩
          have hj' : j = 0 ∨ j = 1 := by omega
          rcases hj' with rfl | rfl
          · exact ⟨_, (Bk.new _ _ _).cell 0⟩
          · exact ⟨_, (Bk.new _ _ _).cell 1⟩
        have TWO := hide two
        have TWI := hide twi
        have HIO := hide hio
        clear two twi hio T1 I1 hcell
        rw [← hwo]
        clear hwo
        go_loopg [36] 2 (fun m i wq => ∃ j : Nat, m + j = 2 ∧ i = .int .i64 j ∧ Below w.heap.size w wq ∧ TwoL wq x1.heap.size ∧ TwoI wq wr.heap.size ∧ IsI .i64 wq A n l)
        case atStart => exact ⟨0, rfl, rfl, hbo, TWO.out, TWI.out, HIO.out⟩
        case round =>
          obtain ⟨j, hj, rfl, hbq, twq, tiq, hiq⟩ := hrel
          clear TWO TWI HIO hbo
          by_cases hj2 : j < 2
          · obtain ⟨t, hct⟩ := tiq.2 j hj2
            have hsq := hbq.size
            have TWO := hide twq
            have TWI := hide tiq
            have HIQ := hide hiq
            clear twq tiq hiq
            have hz := hide (fst1_wout l t)
            have hwl : (wout l t).length ≤ n := by have := HIQ.out.len; unfold wout; have := List.length_filter_le (fun r => th r != t) l; omega
            rcases first_in l t with ⟨f1, f2⟩ | ⟨f1, f2⟩
            · go_wp2_with (first
                | (go_at_call 21; refine (first_any _ _ _ _ _ _ HIQ.out HBD.out (by omega)).mono ?_; rintro e w' ⟨rfl, rfl⟩)
                | (go_at_call 22; refine (rfirst_any _ _ _ _ _ _ HIQ.out HBD.out (by omega)).mono ?_; rintro e w' ⟨rfl, rfl⟩)
                | (go_at_call 23; refine (without_any _ _ _ _ _ _ HIQ.out HBD.out (by omega)).mono ?_; rintro e y1 ⟨v1, rfl, hown1, hby1⟩; obtain ⟨A1, C1, hv1, -⟩ := own_form hown1; have O1 := hide hown1; clear hown1; subst hv1)
                | (go_at_call 25; refine (rwithout_any _ _ _ _ _ _ (HIQ.out.below hby1) HBD.out (by omega)).mono ?_; rintro e y2 ⟨v2, rfl, hown2, hby2⟩; obtain ⟨A2, C2, hv2, -⟩ := own_form hown2; have O2 := hide hown2; clear hown2; subst hv2)
                | (go_at_call 24; refine (same_any _ _ _ _ _ _ _ _ _ ((IsI.of_own O1.out).below hby2) (IsI.of_own O2.out) (by omega)).mono ?_; rintro e y3 ⟨rfl, q, rfl⟩))
              have hbe : Below wr.heap.size wr (y2.drewN q) := below_drewN (hby1.trans (hby2.mono hby1.size)) q
              go_roundg (gk - 1)
              case rel => exact ⟨j + 1, by omega, by go_num, hbq.trans (hbe.mono hsq), TWO.out.below hbe, TWI.out.below hbe, HIQ.out.below hbe⟩
              case measure => omega
            · go_wp2_with (first
                | (go_at_call 21; refine (first_any _ _ _ _ _ _ HIQ.out HBD.out (by omega)).mono ?_; rintro e w' ⟨rfl, rfl⟩)
                | (go_at_call 22; refine (rfirst_any _ _ _ _ _ _ HIQ.out HBD.out (by omega)).mono ?_; rintro e w' ⟨rfl, rfl⟩)
                | (go_at_call 23; refine (without_any _ _ _ _ _ _ HIQ.out HBD.out (by omega)).mono ?_; rintro e y1 ⟨v1, rfl, hown1, hby1⟩; obtain ⟨A1, C1, hv1, -⟩ := own_form hown1; have O1 := hide hown1; clear hown1; subst hv1)
                | (go_at_call 25; refine (rwithout_any _ _ _ _ _ _ (HIQ.out.below hby1) HBD.out (by omega)).mono ?_; rintro e y2 ⟨v2, rfl, hown2, hby2⟩; obtain ⟨A2, C2, hv2, -⟩ := own_form hown2; have O2 := hide hown2; clear hown2; subst hv2; obtain ⟨ad, hA1, hadb, hcw⟩ := (IsI.of_own O1.out).at_ f2; rw [hz.out f2, ← hby2.cell (by rw [block_add]; exact hadb), show ad.add 0 = ad from by simp [Addr.add]] at hcw; subst hA1)
                | (go_at_call 24; refine (same_any _ _ _ _ _ _ _ _ _ ((IsI.of_own O1.out).below hby2) (IsI.of_own O2.out) (by omega)).mono ?_; rintro e y3 ⟨rfl, q, rfl⟩))
              have hbe : Below wr.heap.size wr (y2.drewN q) := below_drewN (hby1.trans (hby2.mono hby1.size)) q
              go_roundg (gk - 1)
              case rel => exact ⟨j + 1, by omega, by go_num, hbq.trans (hbe.mono hsq), TWO.out.below hbe, TWI.out.below hbe, HIQ.out.below hbe⟩
              case measure => omega
          · have T9 := hide twq
            have Q9 := hide hbq
            clear twq tiq hiq hbq
            go_wp2
            go_roundg (gko - 1)
            case rel => exact ⟨k + 1, by omega, by go_num, Q9.out, T9.out⟩
            case measure => omega
      · clear hT
        go_wp2
        go_ret
        exact ⟨rfl, hbel⟩
end Go.Proofs.Ytjmchkafjpahbaa
