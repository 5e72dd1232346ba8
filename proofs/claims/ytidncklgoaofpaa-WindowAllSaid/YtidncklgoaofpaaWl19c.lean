/- The walk of WindowAll. -/
import Derived.Test.YtidncklgoaofpaaD5
import Derived.Test.YtidncklgoaofpaaW19
import Derived.Deep.RegionWith
namespace Go.Proofs.Ytidncklgoaofpaa
open Go.RowKit
set_option linter.unusedVariables false

def rndsN (t k : Nat) : List (List Int) := (List.range k).map fun (j : Nat) => rnd t j
theorem rndsN_len (t k : Nat) : (rndsN t k).length = k := by unfold rndsN; simp
theorem rndsN_at (t k j : Nat) (h : j < k) : (rndsN t k).getD j [] = rnd t j := by unfold rndsN; simp [List.getD, List.getElem?_map, List.getElem?_range h]
theorem rndsN_succ (t k : Nat) : rndsN t (k + 1) = rndsN t k ++ [rnd t k] := by unfold rndsN; rw [List.range_succ, List.map_append]; rfl
theorem rnds_nodup : ∀ t ∈ [1, 2, 3, 4, 5], ((rndsN t (fac t)).Nodup ∧ rnd t (cnt t) = rnd t 0) := by decide +kernel
theorem rnd_ne (t i k : Nat) (h1 : 1 ≤ t) (h5 : t ≤ 5) (hi : i < k) (hk : k < fac t) : rnd t i ≠ rnd t k := by
  have h := (rnds_nodup t (by simp; omega)).1
  have e := List.pairwise_iff_getElem.1 h i k (by rw [rndsN_len]; omega) (by rw [rndsN_len]; omega) hi
  unfold rndsN at e
  simpa using e
theorem cnt_nat (t : Nat) (h1 : 1 ≤ t) (h5 : t ≤ 5) : cnt (t : Int) = (fac t : Int) ∧ 1 ≤ fac t ∧ fac t ≤ 120 := by
  have h4 := fac_mono t 5 h5
  have h6 : fac 5 = 120 := by decide
  refine ⟨?_, fac_pos t, by omega⟩
  unfold cnt
  rw [if_neg (by omega)]
  simp
set_option maxHeartbeats 4000000 in
theorem all_walk (a0 : Int) (w : World) (w0 : (Lit.int .i64 a0).wf = true) :
    Calls Try.prog 11 #[.int .i64 a0] w fun e w' => e = .returned (.bool true) ∧ Below w.heap.size w w' := by
  have b0 := bounds_i64 w0
  have m1 := Int.emod_nonneg a0 (show (5 : Int) ≠ 0 by omega)
  have m2 := Int.emod_lt_of_pos a0 (show (0 : Int) < 5 by omega)
  obtain ⟨t, ht⟩ := Int.eq_ofNat_of_zero_le (show 0 ≤ 1 + a0 % 5 by omega)
  obtain ⟨c1, c2, c3⟩ := cnt_nat t (by omega) (by omega)
  have hm := hide (show a0 % 5 = (t : Int) - 1 by omega)
  have h1 : 1 ≤ t := by omega
  have h5 : t ≤ 5 := by omega
  clear ht m1 m2
  have cn : ∀ W, Calls Try.prog 27 #[.int .i64 t] W fun e w' => e = .returned (.int .i64 (fac t : Nat)) ∧ W = w' := fun W => by
    have := rcount_any (t : Int) W
    rw [c1] at this
    exact this
  have CN := hide cn
  have rd := fun W k (hk : k ≤ 120) => round_bk W t k h1 (by omega) (by omega)
  have RD := hide rd
  have md := fun W => mod_any a0 5 W (by omega) (by omega) b0.1 b0.2
  rw [hm.out] at md
  have MD := hide md
  have hf : Hid (∀ i k, i < k → k < fac t → rnd t i ≠ rnd t k) := fun i k => rnd_ne t i k h1 h5
  have hl0 := (rnds_nodup t (by simp; omega)).2
  rw [c1] at hl0
  have hlast := hide hl0
  clear cn rd md c1 hl0
  generalize fac t = N at CN c2 c3 hf hlast
  have hs : 1 + ((t : Int) - 1) = t := by omega
  go_enter Try.func11, Try.ntmps11
  go_wp2_with (first
    | (go_at_call 14; refine (awake_any _).mono ?_; rintro e w' ⟨rfl, hb0⟩)
    | (go_at_call 15; refine (MD.out _).mono ?_; rintro e w' ⟨rfl, rfl⟩))
  clear hs
  go_loopg [4, 5] N (fun m u i wr => ∃ k : Nat, m + k = N ∧ i = .int .i64 k ∧ Below w.heap.size w wr ∧ LL wr w.heap.size u t (rndsN t k))
  case atStart => exact ⟨0, by omega, rfl, hb0, LL.nil _ _ _⟩
  case round =>
    obtain ⟨k, hk, rfl, hbel, hll⟩ := hrel
    obtain ⟨gko, hgo⟩ : ∃ g, g = gk := ⟨_, rfl⟩
    subst hgo
    obtain ⟨VA, VC, rfl⟩ := hll.form
    have hlen := rndsN_len t k
    have LLk := hide hll
    have HB := hide hbel
    have hsz := hbel.size
    clear hll hbel
    rw [hlen] at LLk ⊢
    clear hlen
    by_cases hlt : k < N
    · go_wp2_with (first
        | (go_at_call 27; refine (CN.out _).mono ?_; rintro e w' ⟨rfl, rfl⟩)
        | (go_at_call 35; refine (RD.out _ k (by omega)).mono ?_; rintro e y1 ⟨g, rfl, hgle, hbk, hlk, hb1⟩))
      have BK := hide hbk
      have L1 := hide (LLk.out.below hb1)
      have I1 := hide (bkI_isI hbk hlk)
      have LKn := hide hlk
      clear hbk hlk
      go_loopw [24] (fun i wr => ∃ j : Nat, j ≤ k ∧ i = .int .i64 j ∧ ∃ q, wr = y1.drewN q) (fun i _ => k - (intOf i).toNat)
      case atStart => exact ⟨0, Nat.zero_le _, rfl, 0, rfl⟩
      case round =>
        obtain ⟨j, hj, rfl, q, rfl⟩ := hrel
        by_cases hjk : j < k
        · obtain ⟨ad, g2, rfl, cc, hi2⟩ := L1.out.at_ (j := j) (by rw [rndsN_len]; omega)
          have sm := same_any (y1.drewN q) (some ⟨g2, 0, none⟩) t t _ (some ⟨g, 0, none⟩) t t _ hi2 I1.out (by omega)
          rw [rndsN_at t k j hjk, decide_eq_false (hf.out j k hjk hlt)] at sm
          have SM := hide sm
          clear sm hi2
          have cq : (y1.drewN q).cell? (ad.add j) = some (.slice (some ⟨g2, 0, none⟩) t t) := cc
          go_wp2_with (go_at_call 24; refine SM.out.mono ?_; rintro e w' ⟨rfl, p, rfl⟩)
          go_roundw
          case rel => exact ⟨j + 1, by omega, by go_num, _, rfl⟩
          case measure => simp [intOf]; omega
        · have L2 := hide (L1.out.below (below_drewN (Below.refl _ _) q))
          have hsz2 := hb1.size
          go_wp2_with (at_builtin; refine LL.push rfl (y1.drewN q) (by rfl) _ _ (by rfl) w.heap.size t g _ (rndsN t k) (rnd t k) (by rfl) L2.out (LLk.out.lt hgle) BK.out LKn.out (by rfl) (by rw [rndsN_len]; omega) (by simp; omega) ?_)
          intro v' w3 hL3 hb3
          rw [← rndsN_succ] at hL3
          have L3 := hide hL3
          have HB3 := hide (Below.trans (below_drewN (HB.out.trans (hb1.mono hsz)) q) hb3)
          clear hL3 hb3
          go_wp2
          go_roundg (gko - 1)
          case rel => exact ⟨k + 1, by omega, by go_num, HB3.out, L3.out⟩
          case measure => omega
    · obtain ⟨ad, g2, rfl, cc, hi2⟩ := LLk.out.at_ (j := 0) (by rw [rndsN_len]; omega)
      rw [rndsN_at t k 0 (by omega)] at hi2
      have hadd : ad.add 0 = ad := by unfold Addr.add; simp
      rw [hadd] at cc
      have h0k : 0 < k := by omega
      have hi3 : IsI .i64 wr (some ⟨g2, 0, none⟩) t (rnd t 0) := by simpa using hi2
      have I0 := hide hi3
      have r1 : ∀ W, Calls Try.prog 35 #[.int .i64 t, .int .i64 N] W fun e w' => ∃ g, e = .returned (.slice (some ⟨g, 0, none⟩) t t) ∧ IsI .i64 w' (some ⟨g, 0, none⟩) t (rnd t 0) ∧ Below W.heap.size W w' := fun W => by
        refine (RD.out W N (by omega)).mono fun e w' hh => ?_
        obtain ⟨g, he, _, hB, hL, hb⟩ := hh
        rw [hlast.out] at hB hL
        exact ⟨g, he, bkI_isI hB hL, hb⟩
      have R1 := hide r1
      have sm : ∀ W g, IsI .i64 W (some ⟨g, 0, none⟩) t (rnd t 0) → IsI .i64 W (some ⟨g2, 0, none⟩) t (rnd t 0) → Calls Try.prog 24 #[.slice (some ⟨g, 0, none⟩) t t, .slice (some ⟨g2, 0, none⟩) t t] W fun e w' => e = .returned (.bool true) ∧ Draws W w' := fun W g ha hb => by
        have := same_any W (some ⟨g, 0, none⟩) t t _ (some ⟨g2, 0, none⟩) t t _ ha hb (by omega)
        rwa [show decide (rnd t 0 = rnd t 0) = true by simp] at this
      have SM := hide sm
      clear hadd hi2 hi3 r1 sm
      have hlw : ad.block < wr.drew.heap.size := block_lt cc
      have cc1 : wr.drew.cell? ad = some (.slice (some ⟨g2, 0, none⟩) t t) := cc
      have hbd : Below w.heap.size w wr.drew := below_drewN HB.out 1
      have HBD := hide hbd
      clear hbd
      go_wp2_with (go_at_call 27; refine (CN.out _).mono ?_; rintro e w' ⟨rfl, rfl⟩)
      go_region_with ((first
        | (go_at_call 27; refine (CN.out _).mono ?_; rintro e w' ⟨rfl, rfl⟩)
        | (go_at_call 35; refine (R1.out _).mono ?_; rintro e y1 ⟨g, rfl, hI1, hb1⟩; have cy := (hb1.cell (p := ad) hlw).trans cc1; have J1 := hide hI1; have J0 := hide (IsI.below (w := wr.drew) I0.out hb1); have HBy := hide (HBD.out.trans (hb1.mono hsz)); clear hI1 hb1)
        | (go_at_call 24; refine (SM.out _ _ J1.out J0.out).mono ?_; rintro e w' ⟨rfl, q, rfl⟩; have cz : (y1.drewN q).cell? ad = some (.slice (some ⟨g2, 0, none⟩) t t) := cy)))
      all_goals
        go_wp2
        go_ret
        exact ⟨rfl, below_drewN HBy.out _⟩
end Go.Proofs.Ytidncklgoaofpaa
