/- The walk of WaitlistMatch. -/
import Derived.Test.YtjmchkafjpahbaaW13c
import Derived.Test.YtjmchkafjpahbaaE2
namespace Go.Proofs.Ytjmchkafjpahbaa
open Go.RowKit
set_option linter.unusedVariables false

theorem own_at {w : World} {base : Nat} {e : TypeId} {size n : Nat} {v : Value} {xs : List Value} (h : w.ownsRow base e size v n xs) (hn : 0 < n) :
    ∃ g c, v = .slice (some ⟨g, 0, none⟩) n c ∧ base ≤ g ∧ g < w.heap.size ∧ ∀ j u, xs[j]? = some u → w.cell? ⟨g, j, none⟩ = some u := by
  rcases h.2 with ⟨_, h0⟩ | ⟨g, cap, cur, hv, hb, hh, _⟩
  · omega
  · refine ⟨g, cap, hv, hb, (Array.getElem?_eq_some_iff.1 hh).1, fun j u hu => ?_⟩
    subst hv
    have := h.cells (g := g) rfl j u hu
    have hadd : (⟨g, 0, none⟩ : Addr).add j = ⟨g, j, none⟩ := by unfold Addr.add; split <;> simp_all
    rwa [hadd] at this
theorem rowP_none (r : Int) (S : List Int) (h : fst2 S (th r) = false) : rowP r S = [] := by
  unfold fst2 at h
  have h' : S.find? (fun x => th x != th r) = none := by
    cases hf : S.find? (fun x => th x != th r) with
    | none => rfl
    | some y => rw [hf] at h; cases h
  rw [List.find?_eq_none] at h'
  unfold rowP
  rw [List.map_eq_nil_iff, List.filter_eq_nil_iff]
  intro x hx
  have := h' x hx
  simp at this ⊢
  exact this.symm
theorem rowP_some (r : Int) (S : List Int) (h : fst2 S (th r) = true) : ∃ t, rowP r S = (r, fst1 S (th r)) :: t := by
  unfold fst2 at h
  obtain ⟨y, hy⟩ := Option.isSome_iff_exists.1 h
  have hf : fst1 S (th r) = y := by unfold fst1; rw [hy]; rfl
  rw [hf]
  have e : (fun s => th r != th s) = fun x => th x != th r := by funext s; rw [bne_comm]
  have h2 : (S.filter fun s => th r != th s).head? = some y := by rw [e, List.head?_filter, hy]
  unfold rowP
  cases hl : S.filter (fun s => th r != th s) with
  | nil => rw [hl] at h2; cases h2
  | cons a l => rw [hl] at h2; injection h2 with h2; subst h2; exact ⟨_, rfl⟩
theorem allP_nil (R S : List Int) (h : ∀ j, j < R.length → fst2 S (th (R.getD j 0)) = false) : allP R S = [] := by
  unfold allP
  rw [List.flatMap_eq_nil_iff]
  intro r hr
  obtain ⟨j, hj, rfl⟩ := List.getElem_of_mem hr
  have := h j hj
  rw [List.getD, List.getElem?_eq_getElem hj] at this
  exact rowP_none _ _ this
theorem prs_first (R S : List Int) (k : Nat) (hk : k < R.length) (h : ∀ j, j < k → fst2 S (th (R.getD j 0)) = false) (h1 : fst2 S (th (R.getD k 0)) = true) :
    ∃ t, prs R S = (R.getD k 0, fst1 S (th (R.getD k 0))) :: t := by
  have h0 : allP (R.take k) S = [] := allP_nil _ _ fun j hj => by
    have hj' : j < k := by simp at hj; omega
    have := h j hj'
    rwa [List.getD, List.getElem?_take_of_lt hj', ← List.getD] 
  obtain ⟨t, ht⟩ := rowP_some _ _ h1
  obtain ⟨u, hu⟩ := allP_prefix R S (k + 1)
  rw [allP_succ _ _ _ hk, h0, ht] at hu
  refine ⟨(t ++ u).take 999, ?_⟩
  unfold prs
  rw [← hu]
  rfl
set_option maxHeartbeats 2000000 in
set_option maxRecDepth 100000 in
theorem match_walk (a0 : Option Addr) (len0 cap0 : Nat) (z0 : List Int) (a1 : Option Addr) (len1 cap1 : Nat) (z1 : List Int) (w : World) (w0 : Row .u8 w a0 len0 cap0 z0) (w1 : Row .u8 w a1 len1 cap1 z1) :
    Calls Try.prog 7 #[.slice a0 len0 cap0, .slice a1 len1 cap1] w fun e w' => e = .returned (.bool true) ∧ Below w.heap.size w w' := by
  obtain ⟨hI0, hc0, hm0, hwf0⟩ := w0.isI
  obtain ⟨hI1, hc1, hm1, hwf1⟩ := w1.isI
  have hbd0 : ∀ x ∈ z0.take len0, 0 ≤ x ∧ x ≤ 255 := fun x hx => bounds_u8 (hwf0 x hx)
  have hbd1 : ∀ x ∈ z1.take len1, 0 ≤ x ∧ x ≤ 255 := fun x hx => bounds_u8 (hwf1 x hx)
  have rb : ∀ l : List Int, (recs l).length ≤ 24 ∧ ∀ x ∈ recs l, x ≤ 9223372036854775807 := by
    intro l
    unfold recs
    refine ⟨by simp; omega, fun x hx => ?_⟩
    simp only [List.mem_map] at hx
    obtain ⟨y, hy, rfl⟩ := hx
    have := Int.emod_lt_of_pos y (show (0 : Int) < 26 by decide)
    omega
  obtain ⟨r1, r2⟩ := rb (z0.take len0)
  obtain ⟨s1, s2⟩ := rb (z1.take len1)
  clear hwf0 hwf1 w0 w1 rb
  have HB0 := hide hbd0
  have HB1 := hide hbd1
  have H0 := hide hI0
  have H1 := hide hI1
  have R2 := hide r2
  have S2 := hide s2
  clear hbd0 hbd1 hI0 hI1 r2 s2
  generalize hR : recs (z0.take len0) = R at r1 R2
  generalize hS : recs (z1.take len1) = S at s1 S2
  have HR := hide hR
  have HS := hide hS
  clear hR hS
  have c1 := records_any w a0 len0 cap0 (z0.take len0) H0.out HB0.out hc0 hm0
  have c2 := fun (y : World) (hy : Below w.heap.size w y) => records_any y a1 len1 cap1 (z1.take len1) (H1.out.below hy) HB1.out hc1 hm1
  rw [HR.out] at c1
  rw [HS.out] at c2
  have C1 := hide c1
  have C2 := hide c2
  clear c1 c2
  have eqp := eq_pair
  go_enter Try.func7, Try.ntmps7
  go_wp2_with fail
  refine (awake_any _).mono ?_
  rintro e w' ⟨rfl, rfl⟩
  go_wp2_with fail
  refine C1.out.mono ?_
  rintro e x1 ⟨v1, rfl, hown1, hb1⟩
  obtain ⟨A1, D1, hv1, -⟩ := own_form hown1
  have O1 := hide hown1
  clear hown1
  subst hv1
  go_wp2_with fail
  refine (C2.out x1 hb1).mono ?_
  rintro e x2 ⟨v2, rfl, hown2, hb2⟩
  obtain ⟨A2, D2, hv2, -⟩ := own_form hown2
  have O2 := hide hown2
  clear hown2
  subst hv2
  have I1 := hide ((IsI.of_own O1.out).below hb2)
  have I2 := hide (IsI.of_own O2.out)
  go_wp2_with fail
  refine (pairs_any x2 _ _ _ _ _ _ _ _ I1.out I2.out R2.out S2.out (by omega) (by omega)).mono ?_
  rintro e x3 ⟨v3, rfl, hown3, hb3⟩
  obtain ⟨A3, D3, hv3, -⟩ := own_form hown3
  have O3 := hide hown3
  clear hown3
  subst hv3
  have J1 := hide (I1.out.below hb3)
  have J2 := hide (I2.out.below hb3)
  have hb : Below w.heap.size w x3 := hb1.trans ((hb2.mono hb1.size).trans (hb3.mono (Nat.le_trans hb1.size hb2.size)))
  clear hb1 hb2 hb3
  go_wp2_with fail
  go_loopg [23] R.length (fun m i wr => ∃ k : Nat, m + k = R.length ∧ i = .int .i64 k ∧ wr = x3 ∧ ∀ j, j < k → fst2 S (th (R.getD j 0)) = false)
  case atStart => exact ⟨0, by omega, rfl, rfl, fun j hj => absurd hj (by omega)⟩
  case round =>
    obtain ⟨k, hk, rfl, rfl, hall⟩ := hrel
    have HA := hide hall
    clear hall
    by_cases hlt : k < R.length
    · obtain ⟨ad, rfl, _, hc⟩ := J1.out.at_ hlt
      have hbx := R2.out (R.getD k 0) (by rw [List.getD, List.getElem?_eq_getElem hlt]; exact List.getElem_mem _)
      have hpf := hide (prs_first R S k hlt HA.out)
      generalize hrx : R.getD k 0 = r at hc hbx hpf
      have HX := hide hrx
      clear hrx
      cases hf : fst2 S (th r) with
      | false =>
        have HF := hide hf
        clear hf
        go_wp2_with (first
          | (go_at_call 11; refine (thread_any _ _ hbx).mono ?_; rintro e w' ⟨rfl, rfl⟩)
          | (go_at_call 21; refine (first_any _ _ _ _ _ _ J2.out S2.out (by omega)).mono ?_; rw [HF.out]; rintro e w' ⟨rfl, rfl⟩))
        go_roundg (gk - 1)
        case rel => exact ⟨k + 1, by omega, by go_num, rfl, fun j hj => by
            rcases Nat.lt_or_ge j k with h | h
            · exact HA.out j h
            · obtain rfl : j = k := by omega
              rw [HX.out]; exact HF.out⟩
        case measure => omega
      | true =>
        obtain ⟨t, ht⟩ := hpf.out hf
        have HF := hide hf
        have hp0 : 0 < (prs R S).length := by rw [ht]; simp
        obtain ⟨g, c, hv, _, hg, hcell⟩ := own_at O3.out hp0
        have k0 := hcell 0 (.int .i64 r) (by rw [ht]; rfl)
        have k1 := hcell 1 (.int .i64 (fst1 S (th r))) (by rw [ht]; rfl)
        obtain rfl : A3 = some ⟨g, 0, none⟩ := by injection hv
        clear hf ht hv hcell
        go_wp2_with (first
          | (go_at_call 11; refine (thread_any _ _ hbx).mono ?_; rintro e w' ⟨rfl, rfl⟩)
          | (go_at_call 21; refine (first_any _ _ _ _ _ _ J2.out S2.out (by omega)).mono ?_; rw [HF.out]; rintro e w' ⟨rfl, rfl⟩))
        go_ret
        exact ⟨rfl, hb⟩
    · have h0 : prs R S = [] := by
        unfold prs
        rw [allP_nil R S (fun j hj => HA.out j (by omega))]
        rfl
      have O4 := O3.out
      rw [h0] at O4
      have O5 := hide O4
      have h1 : (((prs R S).length : Int) == 0) = true := by rw [h0]; rfl
      clear h0 O4
      go_wp2
      go_ret
      exact ⟨rfl, hb⟩
end Go.Proofs.Ytjmchkafjpahbaa
