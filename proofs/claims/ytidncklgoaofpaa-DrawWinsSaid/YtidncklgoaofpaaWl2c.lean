/- The walk of DrawFair. -/
import Derived.Test.YtidncklgoaofpaaD5
import Derived.Test.YtidncklgoaofpaaD3
namespace Go.Proofs.Ytidncklgoaofpaa
open Go.RowKit
set_option linter.unusedVariables false

def oN (n k : Nat) : List Int := ord (nthL n k) (n - 1) (idl n)
theorem oN_len (n k : Nat) : (oN n k).length = n := by unfold oN; rw [ord_len, idl_len]
def osN (n k : Nat) : List (List Int) := (List.range k).map (oN n)
theorem osN_len (n k : Nat) : (osN n k).length = k := by unfold osN; simp
theorem osN_at (n k j : Nat) (h : j < k) : (osN n k).getD j [] = oN n j := by unfold osN; simp [List.getD, List.getElem?_map, List.getElem?_range h]
theorem osN_succ (n k : Nat) : osN n (k + 1) = osN n k ++ [oN n k] := by unfold osN; rw [List.range_succ, List.map_append]; rfl
/-- How often each element came first among the first k orders. -/
def firN (n : Nat) : Nat → List Int
  | 0 => List.replicate n 0
  | k + 1 => (firN n k).set ((oN n k).getD 0 0).toNat ((firN n k).getD ((oN n k).getD 0 0).toNat 0 + 1)
theorem firN_len (n k : Nat) : (firN n k).length = n := by
  induction k with
  | zero => simp [firN]
  | succ k ih => rw [firN, List.length_set, ih]
theorem firN_bd (n k : Nat) : ∀ j, 0 ≤ (firN n k).getD j 0 ∧ (firN n k).getD j 0 ≤ k := by
  induction k with
  | zero =>
    intro j
    have : (firN n 0).getD j 0 = 0 := by
      unfold firN
      rw [List.getD, List.getElem?_replicate]
      split <;> rfl
    omega
  | succ k ih =>
    intro j
    rw [firN]
    have h1 := ih j
    have h2 := ih ((oN n k).getD 0 0).toNat
    generalize ((oN n k).getD 0 0).toNat = x at *
    rw [List.getD, List.getElem?_set]
    split
    · split
      · simp only [Option.getD_some]; omega
      · simp only [Option.getD_none]; omega
    · rw [← List.getD]; omega
theorem fair_facts : ∀ n ∈ [1, 2, 3, 4, 5], (osN n (fac n)).Nodup ∧ (∀ l ∈ osN n (fac n), 0 ≤ l.getD 0 0 ∧ l.getD 0 0 < (n : Int)) ∧ ∀ x ∈ firN n (fac n), x * (n : Int) = (fac n : Int) := by decide +kernel
theorem oN_ne (n i k : Nat) (h1 : 1 ≤ n) (h5 : n ≤ 5) (hi : i < k) (hk : k < fac n) : oN n i ≠ oN n k := by
  have h := (fair_facts n (by simp; omega)).1
  have e := List.pairwise_iff_getElem.1 h i k (by rw [osN_len]; omega) (by rw [osN_len]; omega) hi
  unfold osN at e
  simpa using e
theorem oN_fst (n k : Nat) (h1 : 1 ≤ n) (h5 : n ≤ 5) (hk : k < fac n) : 0 ≤ (oN n k).getD 0 0 ∧ (oN n k).getD 0 0 < (n : Int) := by
  have h := (fair_facts n (by simp; omega)).2.1
  refine h _ ?_
  rw [← osN_at n (fac n) k hk, List.getD, List.getElem?_eq_getElem (by rw [osN_len]; exact hk)]
  exact List.getElem_mem _
theorem firN_last (n i : Nat) (h1 : 1 ≤ n) (h5 : n ≤ 5) (hi : i < n) : (firN n (fac n)).getD i 0 * (n : Int) = (fac n : Int) := by
  have h := (fair_facts n (by simp; omega)).2.2
  refine h _ ?_
  rw [List.getD, List.getElem?_eq_getElem (by rw [firN_len]; exact hi)]
  exact List.getElem_mem _
theorem cnt_n (t : Nat) (h1 : 1 ≤ t) (h5 : t ≤ 5) : cnt (t : Int) = (fac t : Int) ∧ 1 ≤ fac t ∧ fac t ≤ 120 := by
  have h4 := fac_mono t 5 h5
  have h6 : fac 5 = 120 := by decide
  refine ⟨?_, fac_pos t, by omega⟩
  unfold cnt
  rw [if_neg (by omega)]
  simp
set_option maxHeartbeats 4000000 in
set_option maxRecDepth 100000 in
theorem fair_walk (a0 : Int) (w : World) (w0 : (Lit.int .i64 a0).wf = true) :
    Calls Try.prog 7 #[.int .i64 a0] w fun e w' => e = .returned (.bool true) ∧ Below w.heap.size w w' := by
  have b0 := bounds_i64 w0
  have m1 := Int.emod_nonneg a0 (show (5 : Int) ≠ 0 by omega)
  have m2 := Int.emod_lt_of_pos a0 (show (0 : Int) < 5 by omega)
  obtain ⟨t, ht⟩ := Int.eq_ofNat_of_zero_le (show 0 ≤ 1 + a0 % 5 by omega)
  obtain ⟨c1, c2, c3⟩ := cnt_n t (by omega) (by omega)
  have hm := hide (show a0 % 5 = (t : Int) - 1 by omega)
  have h1 : 1 ≤ t := by omega
  have h5 : t ≤ 5 := by omega
  clear ht m1 m2
  have cn : ∀ W, Calls Try.prog 29 #[.int .i64 t] W fun e w' => e = .returned (.int .i64 (fac t : Nat)) ∧ W = w' := fun W => by
    have := count_any (t : Int) W
    rw [c1] at this
    exact this
  have CN := hide cn
  have nt : ∀ W k, k < fac t → Calls Try.prog 30 #[.int .i64 t, .int .i64 (k : Nat)] W fun e w' => e = .returned (.tuple #[.slice (some ⟨W.heap.size, 0, none⟩) t t, .bool true]) ∧ IsI .i64 w' (some ⟨W.heap.size, 0, none⟩) t (nthL t k) ∧ Below W.heap.size W w' := fun W k hk => by
    refine (nth_yes t k W (by omega) (by rw [c1]; omega)).mono fun e w' hh => ?_
    obtain ⟨he, hb, hbel⟩ := hh
    exact ⟨he, bkI_isI hb (nthL_len _ _), hbel⟩
  have NT := hide nt
  have md := fun W => mod_any a0 5 W (by omega) (by omega) b0.1 b0.2
  rw [hm.out] at md
  have MD := hide md
  have hmk := fun W => run_make_row' (P := Try.prog) 22 3 (.int .i64 0) 8 Try.underlying22 Try.int_inf rfl .i64 .i64 t (by omega) (by omega) W
  have hf : Hid (∀ i k, i < k → k < fac t → oN t i ≠ oN t k) := fun i k => oN_ne t i k h1 h5
  have hx : Hid (∀ k, k < fac t → 0 ≤ (oN t k).getD 0 0 ∧ (oN t k).getD 0 0 < (t : Int)) := fun k => oN_fst t k h1 h5
  have hl : Hid (∀ i, i < t → (firN t (fac t)).getD i 0 * (t : Int) = (fac t : Int)) := fun i => firN_last t i h1 h5
  clear cn md nt c1
  generalize fac t = N at CN NT c2 c3 hf hx hl
  have hs : 1 + ((t : Int) - 1) = t := by omega
  go_enter Try.func7, Try.ntmps7
  go_wp2_with (first
    | (go_at_call 20; refine (awake2_any _).mono ?_; rintro e y ⟨rfl, hb0⟩)
    | (go_at_call 15; refine (MD.out _).mono ?_; rintro e w' ⟨rfl, rfl⟩))
  clear hs hmk
  have hsy := hb0.size
  have hba : Below w.heap.size w (y.alloc (.cells (madeCells #[Value.int .i64 0] t) 3)) := hb0.alloc hsy _
  have HBA := hide hba
  have HBK : Hid (Bk (y.alloc (.cells (madeCells #[Value.int .i64 0] t) 3)) y.heap.size 3 (cellsI (firN t 0))) := by
    unfold firN
    rw [← made_eq]
    exact Bk.new _ _ _
  clear hba hb0
  go_loopg [4, 5] N (fun m u i wr => ∃ k : Nat, m + k = N ∧ i = .int .i64 k ∧ Below w.heap.size w wr ∧ Bk wr y.heap.size 3 (cellsI (firN t k)) ∧ LL wr (y.heap.size + 1) u t (osN t k))
  case atStart => exact ⟨0, by omega, rfl, HBA.out, HBK.out, LL.nil _ _ _⟩
  case round =>
    obtain ⟨k, hk, rfl, hbel, hbkF, hll⟩ := hrel
    obtain ⟨gko, hgo⟩ : ∃ g, g = gk := ⟨_, rfl⟩
    subst hgo
    obtain ⟨VA, VC, rfl⟩ := hll.form
    have hlen := osN_len t k
    have LLk := hide hll
    have HB := hide hbel
    have BF := hide hbkF
    have hsz := hbel.size
    have hGlt : y.heap.size < wr.heap.size := hbkF.lt
    clear hll hbel hbkF HBA HBK
    rw [hlen] at LLk ⊢
    clear hlen
    by_cases hlt : k < N
    · obtain ⟨x1, x2⟩ := hx.out k hlt
      have ob := order_bk
      have OB := hide ob
      clear ob
      go_wp2_with (go_at_call 29; refine (CN.out _).mono ?_; rintro e w' ⟨rfl, rfl⟩)
      refine (NT.out _ k hlt).mono ?_
      rintro e y1 ⟨rfl, hi1, hb1⟩
      have I1 := hide hi1
      clear hi1
      go_wp2_with fail
      refine (OB.out _ t _ _ _ _ I1.out h1 (by omega) (by omega)).mono ?_
      rintro e y2 ⟨rfl, hbk2, hb2⟩
      have hs1 := hb1.size
      have hs2 := hb2.size
      have BK : Hid (Bk y2 y1.heap.size 3 (cellsI (oN t k))) := hbk2
      have hb12 := hb1.trans (hb2.mono hs1)
      have L2 := hide (LLk.out.below hb12)
      have B2 := hide (BF.out.below hb12 hGlt)
      have HB2 := hide (HB.out.trans (hb12.mono hsz))
      have c0 := at_cell hbk2 (oN_len t k) 0 (by omega)
      have hxe : ((oN t k).getD 0 0) = (ord (nthL t k) (t - 1) (idl t)).getD 0 0 := rfl
      rw [← hxe] at c0
      have HX0 := hide (show ∃ x : Nat, x < t ∧ (oN t k).getD 0 0 = x from ⟨((oN t k).getD 0 0).toNat, by omega, by omega⟩)
      obtain ⟨x, hxt, hxx⟩ := HX0.out
      rw [hxx] at c0
      have HXX := hide hxx
      have d1 : decide ((x : Int) < 0) = false := by simp
      have d2 : decide (t ≤ x) = false := by simp; omega
      clear hbk2 hb1 hb2 hb12 hxe HX0 hxx x1 x2 I1
      go_wp2_with fail
      clear d1 d2
      go_loopg [56] k (fun m i wr => ∃ j : Nat, m + j = k ∧ i = .int .i64 j ∧ ∃ q, wr = y2.drewN q)
      case atStart => exact ⟨0, by omega, rfl, 0, rfl⟩
      case round =>
        obtain ⟨j, hj, rfl, q, rfl⟩ := hrel
        by_cases hjk : j < k
        · obtain ⟨ad, g2, rfl, cc, hi2⟩ := L2.out.at_ (j := j) (by rw [osN_len]; omega)
          have sm := same_any (y2.drewN q) (some ⟨g2, 0, none⟩) t t _ (some ⟨y1.heap.size, 0, none⟩) t t _ hi2 (bkI_isI BK.out (oN_len t k)) (by omega)
          rw [osN_at t k j hjk, decide_eq_false (hf.out j k hjk hlt)] at sm
          have SM := hide sm
          clear sm hi2
          have cq : (y2.drewN q).cell? (ad.add j) = some (.slice (some ⟨g2, 0, none⟩) t t) := cc
          go_wp2_with (go_at_call 24; refine SM.out.mono ?_; rintro e w' ⟨rfl, p, rfl⟩)
          go_roundg (gk - 1)
          case rel => exact ⟨j + 1, by omega, by go_num, _, rfl⟩
          case measure => omega
        · have L3 := hide (L2.out.below (below_drewN (Below.refl _ _) q))
          go_wp2_with (at_builtin; refine LL.push rfl (y2.drewN q) (by rfl) _ _ (by rfl) (y.heap.size + 1) t y1.heap.size _ (osN t k) (oN t k) (by rfl) L3.out (LLk.out.lt hs1) BK.out (oN_len t k) (by omega) (by rfl) (by rw [osN_len]; omega) (by simp; omega) ?_)
          intro v' w3 hL3 hb3 hbk3
          rw [← osN_succ] at hL3
          have L4 := hide hL3
          have B3 := hide (B2.out.below (B := y.heap.size + 1) ((below_drewN (Below.refl _ _) q).trans hb3) (by omega))
          have HB3 := hide (HB2.out.trans (((below_drewN (Below.refl _ _) q).trans hb3).mono (show w.heap.size ≤ y.heap.size + 1 by omega)))
          have hs3 := hb3.size
          have c0' := at_cell hbk3 (oN_len t k) 0 (by omega)
          rw [HXX.out] at c0'
          have c1 := at_cell B3.out (firN_len t k) x hxt
          have f1 := B3.out.frozen x
          have hst : firN t (k + 1) = (firN t k).set x ((firN t k).getD x 0 + 1) := by
            rw [firN, HXX.out]
            simp
          have hfb := firN_bd t k x
          generalize (firN t k).getD x 0 = z at c1 hst hfb
          have HST := hide hst
          clear hL3 hst hb3 hbk3
          go_wp2
          go_roundg (gko - 1)
          case rel => exact ⟨k + 1, by omega, by go_num, HB3.out.setCell hsy _, by rw [HST.out]; exact bkI_set _ _ B3.out, L4.out.far (grownBy_setCell _ _ _ _) (by omega)⟩
          case measure => omega
    · have hkN : k = N := by omega
      have hl2 := hl.out
      rw [← hkN] at hl2
      have HL2 := hide hl2
      have HFB := hide (firN_bd t k)
      clear hl2 hkN
      go_wp2_with (go_at_call 29; refine (CN.out _).mono ?_; rintro e w' ⟨rfl, rfl⟩)
      go_loopg [80] t (fun m i wq => ∃ j : Nat, m + j = t ∧ i = .int .i64 j ∧ wq = wr)
      case atStart => exact ⟨0, by omega, rfl, rfl⟩
      case round =>
        obtain ⟨j, hj, rfl, rfl⟩ := hrel
        by_cases hjt : j < t
        · have c1 := at_cell BF.out (firN_len t k) j hjt
          have e1 := HL2.out j hjt
          have hfb := HFB.out j
          generalize (firN t k).getD j 0 = z at c1 e1 hfb
          have e2 : (z * (t : Int) != (k : Int)) = false := by rw [e1]; simp
          have e3 : ((k : Int) == 0) = false := by simp; omega
          have hz : 0 ≤ z * (t : Int) ∧ z * (t : Int) ≤ 120 := by rw [e1]; omega
          clear e1
          go_wp2
          go_roundg (gk - 1)
          case rel => exact ⟨j + 1, by omega, by go_num, rfl⟩
          case measure => omega
        · go_wp2
          go_ret
          exact ⟨rfl, HB.out⟩
end Go.Proofs.Ytidncklgoaofpaa
