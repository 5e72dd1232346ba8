/- Contracts of Pairs, the program's and the document's. -/
import Derived.Test.YtjmchkafjpahbaaW13b
namespace Go.Proofs.Ytjmchkafjpahbaa
open Go.RowKit
set_option linter.unusedVariables false

/-- The pairs of one receiver. -/
def rowP (r : Int) (S : List Int) : List (Int × Int) := (S.filter fun s => th r != th s).map fun s => (r, s)
def allP (R S : List Int) : List (Int × Int) := R.flatMap fun r => rowP r S
def prs (R S : List Int) : List (Int × Int) := (allP R S).take 1000
/-- What is collected ahead of receiver i and sender k. -/
def preP (R S : List Int) (i k : Nat) : List (Int × Int) := allP (R.take i) S ++ rowP (R.getD i 0) (S.take k)
def cellsP (l : List (Int × Int)) : List Value := l.flatMap fun p => [.int .i64 p.1, .int .i64 p.2]

theorem rowP_step (r : Int) (S : List Int) (k : Nat) (hk : k < S.length) :
    rowP r (S.take (k + 1)) = if th r != th (S.getD k 0) then rowP r (S.take k) ++ [(r, S.getD k 0)] else rowP r (S.take k) := by
  unfold rowP
  have e : S.getD k 0 = S[k] := by simp [List.getD, List.getElem?_eq_getElem hk]
  rw [List.take_succ_eq_append_getElem hk, List.filter_append, e]
  by_cases h : (th r != th S[k]) = true
  · rw [if_pos h]; simp [h]
  · rw [if_neg h]; simp [h]
theorem preP_step (R S : List Int) (i k : Nat) (hk : k < S.length) :
    preP R S i (k + 1) = if th (R.getD i 0) != th (S.getD k 0) then preP R S i k ++ [(R.getD i 0, S.getD k 0)] else preP R S i k := by
  unfold preP
  rw [rowP_step _ _ _ hk]
  split
  · rw [List.append_assoc]
  · rfl
theorem allP_succ (R S : List Int) (i : Nat) (hi : i < R.length) : allP (R.take (i + 1)) S = allP (R.take i) S ++ rowP (R.getD i 0) S := by
  unfold allP
  have e : R.getD i 0 = R[i] := by simp [List.getD, List.getElem?_eq_getElem hi]
  rw [List.take_succ_eq_append_getElem hi, List.flatMap_append, e]
  simp
theorem preP_zero (R S : List Int) (i : Nat) : preP R S i 0 = allP (R.take i) S := by unfold preP rowP; simp
theorem preP_end (R S : List Int) (i : Nat) (hi : i < R.length) : preP R S i S.length = allP (R.take (i + 1)) S := by
  unfold preP
  rw [allP_succ _ _ _ hi, List.take_length]
theorem allP_prefix (R S : List Int) (i : Nat) : allP (R.take i) S <+: allP R S := by
  refine ⟨allP (R.drop i) S, ?_⟩
  unfold allP
  rw [← List.flatMap_append, List.take_append_drop]
theorem rowP_prefix (r : Int) (S : List Int) (k : Nat) : rowP r (S.take k) <+: rowP r S := by
  refine ⟨rowP r (S.drop k), ?_⟩
  unfold rowP
  rw [← List.map_append, ← List.filter_append, List.take_append_drop]
theorem preP_prefix (R S : List Int) (i k : Nat) (hi : i < R.length) : preP R S i k <+: allP R S := by
  refine List.IsPrefix.trans ?_ (allP_prefix R S (i + 1))
  rw [allP_succ _ _ _ hi]
  unfold preP
  exact List.prefix_append_right_inj _ |>.2 (rowP_prefix _ _ _)
theorem prs_at (R S : List Int) (i k : Nat) (hi : i < R.length) (h : (preP R S i k).length = 1000) : prs R S = preP R S i k := by
  obtain ⟨t, ht⟩ := preP_prefix R S i k hi
  unfold prs
  rw [← ht, ← h, List.take_left']
  rfl
theorem prs_all (R S : List Int) (h : (allP R S).length ≤ 1000) : prs R S = allP R S := by unfold prs; rw [List.take_of_length_le h]
theorem cellsP_len (l : List (Int × Int)) : (cellsP l).length = l.length * 2 := by
  unfold cellsP
  induction l with
  | nil => rfl
  | cons p l ih => simp [List.flatMap_cons, ih]; omega
theorem cellsP_snoc (l : List (Int × Int)) (p : Int × Int) : cellsP (l ++ [p]) = cellsP l ++ [.int .i64 p.1, .int .i64 p.2] := by
  unfold cellsP
  simp
theorem Try.pair_info : (Try.prog.info? 23).map (fun i => (i.zero, i.size, i.bytes)) = some (some (.agg #[.int .i64 0, .int .i64 0]), 2, 16) := by kernel_rfl

set_option maxHeartbeats 2000000 in
theorem pairs_any (w : World) (A : Option Addr) (n c : Nat) (R : List Int) (B : Option Addr) (m d : Nat) (S : List Int) (hR : IsI .i64 w A n R) (hS : IsI .i64 w B m S)
    (hbR : ∀ x ∈ R, x ≤ 9223372036854775807) (hbS : ∀ x ∈ S, x ≤ 9223372036854775807) (hn : n ≤ 100000) (hm : m ≤ 100000) :
    Calls Try.prog 19 #[.slice A n c, .slice B m d] w fun e w' => ∃ v, e = .returned v ∧ w'.ownsRow w.heap.size 23 2 v (prs R S).length (cellsP (prs R S)) ∧ Below w.heap.size w w' := by
  obtain ⟨i0, hi, hz0, hz1, hz2⟩ := info_parts Try.pair_info
  have hlR := hR.len
  have hlS := hS.len
  have LR := hide hlR
  have LS := hide hlS
  have HR := hide hR
  have HS := hide hS
  have HBR := hide hbR
  have HBS := hide hbS
  clear hlR hlS hbR hbS hR hS
  go_enter Try.func19, Try.ntmps19
  go_wp2
  go_loopg [5, 12] n (fun g v i wr => ∃ k : Nat, g + k = n ∧ i = .int .i64 k ∧ Below w.heap.size w wr ∧ wr.ownsRow w.heap.size 23 2 v (allP (R.take k) S).length (cellsP (allP (R.take k) S)) ∧ (allP (R.take k) S).length ≤ 1000)
  case atStart => exact ⟨0, by omega, rfl, Below.refl _ _, World.ownsRow_nil _ _ _ _, by simp [allP]⟩
  case round =>
    obtain ⟨gko, hgo⟩ : ∃ g : Nat, g = gk := ⟨_, rfl⟩
    subst hgo
    obtain ⟨k, hk, rfl, hbel, hown, hle⟩ := hrel
    obtain ⟨wo, hwo⟩ : ∃ wo : World, wo = wr := ⟨_, rfl⟩
    subst hwo
    have OW := hide hown
    clear hown
    by_cases hlt : k < n
    · have hRk := HR.out.below hbel
      obtain ⟨ad, rfl, _, c1⟩ := hRk.at_ hlt
      have hb := HBR.out (R.getD k 0) (by rw [List.getD, List.getElem?_eq_getElem (by rw [LR.out]; omega)]; exact List.getElem_mem _)
      have z0 := preP_zero R S k
      have OZ := OW.out
      rw [← z0] at OZ hle
      have O0 := hide OZ
      have HX := hide (preP_end R S k (by rw [LR.out]; omega))
      have HST := hide (fun j (hj : j < S.length) => preP_step R S k j hj)
      have HAT := hide (fun j => prs_at R S k j (by rw [LR.out]; omega))
      clear z0 OZ hRk
      generalize R.getD k 0 = r at c1 hb HST
      go_wp2
      go_loopg [5, 18] m (fun g v i wq => ∃ j : Nat, g + j = m ∧ i = .int .i64 j ∧ Below w.heap.size w wq ∧ wq.ownsRow w.heap.size 23 2 v (preP R S k j).length (cellsP (preP R S k j)) ∧ (preP R S k j).length ≤ 1000)
      case atStart => exact ⟨0, by omega, rfl, hbel, O0.out, hle⟩
      case round =>
        obtain ⟨j, hj, rfl, hbq, hownq, hleq⟩ := hrel
        have hszq := hbq.size
        obtain ⟨A1, C1, hv1, -⟩ := own_form hownq
        have O1 := hide hownq
        clear hownq OW O0 hle
        subst hv1
        by_cases hjm : j < m
        · obtain ⟨bd, rfl, _, c2⟩ := (HS.out.below hbq).at_ hjm
          have hb2 := HBS.out (S.getD j 0) (by rw [List.getD, List.getElem?_eq_getElem (by rw [LS.out]; omega)]; exact List.getElem_mem _)
          have HS1 := hide (HST.out j (by rw [LS.out]; omega))
          generalize S.getD j 0 = s at c2 hb2 HS1
          by_cases h1000 : (preP R S k j).length < 1000
          · have e0 : (((preP R S k j).length : Int) == 1000) = false := by simp; omega
            by_cases hth : th r = th s
            · have e1 : (th r != th s) = false := by simpa using hth
              have HE := hide e1
              clear hth
              go_wp2_with (go_at_call 11; refine (thread_any _ _ (by omega)).mono ?_; rintro e w' ⟨rfl, rfl⟩)
              go_roundg (gk - 1)
              case rel =>
                have := HS1.out
                rw [HE.out] at this
                exact ⟨j + 1, by omega, by go_num, hbq, by rw [this]; exact O1.out, by rw [this]; simpa using hleq⟩
              case measure => omega
            · have e1 : (th r != th s) = true := by simpa using hth
              have HE := hide e1
              clear hth
              go_wp2_with (first
                | (go_at_call 11; refine (thread_any _ _ (by omega)).mono ?_; rintro e w' ⟨rfl, rfl⟩)
                | (at_builtin; refine wpList_push wr (by rfl) _ _ _ (by rfl) w.heap.size 23 i0 _ 2 16 Try.underlying24 hi hz0 hz1 hz2 (by rfl) (by decide) _ _ _ (by rfl) O1.out [.int .i64 r, .int .i64 s] (by rfl) (by rfl) ?_ ?_ ?_ ?_ ?_))
              · simp [Value.oneCell']
              · omega
              · omega
              · omega
              intro v' w1 hown1 hg1 _
              have hb1 : Below w.heap.size w w1 := hbq.trans (own_below O1.out hg1 (Nat.le_refl _) hszq)
              have O2 := hide hown1
              clear hown1 hg1
              go_wp2
              go_roundg (gk - 1)
              case rel =>
                have := HS1.out
                rw [HE.out, if_pos rfl] at this
                exact ⟨j + 1, by omega, by go_num, hb1, by rw [this, cellsP_snoc]; simpa using O2.out, by rw [this]; simp; omega⟩
              case measure => omega
          · have e0 : (((preP R S k j).length : Int) == 1000) = true := by simp; omega
            have HP := hide (HAT.out j (by omega))
            go_wp2_with (go_at_call 11; refine (thread_any _ _ (by omega)).mono ?_; rintro e w' ⟨rfl, rfl⟩)
            go_ret
            exact ⟨_, rfl, by rw [HP.out]; exact O1.out, hbq⟩
        · have ej : preP R S k j = allP (R.take (k + 1)) S := by
            rw [← HX.out, LS.out]
            congr 1
            omega
          have HJ := hide ej
          clear ej
          go_wp2
          go_roundg (gko - 1)
          case rel => exact ⟨k + 1, by omega, by go_num, hbq, by rw [← HJ.out]; exact O1.out, by rw [← HJ.out]; exact hleq⟩
          case measure => omega
    · have ek : prs R S = allP (R.take k) S := by
        rw [List.take_of_length_le (by rw [LR.out]; omega)] at hle ⊢
        exact prs_all _ _ hle
      have HK := hide ek
      clear ek
      go_wp2
      go_ret
      exact ⟨_, rfl, by rw [HK.out]; exact OW.out, hbel⟩
set_option maxHeartbeats 2000000 in
theorem rpairs_any (w : World) (A : Option Addr) (n c : Nat) (R : List Int) (B : Option Addr) (m d : Nat) (S : List Int) (hR : IsI .i64 w A n R) (hS : IsI .i64 w B m S)
    (hbR : ∀ x ∈ R, x ≤ 9223372036854775807) (hbS : ∀ x ∈ S, x ≤ 9223372036854775807) (hn : n ≤ 100000) (hm : m ≤ 100000) :
    Calls Try.prog 20 #[.slice A n c, .slice B m d] w fun e w' => ∃ v, e = .returned v ∧ w'.ownsRow w.heap.size 23 2 v (prs R S).length (cellsP (prs R S)) ∧ Below w.heap.size w w' := by
  obtain ⟨i0, hi, hz0, hz1, hz2⟩ := info_parts Try.pair_info
  have hlR := hR.len
  have hlS := hS.len
  have LR := hide hlR
  have LS := hide hlS
  have HR := hide hR
  have HS := hide hS
  have HBR := hide hbR
  have HBS := hide hbS
  clear hlR hlS hbR hbS hR hS
  go_enter Try.func20, Try.ntmps20
  go_wp2
  go_loopg [5, 6] n (fun g v i wr => ∃ k : Nat, g + k = n ∧ i = .int .i64 k ∧ Below w.heap.size w wr ∧ wr.ownsRow w.heap.size 23 2 v (allP (R.take k) S).length (cellsP (allP (R.take k) S)) ∧ (allP (R.take k) S).length ≤ 1000)
  case atStart => exact ⟨0, by omega, rfl, Below.refl _ _, World.ownsRow_nil _ _ _ _, by simp [allP]⟩
  case round =>
    obtain ⟨gko, hgo⟩ : ∃ g : Nat, g = gk := ⟨_, rfl⟩
    subst hgo
    obtain ⟨k, hk, rfl, hbel, hown, hle⟩ := hrel
    obtain ⟨wo, hwo⟩ : ∃ wo : World, wo = wr := ⟨_, rfl⟩
    subst hwo
    have OW := hide hown
    clear hown
    by_cases hlt : k < n
    · have hRk := HR.out.below hbel
      obtain ⟨ad, rfl, _, c1⟩ := hRk.at_ hlt
      have hb := HBR.out (R.getD k 0) (by rw [List.getD, List.getElem?_eq_getElem (by rw [LR.out]; omega)]; exact List.getElem_mem _)
      have z0 := preP_zero R S k
      have OZ := OW.out
      rw [← z0] at OZ hle
      have O0 := hide OZ
      have HX := hide (preP_end R S k (by rw [LR.out]; omega))
      have HST := hide (fun j (hj : j < S.length) => preP_step R S k j hj)
      have HAT := hide (fun j => prs_at R S k j (by rw [LR.out]; omega))
      clear z0 OZ hRk
      generalize hrx : R.getD k 0 = r at c1 hb HST
      have HRX := hide hrx
      clear hrx c1
      go_wp2
      go_loopg [5, 7] m (fun g v i wq => ∃ j : Nat, g + j = m ∧ i = .int .i64 j ∧ Below w.heap.size w wq ∧ wq.ownsRow w.heap.size 23 2 v (preP R S k j).length (cellsP (preP R S k j)) ∧ (preP R S k j).length ≤ 1000)
      case atStart => exact ⟨0, by omega, rfl, hbel, O0.out, hle⟩
      case round =>
        obtain ⟨j, hj, rfl, hbq, hownq, hleq⟩ := hrel
        have hszq := hbq.size
        obtain ⟨A1, C1, hv1, -⟩ := own_form hownq
        have O1 := hide hownq
        clear hownq OW O0 hle
        subst hv1
        by_cases hjm : j < m
        · obtain ⟨bd, rfl, _, c2⟩ := (HS.out.below hbq).at_ hjm
          have hb2 := HBS.out (S.getD j 0) (by rw [List.getD, List.getElem?_eq_getElem (by rw [LS.out]; omega)]; exact List.getElem_mem _)
          have HS1 := hide (HST.out j (by rw [LS.out]; omega))
          generalize S.getD j 0 = s at c2 hb2 HS1
          obtain ⟨ad2, e2, _, c1⟩ := (HR.out.below hbq).at_ hlt
          obtain rfl : ad = ad2 := by injection e2
          rw [HRX.out] at c1
          clear e2
          by_cases h1000 : (preP R S k j).length < 1000
          · have e0 : (((preP R S k j).length : Int) == 1000) = false := by simp; omega
            by_cases hth : th r = th s
            · have e1 : (th r != th s) = false := by simpa using hth
              have HE := hide e1
              clear hth
              go_wp2
              go_quiet ((go_at_call 14; exact q_left (rthread_any _ _ (by omega))))
              go_wp2
              go_roundg (gk - 1)
              case rel =>
                have := HS1.out
                rw [HE.out] at this
                exact ⟨j + 1, by omega, by go_num, below_drewN hbq _, by rw [this]; exact own_bel O1.out (below_drewN (Below.refl _ _) _), by rw [this]; simpa using hleq⟩
              case measure => omega
            · have e1 : (th r != th s) = true := by simpa using hth
              have HE := hide e1
              clear hth
              go_wp2
              go_quiet ((go_at_call 14; exact q_left (rthread_any _ _ (by omega))))
              go_wp2
              go_region_law (refine step_push _ rfl (.tmp 35) (.tmp 45) _ rfl w.heap.size 23 i0 _ 2 16 Try.underlying24 hi hz0 hz1 hz2 (by rfl) (by decide) _ _ _ (by rfl) (own_bel O1.out ((below_drewN (Below.refl wr.heap.size wr) _).alloc (Nat.le_refl _) _)) [.int .i64 r, .int .i64 s] ⟨wr.heap.size, 0, none⟩ (by rfl) (cells_new wr _ _) (by rfl) (by simp [Value.oneCell']) (by omega) (by omega) (by simp; omega) ?_; intro v' w1 hown1 hg1)
              all_goals
                have hb1 : Below w.heap.size w w1 := hbq.trans (own_below2 O1.out ((below_drewN (Below.refl w.heap.size wr) (nq + 1)).alloc hszq _) hg1 (Nat.le_refl _) hszq)
                have O2 := hide hown1
                clear hown1 hg1
                go_wp2
                go_roundg (gk - 1)
                case rel =>
                  have := HS1.out
                  rw [HE.out, if_pos rfl] at this
                  exact ⟨j + 1, by omega, by go_num, hb1, by rw [this, cellsP_snoc]; simpa using O2.out, by rw [this]; simp; omega⟩
                case measure => omega
          · have e0 : (((preP R S k j).length : Int) == 1000) = true := by simp; omega
            have HP := hide (HAT.out j (by omega))
            go_wp2_with (go_at_call 14; refine (rthread_any _ _ (by omega)).mono ?_; rintro e w' ⟨rfl, rfl⟩)
            go_ret
            exact ⟨_, rfl, by rw [HP.out]; exact O1.out, hbq⟩
        · have ej : preP R S k j = allP (R.take (k + 1)) S := by
            rw [← HX.out, LS.out]
            congr 1
            omega
          have HJ := hide ej
          clear ej
          go_wp2
          go_roundg (gko - 1)
          case rel => exact ⟨k + 1, by omega, by go_num, hbq, by rw [← HJ.out]; exact O1.out, by rw [← HJ.out]; exact hleq⟩
          case measure => omega
    · have ek : prs R S = allP (R.take k) S := by
        rw [List.take_of_length_le (by rw [LR.out]; omega)] at hle ⊢
        exact prs_all _ _ hle
      have HK := hide ek
      clear ek
      go_wp2
      go_ret
      exact ⟨_, rfl, by rw [HK.out]; exact OW.out, hbel⟩
end Go.Proofs.Ytjmchkafjpahbaa
