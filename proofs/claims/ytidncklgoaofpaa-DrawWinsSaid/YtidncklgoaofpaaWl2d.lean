/- The walk of DrawWins. -/
import Derived.Test.YtidncklgoaofpaaWl2c
namespace Go.Proofs.Ytidncklgoaofpaa
open Go.RowKit
set_option linter.unusedVariables false

def allB : Nat → List (List Bool)
  | 0 => [[]]
  | n + 1 => (allB n).flatMap fun l => [true :: l, false :: l]
theorem mem_allB (b : List Bool) : b ∈ allB b.length := by
  induction b with
  | nil => simp [allB]
  | cons x b ih =>
    rw [List.length_cons, allB, List.mem_flatMap]
    exact ⟨b, ih, by cases x <;> simp⟩
/-- Who of the set comes first. -/
def whoN (n : Nat) (b : List Bool) (k : Nat) : Option Int := (oN n k).find? fun x => b.getD x.toNat false
def winN (n : Nat) (b : List Bool) : Nat → List Int
  | 0 => List.replicate n 0
  | k + 1 => match whoN n b k with
    | none => winN n b k
    | some x => (winN n b k).set x.toNat ((winN n b k).getD x.toNat 0 + 1)
theorem winN_len (n : Nat) (b : List Bool) (k : Nat) : (winN n b k).length = n := by
  induction k with
  | zero => simp [winN]
  | succ k ih =>
    rw [winN]
    split
    · exact ih
    · rw [List.length_set, ih]
theorem winN_bd (n : Nat) (b : List Bool) (k : Nat) : ∀ j, 0 ≤ (winN n b k).getD j 0 ∧ (winN n b k).getD j 0 ≤ k := by
  induction k with
  | zero =>
    intro j
    have : (winN n b 0).getD j 0 = 0 := by
      unfold winN
      rw [List.getD, List.getElem?_replicate]
      split <;> rfl
    omega
  | succ k ih =>
    intro j
    rw [winN]
    have h1 := ih j
    split
    · omega
    · rename_i x _
      have h2 := ih x.toNat
      generalize x.toNat = x at *
      rw [List.getD, List.getElem?_set]
      split
      · split
        · simp only [Option.getD_some]; omega
        · simp only [Option.getD_none]; omega
      · rw [← List.getD]; omega
def sizeN (b : List Bool) (k : Nat) : Nat := ((b.take k).filter id).length
theorem sizeN_succ (b : List Bool) (k : Nat) (hk : k < b.length) : sizeN b (k + 1) = if b.getD k false then sizeN b k + 1 else sizeN b k := by
  unfold sizeN
  have e : b.getD k false = b[k] := by simp [List.getD, List.getElem?_eq_getElem hk]
  rw [List.take_succ_eq_append_getElem hk, List.filter_append, e, List.length_append]
  cases b[k] <;> simp
theorem sizeN_le (b : List Bool) (k : Nat) : sizeN b k ≤ k := by
  unfold sizeN
  have h1 := List.length_filter_le id (b.take k)
  have h2 := List.length_take_le k b
  omega
theorem win_facts : ∀ n ∈ [1, 2, 3, 4, 5], (∀ l ∈ osN n (fac n), ∀ x ∈ l, 0 ≤ x ∧ x < (n : Int)) ∧ ∀ b ∈ allB n, ∀ i ∈ List.range n, b.getD i false = true → (winN n b (fac n)).getD i 0 * (sizeN b n : Int) = (fac n : Int) := by decide +kernel
theorem winN_last (n : Nat) (b : List Bool) (i : Nat) (h1 : 1 ≤ n) (h5 : n ≤ 5) (hb : b.length = n) (hi : i < n) (h : b.getD i false = true) : (winN n b (fac n)).getD i 0 * (sizeN b n : Int) = (fac n : Int) :=
  (win_facts n (by simp; omega)).2 b (hb ▸ mem_allB b) i (by simpa using hi) h
theorem oN_in (n k : Nat) (h1 : 1 ≤ n) (h5 : n ≤ 5) (hk : k < fac n) (j : Nat) (hj : j < n) : 0 ≤ (oN n k).getD j 0 ∧ (oN n k).getD j 0 < (n : Int) := by
  have h := (win_facts n (by simp; omega)).1
  refine h (oN n k) ?_ _ ?_
  · rw [← osN_at n (fac n) k hk, List.getD, List.getElem?_eq_getElem (by rw [osN_len]; exact hk)]
    exact List.getElem_mem _
  · rw [List.getD, List.getElem?_eq_getElem (by rw [oN_len]; exact hj)]
    exact List.getElem_mem _
/-- The test whether k is in the set, as the walk has it. -/
def inS (a : Int) (k : Nat) : Bool := Go.bits BinOp.and IntKind.u8 (a / 2 ^ k) 1 == 1
def setB (a : Int) (t : Nat) : List Bool := (List.range t).map (inS a)
theorem setB_len (a : Int) (t : Nat) : (setB a t).length = t := by unfold setB; simp
theorem setB_at (a : Int) (t k : Nat) (h : k < t) : (setB a t).getD k false = inS a k := by unfold setB; simp [List.getD, List.getElem?_map, List.getElem?_range h]
theorem who_none (n : Nat) (b : List Bool) (k : Nat) (h : ∀ p, p < n → b.getD ((oN n k).getD p 0).toNat false = false) : whoN n b k = none := by
  unfold whoN
  rw [List.find?_eq_none]
  intro x hx
  obtain ⟨j, hj, rfl⟩ := List.getElem_of_mem hx
  have := h j (by rw [oN_len] at hj; exact hj)
  simpa [List.getD, List.getElem?_eq_getElem hj] using this
theorem who_some (n : Nat) (b : List Bool) (k j : Nat) (hj : j < n) (h : ∀ p, p < j → b.getD ((oN n k).getD p 0).toNat false = false) (hx : b.getD ((oN n k).getD j 0).toNat false = true) : whoN n b k = some ((oN n k).getD j 0) := by
  unfold whoN
  have hl := oN_len n k
  rw [List.find?_eq_some_iff_getElem]
  refine ⟨hx, j, by omega, by simp [List.getD, List.getElem?_eq_getElem (show j < (oN n k).length by omega)], fun p hp => ?_⟩
  have := h p hp
  have hp' : p < (oN n k).length := by omega
  simpa [List.getD, List.getElem?_eq_getElem hp'] using this
theorem winN_none (n : Nat) (b : List Bool) (k : Nat) (h : whoN n b k = none) : winN n b (k + 1) = winN n b k := by rw [winN, h]
theorem winN_some (n : Nat) (b : List Bool) (k x : Nat) (h : whoN n b k = some (x : Int)) : winN n b (k + 1) = (winN n b k).set x ((winN n b k).getD x 0 + 1) := by rw [winN, h]; rfl
set_option maxHeartbeats 4000000 in
set_option maxRecDepth 100000 in
theorem wins_walk (a0 : Int) (a1 : Int) (w : World) (w0 : (Lit.int .i64 a0).wf = true) (w1 : (Lit.int .u8 a1).wf = true) :
    Calls Try.prog 6 #[.int .i64 a0, .int .u8 a1] w fun e w' => e = .returned (.bool true) ∧ Below w.heap.size w w' := by
  have b0 := bounds_i64 w0
  have b1 := bounds_u8 w1
  have m1 := Int.emod_nonneg a0 (show (5 : Int) ≠ 0 by omega)
  have m2 := Int.emod_lt_of_pos a0 (show (0 : Int) < 5 by omega)
  obtain ⟨t, ht⟩ := Int.eq_ofNat_of_zero_le (show 0 ≤ 1 + a0 % 5 by omega)
  obtain ⟨c1, c2, c3⟩ := cnt_n t (by omega) (by omega)
  have hm := hide (show a0 % 5 = (t : Int) - 1 by omega)
  have h1 : 1 ≤ t := by omega
  have h5 : t ≤ 5 := by omega
  clear ht m1 m2
  have md := fun W => mod_any a0 5 W (by omega) (by omega) b0.1 b0.2
  rw [hm.out] at md
  have MD := hide md
  have hmk := fun W => run_make_row' (P := Try.prog) 22 3 (.int .i64 0) 8 Try.underlying22 Try.int_inf rfl .i64 .i64 t (by omega) (by omega) W
  have cn : ∀ W, Calls Try.prog 27 #[.int .i64 t] W fun e w' => e = .returned (.int .i64 (fac t : Nat)) ∧ W = w' := fun W => by
    have := rcount_any (t : Int) W
    rw [c1] at this
    exact this
  have CN := hide cn
  have nt : ∀ W k, k < fac t → Calls Try.prog 28 #[.int .i64 t, .int .i64 (k : Nat)] W fun e w' => e = .returned (.tuple #[.slice (some ⟨W.heap.size, 0, none⟩) t t, .bool true]) ∧ IsI .i64 w' (some ⟨W.heap.size, 0, none⟩) t (nthL t k) ∧ Below W.heap.size W w' := fun W k hk => by
    refine (rnth_yes t k W (by omega) (by rw [c1]; omega)).mono fun e w' hh => ?_
    obtain ⟨he, hb, hbel⟩ := hh
    exact ⟨he, bkI_isI hb (nthL_len _ _), hbel⟩
  have NT := hide nt
  have hx : Hid (∀ k, k < fac t → ∀ j, j < t → 0 ≤ (oN t k).getD j 0 ∧ (oN t k).getD j 0 < (t : Int)) := fun k => oN_in t k h1 h5
  have hl : Hid (∀ i, i < t → (setB a1 t).getD i false = true → (winN t (setB a1 t) (fac t)).getD i 0 * (sizeN (setB a1 t) t : Int) = (fac t : Int)) := fun i => winN_last t _ i h1 h5 (setB_len a1 t)
  have hB : Hid (∀ k, k < t → (setB a1 t).getD k false = inS a1 k) := setB_at a1 t
  have hBl := hide (setB_len a1 t)
  clear cn md nt c1
  generalize fac t = N at CN NT c2 c3 hx hl
  generalize setB a1 t = B at hl hB hBl
  have hs : 1 + ((t : Int) - 1) = t := by omega
  go_enter Try.func6, Try.ntmps6
  go_wp2_with (first
    | (go_at_call 20; refine (awake2_any _).mono ?_; rintro e y ⟨rfl, hb0⟩)
    | (go_at_call 15; refine (MD.out _).mono ?_; rintro e w' ⟨rfl, rfl⟩))
  clear hs hmk
  have hsy := hb0.size
  have hba : Below w.heap.size w (y.alloc (.cells (madeCells #[Value.int .i64 0] t) 3)) := hb0.alloc hsy _
  have HBA := hide hba
  have HBK : Hid (Bk (y.alloc (.cells (madeCells #[Value.int .i64 0] t) 3)) y.heap.size 3 (cellsI (winN t B 0))) := by
    unfold winN
    rw [← made_eq]
    exact Bk.new _ _ _
  clear hba hb0
  generalize y.alloc (.cells (madeCells #[Value.int .i64 0] t) 3) = WA at HBA HBK
  go_loopg [6, 7] t (fun m z i wr => ∃ k : Nat, m + k = t ∧ i = .int .i64 k ∧ z = .int .i64 (sizeN B k : Nat) ∧ wr = WA)
  case atStart => exact ⟨0, by omega, rfl, rfl, rfl⟩
  case round =>
    obtain ⟨k, hk, rfl, rfl, rfl⟩ := hrel
    have hzl := sizeN_le B k
    by_cases hlt : k < t
    · have hbk := hB.out k hlt
      have hsu := sizeN_succ B k (by rw [hBl.out]; exact hlt)
      rw [hbk] at hsu
      have HSU := hide hsu
      clear hsu hbk
      generalize sizeN B k = z at hzl HSU
      rcases hin : inS a1 k with _ | _
      · have e1 : (Go.bits BinOp.and IntKind.u8 (a1 / 2 ^ k) 1 == 1) = false := hin
        rw [hin] at HSU
        clear hin
        go_wp2
        go_roundg (gk - 1)
        case rel => exact ⟨k + 1, by omega, by go_num, by rw [HSU.out]; rfl, rfl⟩
        case measure => omega
      · have e1 : (Go.bits BinOp.and IntKind.u8 (a1 / 2 ^ k) 1 == 1) = true := hin
        rw [hin] at HSU
        clear hin
        go_wp2
        go_roundg (gk - 1)
        case rel => exact ⟨k + 1, by omega, by go_num, by rw [HSU.out]; simp, rfl⟩
        case measure => omega
    · obtain ⟨t2, ht2⟩ : ∃ t2, t2 = t := ⟨_, rfl⟩
      obtain rfl : k = t := by omega
      clear hlt hk
      by_cases hz0 : sizeN B k = 0
      · have e0 : (((sizeN B k : Nat) : Int) == 0) = true := by simp; omega
        generalize sizeN B k = z at e0
        clear hz0
        go_wp2
        go_ret
        exact ⟨rfl, HBA.out⟩
      have e0 : (((sizeN B k : Nat) : Int) == 0) = false := by simp; omega
      have hsize : ∃ z : Nat, sizeN B k = z ∧ z ≤ 5 := ⟨_, rfl, by omega⟩
      obtain ⟨z, hz, hz5⟩ := hsize
      rw [hz] at e0 hl ⊢
      clear hz0 hzl hz ht2
      go_wp2
      clear e0
      have ob := order_bk
      have OB := hide ob
      clear ob
      go_loopg [8] N (fun m i wr => ∃ q : Nat, m + q = N ∧ i = .int .i64 q ∧ Below w.heap.size w wr ∧ Bk wr y.heap.size 3 (cellsI (winN k B q)))
      case atStart => exact ⟨0, by omega, rfl, HBA.out, HBK.out⟩
      case round =>
        obtain ⟨q, hq, rfl, hbel, hbkF⟩ := hrel
        obtain ⟨gko, hgo⟩ : ∃ g, g = gk := ⟨_, rfl⟩
        subst hgo
        have HB := hide hbel
        have BF := hide hbkF
        have hsz := hbel.size
        have hGlt : y.heap.size < wr.heap.size := hbkF.lt
        clear hbel hbkF HBA HBK
        by_cases hqN : q < N
        · go_wp2_with (go_at_call 27; refine (CN.out _).mono ?_; rintro e w' ⟨rfl, rfl⟩)
          refine (NT.out _ q hqN).mono ?_
          rintro e y1 ⟨rfl, hi1, hb1⟩
          have I1 := hide hi1
          clear hi1
          go_wp2_with fail
          refine (OB.out _ k _ _ _ _ I1.out h1 (by omega) (by omega)).mono ?_
          rintro e y2 ⟨rfl, hbk2, hb2⟩
          have hs1 := hb1.size
          have hs2 := hb2.size
          have BK : Hid (Bk y2 y1.heap.size 3 (cellsI (oN k q))) := hbk2
          have hb12 := hb1.trans (hb2.mono hs1)
          have B2 := hide (BF.out.below hb12 hGlt)
          have HB2 := hide (HB.out.trans (hb12.mono hsz))
          clear hbk2 hb1 hb2 hb12 I1
          go_wp2_with fail
          go_loopg [53] k (fun m i wq => ∃ j : Nat, m + j = k ∧ i = .int .i64 j ∧ wq = y2 ∧ ∀ p, p < j → B.getD ((oN k q).getD p 0).toNat false = false)
          case atStart => exact ⟨0, by omega, rfl, rfl, fun p hp => absurd hp (by omega)⟩
          case round =>
            obtain ⟨j, hj, rfl, rfl, hall⟩ := hrel
            have HA := hide hall
            clear hall
            by_cases hjk : j < k
            · obtain ⟨x1, x2⟩ := hx.out q hqN j hjk
              have c0 := at_cell BK.out (oN_len k q) j hjk
              obtain ⟨x, hxt, hxx⟩ : ∃ x : Nat, x < k ∧ (oN k q).getD j 0 = x := ⟨((oN k q).getD j 0).toNat, by omega, by omega⟩
              rw [hxx] at c0
              have HXX := hide hxx
              have d1 : decide ((x : Int) < 0) = false := by simp
              have d2 : decide (k ≤ x) = false := by simp; omega
              have hbx := hB.out x hxt
              clear x1 x2 hxx
              rcases hin : inS a1 x with _ | _
              · have e1 : (Go.bits BinOp.and IntKind.u8 (a1 / 2 ^ x) 1 == 1) = false := hin
                rw [hin] at hbx
                have HBX := hide hbx
                clear hin hbx
                go_wp2
                go_roundg (gk - 1)
                case rel => exact ⟨j + 1, by omega, by go_num, rfl, fun p hp => by
                    rcases Nat.lt_or_ge p j with h | h
                    · exact HA.out p h
                    · obtain rfl : p = j := by omega
                      rw [HXX.out, Int.toNat_natCast]; exact HBX.out⟩
                case measure => omega
              · have e1 : (Go.bits BinOp.and IntKind.u8 (a1 / 2 ^ x) 1 == 1) = true := hin
                rw [hin] at hbx
                have hw : whoN k B q = some (x : Int) := by
                  rw [← HXX.out]
                  exact who_some k B q j hjk HA.out (by rw [HXX.out, Int.toNat_natCast]; exact hbx)
                have hst := winN_some k B q x hw
                have c1 := at_cell B2.out (winN_len k B q) x hxt
                have f1 := B2.out.frozen x
                have hfb := winN_bd k B q x
                generalize (winN k B q).getD x 0 = v at c1 hst hfb
                have HST := hide hst
                clear hin hbx hw hst
                go_wp2
                go_roundg (gko - 1)
                case rel => exact ⟨q + 1, by omega, by go_num, HB2.out.setCell hsy _, by rw [HST.out]; exact bkI_set _ _ B2.out⟩
                case measure => omega
            · have HW := hide (winN_none k B q (who_none k B q (fun p hp => HA.out p (by omega))))
              go_wp2
              go_roundg (gko - 1)
              case rel => exact ⟨q + 1, by omega, by go_num, HB2.out, by rw [HW.out]; exact B2.out⟩
              case measure => omega
        · have hqe : q = N := by omega
          have hl2 := hl.out
          rw [← hqe] at hl2
          have HL2 := hide hl2
          clear hl2 hqe
          go_wp2_with (go_at_call 27; refine (CN.out _).mono ?_; rintro e w' ⟨rfl, rfl⟩)
          go_loopg [13] k (fun m i wq => ∃ j : Nat, m + j = k ∧ i = .int .i64 j ∧ ∃ p, wq = wr.drewN p)
          case atStart => exact ⟨0, by omega, rfl, 0, rfl⟩
          case round =>
            obtain ⟨j, hj, rfl, p, rfl⟩ := hrel
            by_cases hjk : j < k
            · have hbx := hB.out j hjk
              rcases hin : inS a1 j with _ | _
              · have e1 : (Go.bits BinOp.and IntKind.u8 (a1 / 2 ^ j) 1 == 1) = false := hin
                clear hin hbx
                go_wp2
                go_quiet (fail)
                go_wp2
                go_roundg (gk - 1)
                case rel => exact ⟨j + 1, by omega, by go_num, _, rfl⟩
                case measure => omega
              · have e1 : (Go.bits BinOp.and IntKind.u8 (a1 / 2 ^ j) 1 == 1) = true := hin
                rw [hin] at hbx
                have c1 := at_cell BF.out (winN_len k B q) j hjk
                have e3 : (winN k B q).getD j 0 * (z : Int) = (N : Int) := by have := HL2.out j hjk hbx; rw [this]; omega
                generalize (winN k B q).getD j 0 = v at c1 e3
                have e2 : (v * (z : Int) != (N : Int)) = false := by rw [e3]; simp
                have hw : IntKind.i64.wrap (v * (z : Int)) = v * (z : Int) := by rw [e3]; exact IntWalk.i64_in _ (by omega)
                clear hin hbx e3
                go_wp2
                go_quiet ((go_at_call 27; first | exact q_add (CN.out _) | exact q_left (CN.out _)))
                go_wp2
                go_roundg (gk - 1)
                case rel => exact ⟨j + 1, by omega, by go_num, _, rfl⟩
                case measure => omega
            · go_wp2
              go_ret
              exact ⟨rfl, below_drewN HB.out _⟩
end Go.Proofs.Ytidncklgoaofpaa
