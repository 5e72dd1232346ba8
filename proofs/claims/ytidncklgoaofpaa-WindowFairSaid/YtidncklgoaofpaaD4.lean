/- Contracts: the number of a list of draws (Index), a round (window.Round), rounds (window.Rounds), the program's and the document's. -/
import Derived.Test.YtidncklgoaofpaaD3
namespace Go.Proofs.Ytidncklgoaofpaa
open Go.RowKit
set_option linter.unusedVariables false

def ixGo : Nat → Nat → List Int → Option Nat
  | _, out, [] => some out
  | i, out, d :: l => if d < 0 ∨ (i : Int) < d then none else ixGo (i + 1) (out * (i + 1) + d.toNat) l
def ixV (l : List Int) : Option Nat := if 20 < l.length then none else ixGo 0 0 l
theorem ix_step (l : List Int) (k out : Nat) (hk : k < l.length) :
    ixGo k out (l.drop k) = if l.getD k 0 < 0 ∨ (k : Int) < l.getD k 0 then none else ixGo (k + 1) (out * (k + 1) + (l.getD k 0).toNat) (l.drop (k + 1)) := by
  rw [List.drop_eq_getElem_cons hk, ixGo]
  have e : l.getD k 0 = l[k] := by simp [List.getD, List.getElem?_eq_getElem hk]
  rw [e]
theorem ix_room (k out d : Nat) (hk : k < 20) (h : out < fac k) (hd : d ≤ k) : out * (k + 1) + d < fac (k + 1) ∧ out * (k + 1) + d ≤ 2432902008176640000 := by
  have h1 : (out + 1) * (k + 1) ≤ fac k * (k + 1) := Nat.mul_le_mul_right _ h
  have h2 : fac (k + 1) = fac k * (k + 1) := by rw [fac, Nat.mul_comm]
  have h3 := fac_le (k + 1) (by omega)
  rw [Nat.add_mul] at h1
  omega
set_option maxHeartbeats 2000000 in
theorem index_any (w : World) (A : Option Addr) (n c : Nat) (l : List Int) (h : IsI .i64 w A n l) (hn : n ≤ 100000) :
    Calls Try.prog 31 #[.slice A n c] w fun e w' => e = .returned (.tuple #[.int .i64 (((ixV l).getD 0 : Nat) : Int), .bool (ixV l).isSome]) ∧ w = w' := by
  have hl := h.len
  have H := hide h
  have HL := hide hl
  by_cases h20 : 20 < n
  · have e : ixV l = none := by unfold ixV; rw [if_pos (by omega)]
    have E := hide e
    clear h hl e
    go_enter Try.func31, Try.ntmps31
    go_wp2
    go_ret2
    exact ⟨ret_eq (by rw [E.out]; rfl), rfl⟩
  have e : ixV l = ixGo 0 0 (l.drop 0) := by unfold ixV; rw [if_neg (by omega)]; rfl
  have E := hide e
  clear h hl e
  go_enter Try.func31, Try.ntmps31
  go_wp2
  go_loopg [4, 12] n (fun g o i wr => ∃ (k out : Nat), g + k = n ∧ i = .int .i64 k ∧ o = .int .i64 out ∧ out < fac k ∧ wr = w ∧ ixGo k out (l.drop k) = ixGo 0 0 (l.drop 0))
  case atStart => exact ⟨0, 0, by omega, rfl, rfl, by decide, rfl, rfl⟩
  case round =>
    obtain ⟨k, out, hk, rfl, rfl, ho, rfl, hix⟩ := hrel
    have HX := hide hix
    clear hix
    by_cases hlt : k < n
    · obtain ⟨ad, rfl, _, c1⟩ := H.out.at_ hlt
      have hst := hide (ix_step l k out (by have := HL.out; omega))
      generalize l.getD k 0 = d at c1 hst
      by_cases q1 : d < 0
      · have q9 := hide (show ixV l = none by rw [E.out, ← HX.out, hst.out, if_pos (.inl q1)])
        go_wp2
        go_ret2
        exact ⟨ret_eq (by rw [q9.out]; rfl), rfl⟩
      have q2 : decide (d < 0) = false := by simpa using q1
      by_cases q3 : (k : Int) < d
      · have q9 := hide (show ixV l = none by rw [E.out, ← HX.out, hst.out, if_pos (.inr q3)])
        go_wp2
        go_ret2
        exact ⟨ret_eq (by rw [q9.out]; rfl), rfl⟩
      have q4 : decide ((k : Int) < d) = false := by simpa using q3
      obtain ⟨dn, rfl⟩ := Int.eq_ofNat_of_zero_le (show 0 ≤ d by omega)
      obtain ⟨r1, r2⟩ := ix_room k out dn (by omega) ho (by omega)
      have R1 := hide r1
      have p1 : (0 : Int) ≤ (out : Int) * ((k : Int) + 1) := by
        have e : ((out * (k + 1) : Nat) : Int) = (out : Int) * ((k : Int) + 1) := Int.natCast_mul _ _
        rw [← e]
        exact Int.natCast_nonneg _
      have p2 : (out : Int) * ((k : Int) + 1) + dn ≤ 2432902008176640000 := by
        have e : ((out * (k + 1) : Nat) : Int) = (out : Int) * ((k : Int) + 1) := Int.natCast_mul _ _
        rw [← e]
        omega
      have P3 := hide (show ((out * (k + 1) + dn : Nat) : Int) = (out : Int) * ((k : Int) + 1) + dn from by rw [Int.natCast_add, Int.natCast_mul]; rfl)
      have hst2 := hide (show ixGo (k + 1) (out * (k + 1) + dn) (l.drop (k + 1)) = ixGo 0 0 (l.drop 0) by
        rw [← HX.out, hst.out, if_neg (by omega), Int.toNat_natCast])
      clear r1 r2
      go_wp2
      go_roundg (gk - 1)
      case rel => exact ⟨k + 1, out * (k + 1) + dn, by omega, by go_num, by rw [P3.out], R1.out, rfl, hst2.out⟩
      case measure => omega
    · have q9 := hide (show ixV l = some out by rw [E.out, ← HX.out, List.drop_of_length_le (by have := HL.out; omega)]; rfl)
      go_wp2
      go_ret2
      exact ⟨ret_eq (by rw [q9.out]; rfl), rfl⟩
set_option maxHeartbeats 2000000 in
theorem rindex_any (w : World) (A : Option Addr) (n c : Nat) (l : List Int) (h : IsI .i64 w A n l) (hn : n ≤ 100000) :
    Calls Try.prog 32 #[.slice A n c] w fun e w' => e = .returned (.tuple #[.int .i64 (((ixV l).getD 0 : Nat) : Int), .bool (ixV l).isSome]) ∧ w = w' := by
  have hl := h.len
  have H := hide h
  have HL := hide hl
  by_cases h20 : 20 < n
  · have e : ixV l = none := by unfold ixV; rw [if_pos (by omega)]
    have E := hide e
    clear h hl e
    go_enter Try.func32, Try.ntmps32
    go_wp2
    go_ret2
    exact ⟨ret_eq (by rw [E.out]; rfl), rfl⟩
  have e : ixV l = ixGo 0 0 (l.drop 0) := by unfold ixV; rw [if_neg (by omega)]; rfl
  have E := hide e
  clear h hl e
  go_enter Try.func32, Try.ntmps32
  go_wp2
  go_loopg [5, 6] n (fun g o i wr => ∃ (k out : Nat), g + k = n ∧ i = .int .i64 k ∧ o = .int .i64 out ∧ out < fac k ∧ wr = w ∧ ixGo k out (l.drop k) = ixGo 0 0 (l.drop 0))
  case atStart => exact ⟨0, 0, by omega, rfl, rfl, by decide, rfl, rfl⟩
  case round =>
    obtain ⟨k, out, hk, rfl, rfl, ho, rfl, hix⟩ := hrel
    have HX := hide hix
    clear hix
    by_cases hlt : k < n
    · obtain ⟨ad, rfl, _, c1⟩ := H.out.at_ hlt
      have hst := hide (ix_step l k out (by have := HL.out; omega))
      generalize l.getD k 0 = d at c1 hst
      by_cases q1 : d < 0
      · have q9 := hide (show ixV l = none by rw [E.out, ← HX.out, hst.out, if_pos (.inl q1)])
        go_wp2
        go_ret2
        exact ⟨ret_eq (by rw [q9.out]; rfl), rfl⟩
      have q2 : decide (d < 0) = false := by simpa using q1
      by_cases q3 : (k : Int) < d
      · have q9 := hide (show ixV l = none by rw [E.out, ← HX.out, hst.out, if_pos (.inr q3)])
        go_wp2
        go_ret2
        exact ⟨ret_eq (by rw [q9.out]; rfl), rfl⟩
      have q4 : decide ((k : Int) < d) = false := by simpa using q3
      obtain ⟨dn, rfl⟩ := Int.eq_ofNat_of_zero_le (show 0 ≤ d by omega)
      obtain ⟨r1, r2⟩ := ix_room k out dn (by omega) ho (by omega)
      have R1 := hide r1
      have p1 : (0 : Int) ≤ (out : Int) * ((k : Int) + 1) := by
        have e : ((out * (k + 1) : Nat) : Int) = (out : Int) * ((k : Int) + 1) := Int.natCast_mul _ _
        rw [← e]
        exact Int.natCast_nonneg _
      have p2 : (out : Int) * ((k : Int) + 1) + dn ≤ 2432902008176640000 := by
        have e : ((out * (k + 1) : Nat) : Int) = (out : Int) * ((k : Int) + 1) := Int.natCast_mul _ _
        rw [← e]
        omega
      have P3 := hide (show ((out * (k + 1) + dn : Nat) : Int) = (out : Int) * ((k : Int) + 1) + dn from by rw [Int.natCast_add, Int.natCast_mul]; rfl)
      have hst2 := hide (show ixGo (k + 1) (out * (k + 1) + dn) (l.drop (k + 1)) = ixGo 0 0 (l.drop 0) by
        rw [← HX.out, hst.out, if_neg (by omega), Int.toNat_natCast])
      clear r1 r2
      go_wp2
      go_roundg (gk - 1)
      case rel => exact ⟨k + 1, out * (k + 1) + dn, by omega, by go_num, by rw [P3.out], R1.out, rfl, hst2.out⟩
      case measure => omega
    · have q9 := hide (show ixV l = some out by rw [E.out, ← HX.out, List.drop_of_length_le (by have := HL.out; omega)]; rfl)
      go_wp2
      go_ret2
      exact ⟨ret_eq (by rw [q9.out]; rfl), rfl⟩

/-! ### Rounds -/
def rnd (t k : Int) : List Int := if t < 1 ∨ 8 < t then [] else ordr t (nthL t.toNat (k % cnt t).toNat)
theorem cnt_8 (t : Int) (h1 : 1 ≤ t) (h2 : t ≤ 8) : 1 ≤ cnt t ∧ cnt t ≤ 40320 := by
  unfold cnt
  rw [if_neg (by omega)]
  have h3 := fac_pos t.toNat
  have h4 := fac_mono t.toNat 8 (by omega)
  have h5 : fac 8 = 40320 := by decide
  omega
theorem rnd_len (t k : Int) : (rnd t k).length ≤ 8 := by
  unfold rnd
  split
  · simp
  · unfold ordr
    split
    · simp
    · rw [ord_len, idl_len]; omega
set_option maxHeartbeats 1000000 in
theorem round_any (w : World) (t k : Int) (hk1 : -9223372036854775808 ≤ k) (hk2 : k ≤ 9223372036854775807) :
    Calls Try.prog 35 #[.int .i64 t, .int .i64 k] w fun e w' => ∃ A c, e = .returned (.slice A (rnd t k).length c) ∧ IsI .i64 w' A (rnd t k).length (rnd t k) ∧ (rnd t k).length ≤ c ∧ c ≤ 20 ∧ Below w.heap.size w w' := by
  by_cases h1 : t < 1 ∨ 8 < t
  · have e : rnd t k = [] := by unfold rnd; rw [if_pos h1]
    have key : Calls Try.prog 35 #[.int .i64 t, .int .i64 k] w fun e w' => e = .returned (.slice none 0 0) ∧ w = w' := by
      clear e
      by_cases h2 : t < 1
      · go_enter Try.func35, Try.ntmps35
        go_wp2
        go_ret
        exact ⟨rfl, rfl⟩
      · have h3 : decide (t < 1) = false := by simpa using h2
        have h4 : 8 < t := by omega
        clear h1
        go_enter Try.func35, Try.ntmps35
        go_wp2
        go_ret
        exact ⟨rfl, rfl⟩
    rw [e]
    refine key.mono fun e' w' hh => ?_
    obtain ⟨he, rfl⟩ := hh
    exact ⟨none, 0, he, IsI.nil _ _ _, Nat.le_refl _, by omega, Below.refl _ _⟩
  have h2 : decide (t < 1) = false := by simp; omega
  have h3 : decide (8 < t) = false := by simp; omega
  have h6 : t ≤ 8 := by omega
  have h7 : 1 ≤ t := by omega
  obtain ⟨b1, b2⟩ := cnt_8 t h7 h6
  have m1 := Int.emod_nonneg k (show cnt t ≠ 0 by omega)
  have m2 := Int.emod_lt_of_pos k (show 0 < cnt t by omega)
  obtain ⟨tn, rfl⟩ := Int.eq_ofNat_of_zero_le (show 0 ≤ t by omega)
  obtain ⟨q, hq⟩ := Int.eq_ofNat_of_zero_le m1
  have e : rnd tn k = ordr tn (nthL tn q) := by unfold rnd; rw [if_neg h1, hq]; simp
  rw [e]
  clear e h1
  have e1 : k.tmod (cnt tn) = q ∨ k.tmod (cnt tn) = q - cnt tn := by
    rw [Int.tmod_eq_emod, hq]
    split <;> omega
  rw [hq] at m2
  have hb : -40320 ≤ k.tmod (cnt tn) ∧ k.tmod (cnt tn) ≤ 40320 := by rcases e1 with e | e <;> omega
  have hp : 0 ≤ k.tmod (cnt tn) + cnt tn := by rcases e1 with e | e <;> omega
  have E := hide (show (k.tmod (cnt tn) + cnt tn) % cnt tn = q by
    rcases e1 with e | e
    · rw [e, Int.add_emod_right, Int.emod_eq_of_lt (by omega) (by omega)]
    · rw [e, show (q : Int) - cnt tn + cnt tn = q by omega, Int.emod_eq_of_lt (by omega) (by omega)])
  have E2 := hide (show k.tmod (cnt tn) % cnt tn = q by rw [← E.out, Int.add_emod_right])
  have E0 := hide (show (0 ≤ k.tmod (cnt tn) → k.tmod (cnt tn) = q) ∧ (k.tmod (cnt tn) < 0 → k.tmod (cnt tn) + cnt tn = q) by
    constructor <;> intro h <;> rcases e1 with e | e <;> omega)
  have cn := nth_yes tn q
  have CN := hide cn
  clear cn e1 m1 hq
  go_enter Try.func35, Try.ntmps35
  go_wp2_with (go_at_call 29; refine (count_any _ _).mono ?_; rintro e w' ⟨rfl, rfl⟩)
  rw [E2.out]
  go_wp2_with fail
  refine (CN.out _ (by omega) m2).mono ?_
  rintro e y1 ⟨rfl, hB1, hb1⟩
  have I1 := hide (bkI_isI hB1 (nthL_len tn q))
  clear hB1
  go_wp2_with fail
  refine (order_any _ tn _ _ _ _ I1.out (by omega)).mono ?_
  rintro e y2 ⟨A, c, rfl, hI2, hle, hc, hb2⟩
  have I2 := hide hI2
  clear hI2
  go_wp2
  go_ret
  exact ⟨A, c, rfl, I2.out, hle, hc, hb1.trans (hb2.mono hb1.size)⟩
set_option maxHeartbeats 1000000 in
theorem rround_any (w : World) (t k : Int) (hk1 : -9223372036854775808 ≤ k) (hk2 : k ≤ 9223372036854775807) :
    Calls Try.prog 36 #[.int .i64 t, .int .i64 k] w fun e w' => ∃ A c, e = .returned (.slice A (rnd t k).length c) ∧ IsI .i64 w' A (rnd t k).length (rnd t k) ∧ (rnd t k).length ≤ c ∧ c ≤ 20 ∧ Below w.heap.size w w' := by
  by_cases h1 : t < 1 ∨ 8 < t
  · have e : rnd t k = [] := by unfold rnd; rw [if_pos h1]
    have key : Calls Try.prog 36 #[.int .i64 t, .int .i64 k] w fun e w' => e = .returned (.slice none 0 0) ∧ w = w' := by
      clear e
      by_cases h2 : t < 1
      · go_enter Try.func36, Try.ntmps36
        go_wp2
        go_ret
        exact ⟨rfl, rfl⟩
      · have h3 : decide (t < 1) = false := by simpa using h2
        have h4 : 8 < t := by omega
        clear h1
        go_enter Try.func36, Try.ntmps36
        go_wp2
        go_ret
        exact ⟨rfl, rfl⟩
    rw [e]
    refine key.mono fun e' w' hh => ?_
    obtain ⟨he, rfl⟩ := hh
    exact ⟨none, 0, he, IsI.nil _ _ _, Nat.le_refl _, by omega, Below.refl _ _⟩
  have h2 : decide (t < 1) = false := by simp; omega
  have h3 : decide (8 < t) = false := by simp; omega
  have h6 : t ≤ 8 := by omega
  have h7 : 1 ≤ t := by omega
  obtain ⟨b1, b2⟩ := cnt_8 t h7 h6
  have m1 := Int.emod_nonneg k (show cnt t ≠ 0 by omega)
  have m2 := Int.emod_lt_of_pos k (show 0 < cnt t by omega)
  obtain ⟨tn, rfl⟩ := Int.eq_ofNat_of_zero_le (show 0 ≤ t by omega)
  obtain ⟨q, hq⟩ := Int.eq_ofNat_of_zero_le m1
  have e : rnd tn k = ordr tn (nthL tn q) := by unfold rnd; rw [if_neg h1, hq]; simp
  rw [e]
  clear e h1
  have e1 : k.tmod (cnt tn) = q ∨ k.tmod (cnt tn) = q - cnt tn := by
    rw [Int.tmod_eq_emod, hq]
    split <;> omega
  rw [hq] at m2
  have hb : -40320 ≤ k.tmod (cnt tn) ∧ k.tmod (cnt tn) ≤ 40320 := by rcases e1 with e | e <;> omega
  have hp : 0 ≤ k.tmod (cnt tn) + cnt tn := by rcases e1 with e | e <;> omega
  have E := hide (show (k.tmod (cnt tn) + cnt tn) % cnt tn = q by
    rcases e1 with e | e
    · rw [e, Int.add_emod_right, Int.emod_eq_of_lt (by omega) (by omega)]
    · rw [e, show (q : Int) - cnt tn + cnt tn = q by omega, Int.emod_eq_of_lt (by omega) (by omega)])
  have E2 := hide (show k.tmod (cnt tn) % cnt tn = q by rw [← E.out, Int.add_emod_right])
  have E0 := hide (show (0 ≤ k.tmod (cnt tn) → k.tmod (cnt tn) = q) ∧ (k.tmod (cnt tn) < 0 → k.tmod (cnt tn) + cnt tn = q) by
    constructor <;> intro h <;> rcases e1 with e | e <;> omega)
  have cn := rnth_yes tn q
  have CN := hide cn
  clear cn e1 m1 hq
  by_cases hneg : k.tmod (cnt tn) < 0
  · have hd := E0.out.2 hneg
    go_enter Try.func36, Try.ntmps36
    go_wp2_with (go_at_call 27; refine (rcount_any _ _).mono ?_; rintro e w' ⟨rfl, rfl⟩)
    go_wp2_with fail
    refine (CN.out _ (by omega) m2).mono ?_
    rintro e y1 ⟨rfl, hB1, hb1⟩
    have I1 := hide (bkI_isI hB1 (nthL_len tn q))
    clear hB1
    go_wp2_with fail
    refine (rorder_any _ tn _ _ _ _ I1.out (by omega)).mono ?_
    rintro e y2 ⟨A, c, rfl, hI2, hle, hc, hb2⟩
    have I2 := hide hI2
    clear hI2
    go_wp2
    go_ret
    exact ⟨A, c, rfl, I2.out, hle, hc, hb1.trans (hb2.mono hb1.size)⟩
  · have hd := E0.out.1 (by omega)
    go_enter Try.func36, Try.ntmps36
    go_wp2_with (go_at_call 27; refine (rcount_any _ _).mono ?_; rintro e w' ⟨rfl, rfl⟩)
    go_wp2_with fail
    refine (CN.out _ (by omega) m2).mono ?_
    rintro e y1 ⟨rfl, hB1, hb1⟩
    have I1 := hide (bkI_isI hB1 (nthL_len tn q))
    clear hB1
    go_wp2_with fail
    refine (rorder_any _ tn _ _ _ _ I1.out (by omega)).mono ?_
    rintro e y2 ⟨A, c, rfl, hI2, hle, hc, hb2⟩
    have I2 := hide hI2
    clear hI2
    go_wp2
    go_ret
    exact ⟨A, c, rfl, I2.out, hle, hc, hb1.trans (hb2.mono hb1.size)⟩

def rnds (t : Int) (l : List Int) : List Int := l.flatMap fun k => rnd t k
theorem rnds_step (t : Int) (l : List Int) (k : Nat) (hk : k < l.length) : rnds t (l.take (k + 1)) = rnds t (l.take k) ++ rnd t (l.getD k 0) := by
  unfold rnds
  have e : l.getD k 0 = l[k] := by simp [List.getD, List.getElem?_eq_getElem hk]
  rw [List.take_succ_eq_append_getElem hk, List.flatMap_append, e]
  simp
theorem rnds_len (t : Int) (l : List Int) : (rnds t l).length ≤ 8 * l.length := by
  unfold rnds
  induction l with
  | nil => simp
  | cons k l ih =>
    have := rnd_len t k
    simp only [List.flatMap_cons, List.length_append, List.length_cons]
    omega
set_option maxHeartbeats 1000000 in
theorem rounds_any (w : World) (t : Int) (B : Option Addr) (n c : Nat) (l : List Int) (h : IsI .i64 w B n l) (hwf : ∀ x ∈ l, -9223372036854775808 ≤ x ∧ x ≤ 9223372036854775807) (hn : n ≤ 1000) :
    Calls Try.prog 37 #[.int .i64 t, .slice B n c] w fun e w' => ∃ A d, e = .returned (.slice A (rnds t l).length d) ∧ IsI .i64 w' A (rnds t l).length (rnds t l) ∧ (rnds t l).length ≤ d ∧ d ≤ 9223372036854775807 ∧ Below w.heap.size w w' := by
  obtain ⟨i0, hi, hz0, hz1, hz2⟩ := info_parts Try.int_inf
  have hl := h.len
  have H := hide h
  have HL := hide hl
  have HW := hide hwf
  clear h hl hwf
  go_enter Try.func37, Try.ntmps37
  go_wp2
  go_loopg [5, 10] n (fun g v i wr => ∃ k : Nat, g + k = n ∧ i = .int .i64 k ∧ Below w.heap.size w wr ∧ wr.ownsRow w.heap.size 3 1 v (rnds t (l.take k)).length ((rnds t (l.take k)).map (Value.int .i64)))
  case atStart => exact ⟨0, by omega, rfl, Below.refl _ _, World.ownsRow_nil _ _ _ _⟩
  case round =>
    obtain ⟨k, hk, rfl, hbel, hown⟩ := hrel
    have OW := hide hown
    have hsz := hbel.size
    clear hown
    by_cases hlt : k < n
    · have hkl : k < l.length := by have := HL.out; omega
      obtain ⟨ad, rfl, _, c1⟩ := (H.out.below hbel).at_ hlt
      have hst := hide (rnds_step t l k hkl)
      have hx := HW.out (l.getD k 0) (by rw [List.getD, List.getElem?_eq_getElem hkl]; exact List.getElem_mem _)
      have hln := rnds_len t (l.take k)
      have hln2 : (l.take k).length ≤ k := List.length_take_le _ _
      generalize l.getD k 0 = x at c1 hst hx
      have hrl := rnd_len t x
      go_wp2_with (first
        | (go_at_call 35; refine (round_any _ _ _ hx.1 hx.2).mono ?_; rintro e y1 ⟨A, d, rfl, hI1, hle1, hd1, hb1⟩; have O1 := hide (own_bel OW.out hb1); have I1 := hide hI1; have hs1 := hb1.size; clear hI1)
        | (at_builtin; refine wpList_cat y1 (by rfl) _ _ _ (by rfl) w.heap.size 3 i0 _ 1 8 Try.underlying22 hi hz0 hz1 hz2 (by rfl) (by decide) _ _ _ (by rfl) O1.out _ _ _ _ (by rfl) I1.out ?_ ?_ ?_ ?_ ?_))
      · simp [Value.oneCell']
      · omega
      · omega
      · omega
      intro v' w3 hown3 hg3 _
      have hb3 : Below w.heap.size w w3 := (hbel.trans (hb1.mono hsz)).trans (own_below O1.out hg3 (Nat.le_refl _) (by omega))
      have O3 := hide hown3
      clear hown3 hg3
      go_wp2
      go_roundg (gk - 1)
      case rel => exact ⟨k + 1, by omega, by go_num, hb3, by rw [hst.out]; simpa using O3.out⟩
      case measure => omega
    · have hfin : rnds t (l.take k) = rnds t l := by rw [List.take_of_length_le (by have := HL.out; omega)]
      have O1 := OW.out
      rw [hfin] at O1
      obtain ⟨A, C, e, hc1, hc2, -⟩ := own_form O1
      have I1 := hide (IsI.of_own (e ▸ O1))
      clear hfin O1 OW
      subst e
      go_wp2
      go_ret
      exact ⟨A, C, rfl, I1.out, hc1, by unfold maxLen at hc2; omega, hbel⟩
set_option maxHeartbeats 1000000 in
theorem rrounds_any (w : World) (t : Int) (B : Option Addr) (n c : Nat) (l : List Int) (h : IsI .i64 w B n l) (hwf : ∀ x ∈ l, -9223372036854775808 ≤ x ∧ x ≤ 9223372036854775807) (hn : n ≤ 1000) :
    Calls Try.prog 38 #[.int .i64 t, .slice B n c] w fun e w' => ∃ A d, e = .returned (.slice A (rnds t l).length d) ∧ IsI .i64 w' A (rnds t l).length (rnds t l) ∧ (rnds t l).length ≤ d ∧ d ≤ 9223372036854775807 ∧ Below w.heap.size w w' := by
  obtain ⟨i0, hi, hz0, hz1, hz2⟩ := info_parts Try.int_inf
  have hl := h.len
  have H := hide h
  have HL := hide hl
  have HW := hide hwf
  clear h hl hwf
  go_enter Try.func38, Try.ntmps38
  go_wp2
  go_loopg [5, 6] n (fun g v i wr => ∃ k : Nat, g + k = n ∧ i = .int .i64 k ∧ Below w.heap.size w wr ∧ wr.ownsRow w.heap.size 3 1 v (rnds t (l.take k)).length ((rnds t (l.take k)).map (Value.int .i64)))
  case atStart => exact ⟨0, by omega, rfl, Below.refl _ _, World.ownsRow_nil _ _ _ _⟩
  case round =>
    obtain ⟨k, hk, rfl, hbel, hown⟩ := hrel
    have OW := hide hown
    have hsz := hbel.size
    clear hown
    by_cases hlt : k < n
    · have hkl : k < l.length := by have := HL.out; omega
      obtain ⟨ad, rfl, _, c1⟩ := (H.out.below hbel).at_ hlt
      have hst := hide (rnds_step t l k hkl)
      have hx := HW.out (l.getD k 0) (by rw [List.getD, List.getElem?_eq_getElem hkl]; exact List.getElem_mem _)
      have hln := rnds_len t (l.take k)
      have hln2 : (l.take k).length ≤ k := List.length_take_le _ _
      generalize l.getD k 0 = x at c1 hst hx
      have hrl := rnd_len t x
      go_wp2_with (first
        | (go_at_call 36; refine (rround_any _ _ _ hx.1 hx.2).mono ?_; rintro e y1 ⟨A, d, rfl, hI1, hle1, hd1, hb1⟩; have O1 := hide (own_bel OW.out hb1); have I1 := hide hI1; have hs1 := hb1.size; clear hI1)
        | (at_builtin; refine wpList_cat y1 (by rfl) _ _ _ (by rfl) w.heap.size 3 i0 _ 1 8 Try.underlying22 hi hz0 hz1 hz2 (by rfl) (by decide) _ _ _ (by rfl) O1.out _ _ _ _ (by rfl) I1.out ?_ ?_ ?_ ?_ ?_))
      · simp [Value.oneCell']
      · omega
      · omega
      · omega
      intro v' w3 hown3 hg3 _
      have hb3 : Below w.heap.size w w3 := (hbel.trans (hb1.mono hsz)).trans (own_below O1.out hg3 (Nat.le_refl _) (by omega))
      have O3 := hide hown3
      clear hown3 hg3
      go_wp2
      go_roundg (gk - 1)
      case rel => exact ⟨k + 1, by omega, by go_num, hb3, by rw [hst.out]; simpa using O3.out⟩
      case measure => omega
    · have hfin : rnds t (l.take k) = rnds t l := by rw [List.take_of_length_le (by have := HL.out; omega)]
      have O1 := OW.out
      rw [hfin] at O1
      obtain ⟨A, C, e, hc1, hc2, -⟩ := own_form O1
      have I1 := hide (IsI.of_own (e ▸ O1))
      clear hfin O1 OW
      subst e
      go_wp2
      go_ret
      exact ⟨A, C, rfl, I1.out, hc1, by unfold maxLen at hc2; omega, hbel⟩
end Go.Proofs.Ytidncklgoaofpaa
