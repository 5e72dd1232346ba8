/- Contracts: how many rounds are enough (window.Bound), how many rounds picks contain (window.Measure), the program's and the document's. -/
import Derived.Test.YtidncklgoaofpaaRows
import Derived.Test.YtidncklgoaofpaaK
namespace Go.Proofs.Ytidncklgoaofpaa
open Go.RowKit
set_option linter.unusedVariables false

def clm (x : Int) : Int := if x < 0 then 0 else if 1000 < x then 1000 else x
def bnd (t o : Int) : Int := wrap64 (wrap64 (60 * (clm o + 1) * (clm o + 1)) * (clm t + 1))
theorem clm_bd (x : Int) : 0 ≤ clm x ∧ clm x ≤ 1000 := by unfold clm; split; omega; split <;> omega
theorem bound_any (t o : Int) (w : World) :
    Calls Try.prog 18 #[.int .i64 t, .int .i64 o] w fun e w' => e = .returned (.int .i64 (bnd t o)) ∧ w = w' := by
  by_cases z1 : t = 0
  all_goals by_cases z2 : o = 0
  all_goals (try subst z1)
  all_goals (try subst z2)
  all_goals (try by_cases h1 : t < 0)
  all_goals (try by_cases h2 : o < 0)
  all_goals (try by_cases h3 : 1000 < t)
  all_goals (try by_cases h4 : 1000 < o)
  all_goals (try omega)
  all_goals
    go_enter Try.func18, Try.ntmps18
    go_wp2
  all_goals
    go_ret
    exact ⟨ret_int (by
      unfold bnd clm
      repeat (first | rw [if_pos (by omega)] | rw [if_neg (by omega)])
      try (first | rfl | (simp; done) | (simp [wrap64]; done) | (simp only [wrap64]; omega))), rfl⟩
theorem rbound_any (t o : Int) (w : World) :
    Calls Try.prog 19 #[.int .i64 t, .int .i64 o] w fun e w' => e = .returned (.int .i64 (bnd t o)) ∧ w = w' := by
  by_cases z1 : t = 0
  all_goals by_cases z2 : o = 0
  all_goals (try subst z1)
  all_goals (try subst z2)
  all_goals (try by_cases h1 : t < 0)
  all_goals (try by_cases h2 : o < 0)
  all_goals (try by_cases h3 : 1000 < t)
  all_goals (try by_cases h4 : 1000 < o)
  all_goals (try omega)
  all_goals
    go_enter Try.func19, Try.ntmps19
    go_wp2
  all_goals
    go_ret
    exact ⟨ret_int (by
      unfold bnd clm
      repeat (first | rw [if_pos (by omega)] | rw [if_neg (by omega)])
      try (first | rfl | (simp; done) | (simp [wrap64]; done) | (simp only [wrap64]; omega))), rfl⟩

/-! ### Measure -/
def ms (t : Int) : List Int → List Bool → Int → Int → Int
  | [], _, _, parts => parts
  | p :: l, seen, n, parts =>
    if p < 0 ∨ t ≤ p ∨ seen.getD p.toNat false = true then ms t l seen n parts
    else if n + 1 = t then ms t l (List.replicate 8 false) 0 (parts + 1)
    else ms t l (seen.set p.toNat true) (n + 1) parts
def noneSeen : List Bool := List.replicate 8 false
def msr (t : Int) (l : List Int) : Int := if t < 1 ∨ 8 < t then 0 else ms t l noneSeen 0 0
def cellsB (l : List Bool) : Array Value := (l.map Value.bool).toArray
theorem ms_step (t : Int) (l : List Int) (k : Nat) (hk : k < l.length) (seen : List Bool) (n parts : Int) :
    ms t (l.drop k) seen n parts =
      if l.getD k 0 < 0 ∨ t ≤ l.getD k 0 ∨ seen.getD (l.getD k 0).toNat false = true then ms t (l.drop (k + 1)) seen n parts
      else if n + 1 = t then ms t (l.drop (k + 1)) noneSeen 0 (parts + 1)
      else ms t (l.drop (k + 1)) (seen.set (l.getD k 0).toNat true) (n + 1) parts := by
  rw [List.drop_eq_getElem_cons hk, ms]
  have e : l.getD k 0 = l[k] := by simp [List.getD, List.getElem?_eq_getElem hk]
  rw [e]
  rfl
theorem cellsB_at (l : List Bool) (i : Nat) (h : i < l.length) : (cellsB l)[i]? = some (.bool (l.getD i false)) := by
  unfold cellsB
  simp [List.getD, List.getElem?_eq_getElem h]
theorem bk_set (w : World) (g : Nat) (t : TypeId) (l : List Bool) (i : Nat) (b : Bool) (h : Bk w g t (cellsB l)) : Bk (w.setCell ⟨g, i, none⟩ (.bool b)) g t (cellsB (l.set i b)) := by
  have := h.set_ i (.bool b)
  unfold cellsB at *
  rw [List.map_set]
  simpa using this
theorem clr8 (l : List Bool) (h : l.length = 8) : ((((((((l.set 0 false).set 1 false).set 2 false).set 3 false).set 4 false).set 5 false).set 6 false).set 7 false) = noneSeen := by
  match l, h with
  | [a, b, c, d, e, f, g, i], _ => rfl
theorem cells8 (w : World) (g : Nat) (t : TypeId) (l : List Bool) (h : Bk w g t (cellsB l)) (hl : l.length = 8) :
    ∃ c0 c1 c2 c3 c4 c5 c6 c7 : Value, w.cell? ⟨g, 0, none⟩ = some c0 ∧ w.cell? ⟨g, 1, none⟩ = some c1 ∧ w.cell? ⟨g, 2, none⟩ = some c2 ∧ w.cell? ⟨g, 3, none⟩ = some c3 ∧ w.cell? ⟨g, 4, none⟩ = some c4 ∧ w.cell? ⟨g, 5, none⟩ = some c5 ∧ w.cell? ⟨g, 6, none⟩ = some c6 ∧ w.cell? ⟨g, 7, none⟩ = some c7 := by
  have k : ∀ j, j < 8 → ∃ v, w.cell? ⟨g, j, none⟩ = some v := fun j hj => ⟨_, by rw [h.cell j, cellsB_at _ _ (by omega)]⟩
  obtain ⟨c0, h0⟩ := k 0 (by omega)
  obtain ⟨c1, h1⟩ := k 1 (by omega)
  obtain ⟨c2, h2⟩ := k 2 (by omega)
  obtain ⟨c3, h3⟩ := k 3 (by omega)
  obtain ⟨c4, h4⟩ := k 4 (by omega)
  obtain ⟨c5, h5⟩ := k 5 (by omega)
  obtain ⟨c6, h6⟩ := k 6 (by omega)
  obtain ⟨c7, h7⟩ := k 7 (by omega)
  exact ⟨c0, c1, c2, c3, c4, c5, c6, c7, h0, h1, h2, h3, h4, h5, h6, h7⟩
set_option maxHeartbeats 2000000 in
theorem measure_any (w : World) (A : Option Addr) (n c : Nat) (l : List Int) (t : Int) (h : IsI .i64 w A n l) (hn : n ≤ 1000000) :
    Calls Try.prog 16 #[.slice A n c, .int .i64 t] w fun e w' => e = .returned (.int .i64 (msr t l)) ∧ Below w.heap.size w w' := by
  by_cases h1 : t < 1
  · go_enter Try.func16, Try.ntmps16
    go_wp2
    go_ret
    exact ⟨ret_int (by unfold msr; rw [if_pos (by omega)]), Below.refl _ _⟩
  by_cases h2 : 8 < t
  · have h3 : decide (t < 1) = false := by simpa using h1
    go_enter Try.func16, Try.ntmps16
    go_wp2
    go_ret
    exact ⟨ret_int (by unfold msr; rw [if_pos (by omega)]), Below.refl _ _⟩
  have hmr : msr t l = ms t (l.drop 0) noneSeen 0 0 := by unfold msr; rw [if_neg (by omega)]; rfl
  have HM := hide hmr
  have hl := h.len
  have HL := hide hl
  have H := hide h
  clear hmr hl h
  go_enter Try.func16, Try.ntmps16
  go_wp2
  go_loopg [5, 7, 19] n (fun m p lf i wr => ∃ (k : Nat) (seen : List Bool) (x parts : Int), m + k = n ∧ i = .int .i64 k ∧ p = .int .i64 parts ∧ lf = .int .i64 (t - x) ∧ 0 ≤ x ∧ x < t ∧ 0 ≤ parts ∧ parts ≤ k ∧ seen.length = 8 ∧
    Bk wr w.heap.size 52 (cellsB seen) ∧ Below w.heap.size w wr ∧ ms t (l.drop k) seen x parts = ms t (l.drop 0) noneSeen 0 0)
  case atStart => exact ⟨0, noneSeen, 0, 0, by omega, rfl, rfl, by simp, by omega, by omega, by omega, by omega, rfl, Bk.new _ _ _, (Below.refl _ _).alloc (Nat.le_refl _) _, rfl⟩
  case round =>
    obtain ⟨k, seen, x, parts, hk, rfl, rfl, rfl, hx0, hx1, hp0, hp1, hs8, hB, hbel, hms⟩ := hrel
    have HMS := hide hms
    have HB := hide hB
    have hsz := hbel.size
    clear hms
    by_cases hlt : k < n
    · obtain ⟨ad, rfl, hadb, c1⟩ := (H.out.below hbel).at_ hlt
      have hst := hide (ms_step t l k (by rw [HL.out]; omega) seen x parts)
      generalize hpx : l.getD k 0 = p at c1 hst
      have HPX := hide hpx
      clear hpx
      by_cases q1 : p < 0
      · clear hB
        go_wp2
        go_roundg (gk - 1)
        case rel => exact ⟨k + 1, seen, x, parts, by omega, by go_num, rfl, rfl, hx0, hx1, hp0, by omega, hs8, HB.out, hbel, by rw [← HMS.out, hst.out, if_pos (by omega)]⟩
        case measure => omega
      by_cases q2 : t ≤ p
      · have q3 : decide (p < 0) = false := by simpa using q1
        clear hB
        go_wp2
        go_roundg (gk - 1)
        case rel => exact ⟨k + 1, seen, x, parts, by omega, by go_num, rfl, rfl, hx0, hx1, hp0, by omega, hs8, HB.out, hbel, by rw [← HMS.out, hst.out, if_pos (by omega)]⟩
        case measure => omega
      have q3 : decide (p < 0) = false := by simpa using q1
      have q4 : decide (t ≤ p) = false := by simpa using q2
      have q5 : (p.toNat : Int) = p := Int.toNat_of_nonneg (by omega)
      have hcell := hB.cell p.toNat
      rw [cellsB_at _ _ (by omega)] at hcell
      have hfro := hB.frozen p.toNat
      have hpl : p.toNat < 8 := by omega
      have hS8 := hide hs8
      clear hB q5 hs8
      cases hsn : seen.getD p.toNat false with
      | true =>
        rw [hsn] at hcell
        have HSN := hide hsn
        clear hsn
        go_wp2
        go_roundg (gk - 1)
        case rel => exact ⟨k + 1, seen, x, parts, by omega, by go_num, rfl, rfl, hx0, hx1, hp0, by omega, hS8.out, HB.out, hbel, by rw [← HMS.out, hst.out, if_pos (.inr (.inr HSN.out))]⟩
        case measure => omega
      | false =>
        rw [hsn] at hcell
        have HSN := hide hsn
        clear hsn
        by_cases q6 : x + 1 = t
        · have q7 : ((t - x - 1 : Int) == 0) = true := by simp; omega
          have HQ := hide q6
          clear q6
          have B1 := bk_set _ _ _ _ p.toNat true HB.out
          obtain ⟨d0, d1, d2, d3, d4, d5, d6, d7, e0, e1, e2, e3, e4, e5, e6, e7⟩ := cells8 _ _ _ _ B1 (by simpa using hS8.out)
          have g0 := B1.frozen 0
          have g1 := B1.frozen 1
          have g2 := B1.frozen 2
          have g3 := B1.frozen 3
          have g4 := B1.frozen 4
          have g5 := B1.frozen 5
          have g6 := B1.frozen 6
          have g7 := B1.frozen 7
          have HB1 := hide B1
          clear B1
          go_wp2
          have B9 := bk_set _ _ _ _ 7 false (bk_set _ _ _ _ 6 false (bk_set _ _ _ _ 5 false (bk_set _ _ _ _ 4 false (bk_set _ _ _ _ 3 false (bk_set _ _ _ _ 2 false (bk_set _ _ _ _ 1 false (bk_set _ _ _ _ 0 false HB1.out)))))))
          rw [clr8 _ (by simpa using hS8.out)] at B9
          have hb9 : Below w.heap.size w wr := hbel
          go_roundg (gk - 1)
          case rel => exact ⟨k + 1, noneSeen, 0, parts + 1, by omega, by go_num, rfl, by simp, by omega, by omega, by omega, by omega, rfl, B9,
            ((((((((hb9.setCell (Nat.le_refl _) _).setCell (Nat.le_refl _) _).setCell (Nat.le_refl _) _).setCell (Nat.le_refl _) _).setCell (Nat.le_refl _) _).setCell (Nat.le_refl _) _).setCell (Nat.le_refl _) _).setCell (Nat.le_refl _) _).setCell (Nat.le_refl _) _,
            by rw [← HMS.out, hst.out, if_neg (by rw [HSN.out]; simp; omega), if_pos HQ.out]⟩
          case measure => omega
        · have q7 : ((t - x - 1 : Int) == 0) = false := by simp; omega
          have HQ := hide q6
          clear q6
          go_wp2
          go_roundg (gk - 1)
          case rel => exact ⟨k + 1, seen.set p.toNat true, x + 1, parts, by omega, by go_num, rfl, by simp only [Value.int.injEq, true_and]; omega, by omega, by have := HQ.out; omega, hp0, by omega, by simpa using hS8.out, bk_set _ _ _ _ _ _ HB.out, hbel.setCell (Nat.le_refl _) _,
            by rw [← HMS.out, hst.out, if_neg (by rw [HSN.out]; simp; omega), if_neg HQ.out]⟩
          case measure => omega
    · have hfin := hide (show msr t l = parts by rw [HM.out, ← HMS.out, List.drop_of_length_le (by rw [HL.out]; omega), ms])
      clear hB
      go_wp2
      go_ret
      exact ⟨ret_int hfin.out.symm, hbel⟩
set_option maxHeartbeats 2000000 in
theorem rmeasure_any (w : World) (A : Option Addr) (n c : Nat) (l : List Int) (t : Int) (h : IsI .i64 w A n l) (hn : n ≤ 1000000) :
    Calls Try.prog 17 #[.slice A n c, .int .i64 t] w fun e w' => e = .returned (.int .i64 (msr t l)) ∧ Below w.heap.size w w' := by
  by_cases h1 : t < 1
  · go_enter Try.func17, Try.ntmps17
    go_wp2
    go_ret
    exact ⟨ret_int (by unfold msr; rw [if_pos (by omega)]), Below.refl _ _⟩
  by_cases h2 : 8 < t
  · have h3 : decide (t < 1) = false := by simpa using h1
    go_enter Try.func17, Try.ntmps17
    go_wp2
    go_ret
    exact ⟨ret_int (by unfold msr; rw [if_pos (by omega)]), Below.refl _ _⟩
  have hmr : msr t l = ms t (l.drop 0) noneSeen 0 0 := by unfold msr; rw [if_neg (by omega)]; rfl
  have HM := hide hmr
  have hl := h.len
  have HL := hide hl
  have H := hide h
  clear hmr hl h
  go_enter Try.func17, Try.ntmps17
  go_wp2
  go_loopg [6, 7, 8] n (fun m lf p i wr => ∃ (k : Nat) (seen : List Bool) (x parts : Int), m + k = n ∧ i = .int .i64 k ∧ p = .int .i64 parts ∧ lf = .int .i64 x ∧ 0 ≤ x ∧ x < t ∧ 0 ≤ parts ∧ parts ≤ k ∧ seen.length = 8 ∧
    Bk wr w.heap.size 52 (cellsB seen) ∧ Below w.heap.size w wr ∧ ms t (l.drop k) seen x parts = ms t (l.drop 0) noneSeen 0 0)
  case atStart => exact ⟨0, noneSeen, 0, 0, by omega, rfl, rfl, rfl, by omega, by omega, by omega, by omega, rfl, Bk.new _ _ _, (Below.refl _ _).alloc (Nat.le_refl _) _, rfl⟩
  case round =>
    obtain ⟨k, seen, x, parts, hk, rfl, rfl, rfl, hx0, hx1, hp0, hp1, hs8, hB, hbel, hms⟩ := hrel
    have HMS := hide hms
    have HB := hide hB
    have hsz := hbel.size
    clear hms
    by_cases hlt : k < n
    · obtain ⟨ad, rfl, hadb, c1⟩ := (H.out.below hbel).at_ hlt
      have hst := hide (ms_step t l k (by rw [HL.out]; omega) seen x parts)
      generalize hpx : l.getD k 0 = p at c1 hst
      have HPX := hide hpx
      clear hpx
      by_cases q1 : p < 0
      · clear hB
        go_wp2
        go_roundg (gk - 1)
        case rel => exact ⟨k + 1, seen, x, parts, by omega, by go_num, rfl, rfl, hx0, hx1, hp0, by omega, hs8, HB.out, hbel, by rw [← HMS.out, hst.out, if_pos (by omega)]⟩
        case measure => omega
      by_cases q2 : t ≤ p
      · have q3 : decide (p < 0) = false := by simpa using q1
        clear hB
        go_wp2
        go_roundg (gk - 1)
        case rel => exact ⟨k + 1, seen, x, parts, by omega, by go_num, rfl, rfl, hx0, hx1, hp0, by omega, hs8, HB.out, hbel, by rw [← HMS.out, hst.out, if_pos (by omega)]⟩
        case measure => omega
      have q3 : decide (p < 0) = false := by simpa using q1
      have q4 : decide (t ≤ p) = false := by simpa using q2
      have q5 : (p.toNat : Int) = p := Int.toNat_of_nonneg (by omega)
      have hcell := hB.cell p.toNat
      rw [cellsB_at _ _ (by omega)] at hcell
      have hfro := hB.frozen p.toNat
      have hpl : p.toNat < 8 := by omega
      have hS8 := hide hs8
      clear hB q5 hs8
      cases hsn : seen.getD p.toNat false with
      | true =>
        rw [hsn] at hcell
        have HSN := hide hsn
        clear hsn
        go_wp2
        go_roundg (gk - 1)
        case rel => exact ⟨k + 1, seen, x, parts, by omega, by go_num, rfl, rfl, hx0, hx1, hp0, by omega, hS8.out, HB.out, hbel, by rw [← HMS.out, hst.out, if_pos (.inr (.inr HSN.out))]⟩
        case measure => omega
      | false =>
        rw [hsn] at hcell
        have HSN := hide hsn
        clear hsn
        by_cases q6 : x + 1 = t
        · have q7 : ((x + 1 : Int) == t) = true := by simp; omega
          have HQ := hide q6
          clear q6
          have B1 := bk_set _ _ _ _ p.toNat true HB.out
          obtain ⟨d0, d1, d2, d3, d4, d5, d6, d7, e0, e1, e2, e3, e4, e5, e6, e7⟩ := cells8 _ _ _ _ B1 (by simpa using hS8.out)
          have g0 := B1.frozen 0
          have g1 := B1.frozen 1
          have g2 := B1.frozen 2
          have g3 := B1.frozen 3
          have g4 := B1.frozen 4
          have g5 := B1.frozen 5
          have g6 := B1.frozen 6
          have g7 := B1.frozen 7
          have HB1 := hide B1
          clear B1
          go_wp2
          have B9 := bk_set _ _ _ _ 7 false (bk_set _ _ _ _ 6 false (bk_set _ _ _ _ 5 false (bk_set _ _ _ _ 4 false (bk_set _ _ _ _ 3 false (bk_set _ _ _ _ 2 false (bk_set _ _ _ _ 1 false (bk_set _ _ _ _ 0 false HB1.out)))))))
          rw [clr8 _ (by simpa using hS8.out)] at B9
          have hb9 : Below w.heap.size w wr := hbel
          go_roundg (gk - 1)
          case rel => exact ⟨k + 1, noneSeen, 0, parts + 1, by omega, by go_num, rfl, rfl, by omega, by omega, by omega, by omega, rfl, B9,
            ((((((((hb9.setCell (Nat.le_refl _) _).setCell (Nat.le_refl _) _).setCell (Nat.le_refl _) _).setCell (Nat.le_refl _) _).setCell (Nat.le_refl _) _).setCell (Nat.le_refl _) _).setCell (Nat.le_refl _) _).setCell (Nat.le_refl _) _).setCell (Nat.le_refl _) _,
            by rw [← HMS.out, hst.out, if_neg (by rw [HSN.out]; simp; omega), if_pos HQ.out]⟩
          case measure => omega
        · have q7 : ((x + 1 : Int) == t) = false := by simp; omega
          have HQ := hide q6
          clear q6
          go_wp2
          go_roundg (gk - 1)
          case rel => exact ⟨k + 1, seen.set p.toNat true, x + 1, parts, by omega, by go_num, rfl, rfl, by omega, by have := HQ.out; omega, hp0, by omega, by simpa using hS8.out, bk_set _ _ _ _ _ _ HB.out, hbel.setCell (Nat.le_refl _) _,
            by rw [← HMS.out, hst.out, if_neg (by rw [HSN.out]; simp; omega), if_neg HQ.out]⟩
          case measure => omega
    · have hfin := hide (show msr t l = parts by rw [HM.out, ← HMS.out, List.drop_of_length_le (by rw [HL.out]; omega), ms])
      clear hB
      go_wp2
      go_ret
      exact ⟨ret_int hfin.out.symm, hbel⟩
theorem awake_any (w : World) :
    Calls Try.prog 14 #[] w fun e w' => e = .returned (.bool true) ∧ Below w.heap.size w w' := by
  have t1 : (msr 2 [0, 1, 1, 0, 0] == 2) = true := by decide
  have t2 : (bnd 1 1 == 480) = true := by unfold bnd clm wrap64; decide
  have hI : IsI .i64 (w.alloc (.cells #[.int .i64 0, .int .i64 1, .int .i64 1, .int .i64 0, .int .i64 0] 3)) (some ⟨w.heap.size, 0, none⟩) 5 [0, 1, 1, 0, 0] :=
    ⟨rfl, fun _ => ⟨_, rfl, by simp, cells_new w _ _⟩⟩
  have HI := hide hI
  clear hI
  go_enter Try.func14, Try.ntmps14
  go_wp2_with (first | (go_at_call 16; refine (measure_any _ _ _ _ _ _ HI.out (by omega)).mono ?_; rintro e w1 ⟨rfl, hb1⟩) | (go_at_call 18; refine (bound_any _ _ _).mono ?_; rintro e w' ⟨rfl, rfl⟩))
  go_ret
  exact ⟨rfl, ((Below.refl _ _).alloc (Nat.le_refl _) _).trans (hb1.mono (by simp))⟩
end Go.Proofs.Ytidncklgoaofpaa
