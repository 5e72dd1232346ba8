/- One machine after another on a ring: in the plain. What each of them does alone. No program in sight. -/
import Derived.Test.YtepngbdjobckbaaYI
namespace Go.Proofs.Ytepngbdjobckbaa
open Go.RowKit
set_option linter.unusedVariables false
set_option linter.unusedSimpArgs false

/-- One machine makes n accesses. -/
def stq (s : St) (i : Nat) : Nat → St
  | 0 => s
  | n + 1 => stp (stq s i n) i
theorem stq_len (s : St) (i : Nat) : ∀ n, (stq s i n).ms.length = s.ms.length := by
  intro n
  induction n with
  | zero => rfl
  | succ n ih => rw [stq, stp_len, ih]
theorem stq_tr (s : St) (i : Nat) : ∀ n, (stq s i n).tr.length ≤ s.tr.length + n := by
  intro n
  induction n with
  | zero => exact Nat.le_refl _
  | succ n ih => exact Nat.le_trans (stp_tr _ _) (by omega)
/-- Machine i, which has begun in s, has made K accesses: it is x now, the words are u. -/
structure Runs (s : St) (i K : Nat) (x : Mc) (u : List Int) : Prop where
  l : (stq s i K).l = s.l
  ms : (stq s i K).ms = s.ms.set i x
  ws : (stq s i K).ws = u
  go : ∀ j, j < K → ∃ y, (stq s i j).ms[i]? = some y ∧ y.at_ ≠ 0
  lt : i < s.ms.length
section
variable {s : St} {i K : Nat} {x x2 : Mc} {u u2 : List Int}
theorem Runs.zero (hx : s.ms[i]? = some x) : Runs s i 0 x s.ws := by
  obtain ⟨h, rfl⟩ := List.getElem?_eq_some_iff.1 hx
  exact ⟨rfl, (List.set_getElem_self h).symm, rfl, fun j h => absurd h (Nat.not_lt_zero _), h⟩
theorem Runs.cur (R : Runs s i K x u) : (stq s i K).ms[i]? = some x := by
  rw [R.ms]
  exact List.getElem?_set_self R.lt
theorem Runs.next (R : Runs s i K x u) (h0 : x.at_ ≠ 0) (hl : (stp (stq s i K) i).l = (stq s i K).l) (hm : (stp (stq s i K) i).ms = (stq s i K).ms.set i x2) (hw : (stp (stq s i K) i).ws = u2) : Runs s i (K + 1) x2 u2 := by
  refine ⟨by rw [stq, hl]; exact R.l, by rw [stq, hm, R.ms, List.set_set], by rw [stq, hw], fun j hj => ?_, R.lt⟩
  by_cases h : j < K
  · exact R.go j h
  · obtain rfl : j = K := by omega
    exact ⟨_, R.cur, h0⟩
variable {k o n : Int} {p : Nat}
theorem Runs.ld (R : Runs s i K x u) (h0 : x.at_ ≠ 0) (ha : mnext s.l x = ⟨k, (p : Int), o, n⟩) (hk : k = 1 ∨ k = 5) (hp : p < u.length) {v : Int} (hv : u.getD p 0 = v) (he : mres s.l x v false = x2) : Runs s i (K + 1) x2 u := by
  have h := stp_ld R.cur h0 (by rw [R.l]; exact ha) hk (by rw [R.ws]; exact hp)
  refine R.next h0 (by rw [h]) ?_ (by rw [h]; exact R.ws)
  rw [h]
  show (stq s i K).ms.set i (mres (stq s i K).l x ((stq s i K).ws.getD p 0) false) = _
  rw [R.l, R.ws, hv, he]
theorem Runs.yes (R : Runs s i K x u) (h0 : x.at_ ≠ 0) (ha : mnext s.l x = ⟨3, (p : Int), o, n⟩) (hp : p < u.length) (hw : u.getD p 0 = o) (he : mres s.l x o true = x2) : Runs s i (K + 1) x2 (u.set p n) := by
  have h := stp_yes R.cur h0 (by rw [R.l]; exact ha) (by rw [R.ws]; exact hp) (by rw [R.ws]; exact hw)
  refine R.next h0 (by rw [h]) ?_ (by rw [h]; show (stq s i K).ws.set p n = _; rw [R.ws])
  rw [h]
  show (stq s i K).ms.set i (mres (stq s i K).l x o true) = _
  rw [R.l, he]
theorem Runs.st (R : Runs s i K x u) (h0 : x.at_ ≠ 0) (ha : mnext s.l x = ⟨k, (p : Int), o, n⟩) (hk : k = 2 ∨ k = 6) (hp : p < u.length) (he : mres s.l x 0 false = x2) : Runs s i (K + 1) x2 (u.set p n) := by
  have h := stp_st R.cur h0 (by rw [R.l]; exact ha) hk (by rw [R.ws]; exact hp)
  refine R.next h0 (by rw [h]) ?_ (by rw [h]; show (stq s i K).ws.set p n = _; rw [R.ws])
  rw [h]
  show (stq s i K).ms.set i (mres (stq s i K).l x 0 false) = _
  rw [R.l, he]
end
/-- Where the slot of the j-th value lies. -/
def slQ (c s0 : Int) (j : Nat) : Nat := (5 + 2 * sl (nx s0 j) (sz c)).toNat
theorem sz4 {c : Int} (h1 : 1 ≤ c) (h4 : c ≤ 4) : (sz c = 2 ∧ c ≤ 2) ∨ sz c = 4 := by
  have h : c = 1 ∨ c = 2 ∨ c = 3 ∨ c = 4 := by omega
  rcases h with rfl | rfl | rfl | rfl
  · exact Or.inl ⟨by decide +kernel, by omega⟩
  · exact Or.inl ⟨by decide +kernel, by omega⟩
  · exact Or.inr (by decide +kernel)
  · exact Or.inr (by decide +kernel)
section
variable {c s0 : Int} (h1 : 1 ≤ c) (h4 : c ≤ 4)
include h1 h4
theorem slQ_bd (j : Nat) : 5 ≤ slQ c s0 j ∧ ((slQ c s0 j : Nat) : Int) + 1 < 5 + 2 * sz c := by
  unfold slQ sl nx
  rcases sz4 h1 h4 with ⟨h, -⟩ | h <;> rw [h] <;> simp <;> omega
theorem slQ_eq {l : List Int} (hc : l.getD 0 0 = c) (j : Nat) : slN l 0 (nx s0 j) = (slQ c s0 j : Nat) := by
  unfold slN slQ sl nx
  rw [hc, show tlN l 0 = 0 from rfl]
  rcases sz4 h1 h4 with ⟨h, -⟩ | h <;> rw [h] <;> simp <;> omega
theorem slQ_ne {j k : Nat} (hlt : j < k) (hk : (k : Int) < j + sz c) : slQ c s0 j ≠ slQ c s0 k := by
  unfold slQ sl nx
  rcases sz4 h1 h4 with ⟨h, -⟩ | h <;> rw [h] at hk ⊢ <;> simp <;> omega
theorem slQ_odd (j k : Nat) : slQ c s0 j ≠ slQ c s0 k + 1 := by
  unfold slQ sl nx
  rcases sz4 h1 h4 with ⟨h, -⟩ | h <;> rw [h] <;> simp <;> omega
theorem slQ_wrap {j k : Nat} (hk : (k : Int) = j + sz c) : slQ c s0 k = slQ c s0 j := by
  unfold slQ sl nx
  rcases sz4 h1 h4 with ⟨h, -⟩ | h <;> rw [h] at hk ⊢ <;> simp <;> omega
end
/-- The words of a ring on which nobody is under way: a values went in, b came out; z: it is closed. -/
structure Sq (c s0 : Int) (V : Nat → Int) (u : List Int) (a b : Nat) (z : Bool) : Prop where
  c1 : 1 ≤ c
  c4 : c ≤ 4
  wl : 5 + 2 * sz c ≤ u.length
  w0 : u.getD 0 0 = pk (nx s0 a) z
  w1 : u.getD 1 0 = nx s0 b
  ba : b ≤ a
  ac : (a : Int) ≤ b + c
  sm : a ≤ 1000
  sq : ∀ j : Nat, b ≤ j → (j : Int) < b + sz c → u.getD (slQ c s0 j) 0 = if j < a then nx s0 (j + 1 : Nat) else nx s0 j
  vs : ∀ j : Nat, b ≤ j → j < a → u.getD (slQ c s0 j + 1) 0 = V j
section
variable {c s0 : Int} {V : Nat → Int} {s : St} {a b i : Nat} {z : Bool} {th : Nat} {ix kd v tt hh ok ov : Int}
theorem Sq.szc {u : List Int} (H : Sq c s0 V u a b z) : c ≤ sz c ∧ 2 ≤ sz c := by
  have h := sz4 H.c1 H.c4
  have h2 := H.c4
  omega
theorem Sq.len {u : List Int} (H : Sq c s0 V u a b z) : 9 ≤ u.length := by
  have h := H.szc
  have h2 := H.wl
  omega
theorem Sq.lt {u : List Int} (H : Sq c s0 V u a b z) (j : Nat) : slQ c s0 j + 1 < u.length := by
  have h := slQ_bd (s0 := s0) H.c1 H.c4 j
  have h2 := H.wl
  omega
theorem nx1 (s0 : Int) (a : Nat) : nx (nx s0 a) 1 = nx s0 (a + 1 : Nat) := nx_nx s0 a 1
/-- What is pushed lies among the words. -/
theorem Sq.mem {u : List Int} (H : Sq c s0 V u a b z) {j : Nat} (h1 : b ≤ j) (h2 : j < a) : ∃ p : Nat, p < u.length ∧ u.getD p 0 = V j := ⟨_, H.lt j, H.vs j h1 h2⟩
theorem push_run (H : Sq c s0 V s.ws a b false) (hc : s.l.getD 0 0 = c) (hlt : (a : Int) < b + c) (ha : a < 1000) (hx : s.ms[i]? = some ⟨3, 1, 0, th, ix, kd, v, tt, hh, ok, ov⟩) (hV : V a = v) :
    ∃ x' u', Runs s i 6 x' u' ∧ x'.at_ = 0 ∧ x'.what = 3 ∧ x'.ok = 1 ∧ x'.ov = 0 ∧ u' = (((s.ws.set 0 (pk (nx s0 (a + 1 : Nat)) false)).set (slQ c s0 a + 1) v).set (slQ c s0 a) (nx s0 (a + 1 : Nat))) ∧ Sq c s0 V u' (a + 1) b false := by
  have hl := H.len
  have hls := H.lt a
  have hsz := H.szc
  have hba := H.ba
  have hsl := slQ_eq (s0 := s0) H.c1 H.c4 hc a
  have hrt := rest_nx (s0 := s0) (a := a) (b := b) (by omega) (by omega)
  have R1 : Runs s i 1 ⟨3, 2, 0, th, ix, kd, v, pk (nx s0 a) false, hh, ok, ov⟩ s.ws := (Runs.zero hx).ld (by simp) (p := 0) (k := 1) (o := 0) (n := 0) rfl (Or.inl rfl) (by omega) H.w0 (by simp [mres, mpush, pk_cl, mto])
  have R2 : Runs s i 2 ⟨3, 4, 0, th, ix, kd, v, pk (nx s0 a) false, hh, ok, ov⟩ s.ws := R1.ld (by simp) (p := 1) (k := 1) (o := 0) (n := 0) rfl (Or.inl rfl) (by omega) H.w1 (by
    simp only [mres, mpush, pk_half, hc]
    rw [if_neg (by simp), if_neg (by omega), if_neg (by omega)]; rfl)
  have hq := H.sq a hba (by omega)
  rw [if_neg (Nat.lt_irrefl a)] at hq
  have R3 : Runs s i 3 ⟨3, 5, 0, th, ix, kd, v, pk (nx s0 a) false, hh, ok, ov⟩ s.ws := R2.ld (by simp) (p := slQ c s0 a) (k := 1) (o := 0) (n := 0) (by show (⟨1, slN s.l 0 (pk (nx s0 a) false / 2), 0, 0⟩ : Acc) = _; rw [pk_half, hsl]) (Or.inl rfl) (by omega) hq (by
    simp only [mres, mpush, pk_half]
    simp [mto])
  have R4 : Runs s i 4 ⟨3, 6, 0, th, ix, kd, v, pk (nx s0 a) false, hh, ok, ov⟩ (s.ws.set 0 (pk (nx s0 (a + 1 : Nat)) false)) := R3.yes (by simp) (p := 0) (o := pk (nx s0 a) false) (n := pk (nx s0 (a + 1 : Nat)) false) (by show (⟨3, tlN s.l 0, pk (nx s0 a) false, pk (nx (pk (nx s0 a) false / 2) 1) false⟩ : Acc) = _; rw [pk_half, nx1]; rfl) (by omega) H.w0 rfl
  have R5 : Runs s i 5 ⟨3, 7, 0, th, ix, kd, v, pk (nx s0 a) false, hh, ok, ov⟩ ((s.ws.set 0 (pk (nx s0 (a + 1 : Nat)) false)).set (slQ c s0 a + 1) v) := R4.st (by simp) (p := slQ c s0 a + 1) (k := 6) (o := 0) (n := v) (by show (⟨6, slN s.l 0 (pk (nx s0 a) false / 2) + 1, 0, v⟩ : Acc) = _; rw [pk_half, hsl]; rfl) (Or.inr rfl) (by rw [List.length_set]; omega) rfl
  have R6 : Runs s i 6 ⟨3, 0, 0, th, ix, kd, v, pk (nx s0 a) false, hh, 1, 0⟩ (((s.ws.set 0 (pk (nx s0 (a + 1 : Nat)) false)).set (slQ c s0 a + 1) v).set (slQ c s0 a) (nx s0 (a + 1 : Nat))) := R5.st (by simp) (p := slQ c s0 a) (k := 2) (o := 0) (n := nx s0 (a + 1 : Nat)) (by show (⟨2, slN s.l 0 (pk (nx s0 a) false / 2), 0, nx (pk (nx s0 a) false / 2) 1⟩ : Acc) = _; rw [pk_half, hsl, nx1]) (Or.inl rfl) (by rw [List.length_set, List.length_set]; omega) rfl
  refine ⟨_, _, R6, rfl, rfl, rfl, rfl, rfl, ⟨H.c1, H.c4, by simp only [List.length_set]; exact H.wl, ?_, ?_, by omega, by omega, by omega, fun j hj hj2 => ?_, fun j hj hj2 => ?_⟩⟩
  · have h5 := (slQ_bd (s0 := s0) H.c1 H.c4 a).1
    rw [getD_set_other (by omega), getD_set_other (by omega)]
    exact getD_set_self (by omega) _
  · have h5 := (slQ_bd (s0 := s0) H.c1 H.c4 a).1
    rw [getD_set_other (by omega), getD_set_other (by omega), getD_set_other (by omega)]
    exact H.w1
  · have h5 := (slQ_bd (s0 := s0) H.c1 H.c4 j).1
    by_cases e : j = a
    · subst e
      rw [if_pos (Nat.lt_succ_self j)]
      exact getD_set_self (by simp only [List.length_set]; omega) _
    · have hne : slQ c s0 a ≠ slQ c s0 j := by
        by_cases h : a < j
        · exact slQ_ne H.c1 H.c4 h (by omega)
        · exact (slQ_ne H.c1 H.c4 (j := j) (k := a) (by omega) (by omega)).symm
      rw [getD_set_other hne, getD_set_other (slQ_odd H.c1 H.c4 j a).symm, getD_set_other (by omega), H.sq j hj hj2]
      by_cases h : j < a
      · rw [if_pos h, if_pos (by omega)]
      · rw [if_neg h, if_neg (by omega)]
  · have h5 := (slQ_bd (s0 := s0) H.c1 H.c4 j).1
    rw [getD_set_other (slQ_odd H.c1 H.c4 a j)]
    by_cases e : j = a
    · subst e
      rw [hV]
      exact getD_set_self (by simp only [List.length_set]; omega) _
    · have hne : slQ c s0 a ≠ slQ c s0 j := (slQ_ne H.c1 H.c4 (j := j) (k := a) (by omega) (by omega)).symm
      rw [getD_set_other (by omega), getD_set_other (by omega), H.vs j hj (by omega)]
theorem push_full (H : Sq c s0 V s.ws a b false) (hc : s.l.getD 0 0 = c) (hlt : (a : Int) = b + c) (hx : s.ms[i]? = some ⟨3, 1, 0, th, ix, kd, v, tt, hh, ok, ov⟩) :
    ∃ x' , Runs s i 3 x' s.ws ∧ x'.at_ = 0 ∧ x'.what = 3 ∧ x'.ok = 2 ∧ x'.ov = 0 := by
  have hl := H.len
  have hba := H.ba
  have hsm := H.sm
  have hc1 := H.c1
  have hrt := rest_nx (s0 := s0) (a := a) (b := b) (by omega) (by omega)
  have R1 : Runs s i 1 ⟨3, 2, 0, th, ix, kd, v, pk (nx s0 a) false, hh, ok, ov⟩ s.ws := (Runs.zero hx).ld (by simp) (p := 0) (k := 1) (o := 0) (n := 0) rfl (Or.inl rfl) (by omega) H.w0 (by simp [mres, mpush, pk_cl, mto])
  have R2 : Runs s i 2 ⟨3, 3, 0, th, ix, kd, v, pk (nx s0 a) false, hh, ok, ov⟩ s.ws := R1.ld (by simp) (p := 1) (k := 1) (o := 0) (n := 0) rfl (Or.inl rfl) (by omega) H.w1 (by
    simp only [mres, mpush, pk_half, hc]
    rw [if_neg (by simp), if_pos (by omega)]; rfl)
  exact ⟨_, R2.ld (by simp) (p := 0) (k := 1) (o := 0) (n := 0) rfl (Or.inl rfl) (by omega) H.w0 (x2 := ⟨3, 0, 0, th, ix, kd, v, pk (nx s0 a) false, hh, 2, 0⟩) (by simp [mres, mpush, mend]), rfl, rfl, rfl, rfl⟩
theorem push_shut (H : Sq c s0 V s.ws a b true) (hc : s.l.getD 0 0 = c) (hx : s.ms[i]? = some ⟨3, 1, 0, th, ix, kd, v, tt, hh, ok, ov⟩) :
    ∃ x' , Runs s i 1 x' s.ws ∧ x'.at_ = 0 ∧ x'.what = 3 ∧ x'.ok = 4 ∧ x'.ov = 0 := by
  have hl := H.len
  exact ⟨⟨3, 0, 0, th, ix, kd, v, pk (nx s0 a) true, hh, 4, 0⟩, (Runs.zero hx).ld (by simp) (p := 0) (k := 1) (o := 0) (n := 0) rfl (Or.inl rfl) (by omega) H.w0 (by simp [mres, mpush, pk_cl, mend]), rfl, rfl, rfl, rfl⟩
theorem shut_run (H : Sq c s0 V s.ws a b false) (hc : s.l.getD 0 0 = c) (hx : s.ms[i]? = some ⟨5, 1, 0, th, ix, kd, v, tt, hh, ok, ov⟩) :
    ∃ x' u', Runs s i 2 x' u' ∧ x'.at_ = 0 ∧ x'.what = 5 ∧ Sq c s0 V u' a b true := by
  have hl := H.len
  have R1 : Runs s i 1 ⟨5, 2, 0, th, ix, kd, v, pk (nx s0 a) false, hh, ok, ov⟩ s.ws := (Runs.zero hx).ld (by simp) (p := 0) (k := 1) (o := 0) (n := 0) rfl (Or.inl rfl) (by omega) H.w0 (by simp [mres, mshut, pk_cl, mto])
  have R2 : Runs s i 2 ⟨5, 0, 0, th, ix, kd, v, pk (nx s0 a) false, hh, 1, 0⟩ (s.ws.set 0 (pk (nx s0 a) true)) := R1.yes (by simp) (p := 0) (o := pk (nx s0 a) false) (n := pk (nx s0 a) true) (by show (⟨3, tlN s.l 0, pk (nx s0 a) false, pk (pk (nx s0 a) false / 2) true⟩ : Acc) = _; rw [pk_half]; rfl) (by omega) H.w0 rfl
  refine ⟨_, _, R2, rfl, rfl, ⟨H.c1, H.c4, by simp only [List.length_set]; exact H.wl, getD_set_self (by omega) _, by rw [getD_set_other (by omega)]; exact H.w1, H.ba, H.ac, H.sm, fun j hj hj2 => ?_, fun j hj hj2 => ?_⟩⟩
  all_goals have h5 := (slQ_bd (s0 := s0) H.c1 H.c4 j).1
  · rw [getD_set_other (by omega)]; exact H.sq j hj hj2
  · rw [getD_set_other (by omega)]; exact H.vs j hj hj2
theorem pop_run (H : Sq c s0 V s.ws a b z) (hc : s.l.getD 0 0 = c) (hlt : b < a) (hx : s.ms[i]? = some ⟨4, 1, 0, th, ix, kd, v, tt, hh, ok, ov⟩) :
    ∃ x' u', Runs s i 6 x' u' ∧ x'.at_ = 0 ∧ x'.what = 4 ∧ x'.ok = 6 ∧ x'.ov = V b ∧ Sq c s0 V u' a (b + 1) z := by
  have hl := H.len
  have hls := H.lt b
  have hsz := H.szc
  have hba := H.ba
  have hac := H.ac
  have hsm := H.sm
  have hc4 := H.c4
  have hsl := slQ_eq (s0 := s0) H.c1 H.c4 hc b
  have hrt := rest_nx (s0 := s0) (a := a) (b := b) (by omega) (by omega)
  have R1 : Runs s i 1 ⟨4, 2, 0, th, ix, kd, v, tt, nx s0 b, ok, ov⟩ s.ws := (Runs.zero hx).ld (by simp) (p := 1) (k := 1) (o := 0) (n := 0) rfl (Or.inl rfl) (by omega) H.w1 (by simp [mres, mpop, mto])
  have R2 : Runs s i 2 ⟨4, 4, 0, th, ix, kd, v, pk (nx s0 a) z, nx s0 b, ok, ov⟩ s.ws := R1.ld (by simp) (p := 0) (k := 1) (o := 0) (n := 0) rfl (Or.inl rfl) (by omega) H.w0 (by
    simp only [mres, mpop, pk_half, hc]
    rw [if_neg (by simp), if_neg (by omega), if_neg (by omega)]; rfl)
  have hq := H.sq b (Nat.le_refl _) (by omega)
  rw [if_pos hlt] at hq
  have R3 : Runs s i 3 ⟨4, 5, 0, th, ix, kd, v, pk (nx s0 a) z, nx s0 b, ok, ov⟩ s.ws := R2.ld (by simp) (p := slQ c s0 b) (k := 1) (o := 0) (n := 0) (by show (⟨1, slN s.l 0 (nx s0 b), 0, 0⟩ : Acc) = _; rw [hsl]) (Or.inl rfl) (by omega) hq (by
    simp only [mres, mpop, nx1]
    simp [mto])
  have R4 : Runs s i 4 ⟨4, 6, 0, th, ix, kd, v, pk (nx s0 a) z, nx s0 b, ok, ov⟩ (s.ws.set 1 (nx s0 (b + 1 : Nat))) := R3.yes (by simp) (p := 1) (o := nx s0 b) (n := nx s0 (b + 1 : Nat)) (by show (⟨3, tlN s.l 0 + 1, nx s0 b, nx (nx s0 b) 1⟩ : Acc) = _; rw [nx1]; rfl) (by omega) H.w1 rfl
  have h5 := (slQ_bd (s0 := s0) H.c1 H.c4 b).1
  have R5 : Runs s i 5 ⟨4, 7, 0, th, ix, kd, V b, pk (nx s0 a) z, nx s0 b, ok, ov⟩ (s.ws.set 1 (nx s0 (b + 1 : Nat))) := R4.ld (by simp) (p := slQ c s0 b + 1) (k := 5) (o := 0) (n := 0) (by show (⟨5, slN s.l 0 (nx s0 b) + 1, 0, 0⟩ : Acc) = _; rw [hsl]; rfl) (Or.inr rfl) (by rw [List.length_set]; omega) (by rw [getD_set_other (by omega)]; exact H.vs b (Nat.le_refl _) hlt) rfl
  have R6 : Runs s i 6 ⟨4, 0, 0, th, ix, kd, V b, pk (nx s0 a) z, nx s0 b, 6, V b⟩ ((s.ws.set 1 (nx s0 (b + 1 : Nat))).set (slQ c s0 b) (nx (nx s0 b) (sz c))) := R5.st (by simp) (p := slQ c s0 b) (k := 2) (o := 0) (n := nx (nx s0 b) (sz c)) (by show (⟨2, slN s.l 0 (nx s0 b), 0, nx (nx s0 b) (sz (s.l.getD 0 0))⟩ : Acc) = _; rw [hsl, hc]) (Or.inl rfl) (by rw [List.length_set]; omega) rfl
  refine ⟨_, _, R6, rfl, rfl, rfl, rfl, ⟨H.c1, H.c4, by simp only [List.length_set]; exact H.wl, ?_, ?_, by omega, by omega, by omega, fun j hj hj2 => ?_, fun j hj hj2 => ?_⟩⟩
  · rw [getD_set_other (by omega), getD_set_other (by omega)]
    exact H.w0
  · rw [getD_set_other (by omega)]
    exact getD_set_self (by omega) _
  · have h6 := (slQ_bd (s0 := s0) H.c1 H.c4 j).1
    by_cases e : (j : Int) = b + sz c
    · rw [slQ_wrap H.c1 H.c4 e, if_neg (by omega), getD_set_self (by simp only [List.length_set]; omega)]
      unfold nx
      omega
    · have hne : slQ c s0 b ≠ slQ c s0 j := slQ_ne H.c1 H.c4 (by omega) (by omega)
      rw [getD_set_other hne, getD_set_other (by omega)]
      exact H.sq j (by omega) (by omega)
  · have h6 := (slQ_bd (s0 := s0) H.c1 H.c4 j).1
    rw [getD_set_other (slQ_odd H.c1 H.c4 b j), getD_set_other (by omega)]
    exact H.vs j (by omega) hj2
theorem pop_none (H : Sq c s0 V s.ws a a z) (hc : s.l.getD 0 0 = c) (hx : s.ms[i]? = some ⟨4, 1, 0, th, ix, kd, v, tt, hh, ok, ov⟩) :
    ∃ x', Runs s i 3 x' s.ws ∧ x'.at_ = 0 ∧ x'.what = 4 ∧ x'.ok = (if z then 5 else 3) ∧ x'.ov = 0 := by
  have hl := H.len
  have hrt : rest (nx s0 a) (nx s0 a) = 0 := by unfold rest; simp
  have R1 : Runs s i 1 ⟨4, 2, 0, th, ix, kd, v, tt, nx s0 a, ok, ov⟩ s.ws := (Runs.zero hx).ld (by simp) (p := 1) (k := 1) (o := 0) (n := 0) rfl (Or.inl rfl) (by omega) H.w1 (by simp [mres, mpop, mto])
  have R2 : Runs s i 2 ⟨4, 3, 0, th, ix, kd, v, pk (nx s0 a) z, nx s0 a, ok, ov⟩ s.ws := R1.ld (by simp) (p := 0) (k := 1) (o := 0) (n := 0) rfl (Or.inl rfl) (by omega) H.w0 (by
    simp only [mres, mpop, pk_half, hc]
    rw [if_neg (by simp), if_pos hrt]; rfl)
  exact ⟨_, R2.ld (by simp) (p := 1) (k := 1) (o := 0) (n := 0) rfl (Or.inl rfl) (by omega) H.w1 (x2 := ⟨4, 0, 0, th, ix, kd, v, pk (nx s0 a) z, nx s0 a, if z then 5 else 3, 0⟩) (by cases z <;> simp [mres, mpop, mend, pk_cl]), rfl, rfl, rfl, rfl⟩
end
/-! At the beginning. -/
theorem slotsI_at {l s : List Int} {i : Nat} {c s0 : Int} {ws : List Int} (h1 : 1 ≤ c) (h4 : c ≤ 4) (hi : i = 0) (hc : l.getD i 0 = c) (hs : s.getD i 0 = s0) (hw : 5 + 2 * sz c ≤ (ws.length : Int)) : ∀ n : Nat, (n : Int) ≤ sz c → ∀ j, j < n → (slotsI l s i n ws).getD (slQ c s0 j) 0 = nx s0 j := by
  subst hi
  intro n
  induction n with
  | zero => intro _ j hj; omega
  | succ n ih =>
    intro hn j hj
    have e := slQ_eq (s0 := s0) h1 h4 hc n
    rw [slotsI, hs, e, Int.toNat_natCast]
    have hb := slQ_bd (s0 := s0) h1 h4 n
    by_cases h : j = n
    · subst h
      exact getD_set_self (by rw [slotsI_len]; omega) _
    · rw [getD_set_other (slQ_ne (s0 := s0) h1 h4 (j := j) (k := n) (by omega) (by omega)).symm]
      exact ih (by omega) j (by omega)
theorem sq_init {l s : List Int} {t : Nat} {ms : List Mc} {V : Nat → Int} (hl : Cap l) (hn : 1 ≤ l.length) (c1 : 1 ≤ l.getD 0 0) (c4 : l.getD 0 0 ≤ 4) (hs : 0 ≤ s.getD 0 0 ∧ s.getD 0 0 < 9223372036854775808) : Sq (l.getD 0 0) (s.getD 0 0) V ({ st0 l s t with ms := ms } : St).ws 0 0 false := by
  have hnx : nx (s.getD 0 0) ((0 : Nat) : Int) = s.getD 0 0 := by unfold nx; omega
  have g3 := tot_lo hl hn t
  refine ⟨c1, c4, ?_, ?_, ?_, Nat.le_refl _, by show ((0 : Nat) : Int) ≤ ((0 : Nat) : Int) + l.getD 0 0; omega, by omega, fun j h0 hj => ?_, fun j h0 hj => absurd hj (Nat.not_lt_zero _)⟩
  · show 5 + 2 * sz (l.getD 0 0) ≤ ((iniI l s t).length : Int)
    rw [ini_len]
    exact g3
  · show (iniI l s t).getD 0 0 = _
    rw [hnx]
    exact ini_0 hl hn t
  · show (iniI l s t).getD 1 0 = _
    rw [hnx]
    exact ini_1 hl hn t
  · show (iniI l s t).getD (slQ (l.getD 0 0) (s.getD 0 0) j) 0 = _
    rw [if_neg (Nat.not_lt_zero _)]
    have hb := slQ_bd (s0 := s.getD 0 0) c1 c4 j
    rw [iniI, chansI_low hl s _ (by rw [tlN_one]; omega) _ hn (Nat.le_refl _), chansI]
    exact slotsI_at c1 c4 rfl rfl rfl (by simp only [List.length_set, chansI_len, List.length_replicate]; exact g3) _ (by omega) j (by omega)
end Go.Proofs.Ytepngbdjobckbaa
