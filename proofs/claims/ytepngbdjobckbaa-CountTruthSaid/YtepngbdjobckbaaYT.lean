/- Machines that count or close come to their end: in the plain. -/
import Derived.Test.YtepngbdjobckbaaYR
namespace Go.Proofs.Ytepngbdjobckbaa
open Go.RowKit
set_option linter.unusedVariables false

/-- A machine that may still change the tail word. -/
def tc (x : Mc) : Bool := (x.what == 3 && (decide (1 ≤ x.at_) && decide (x.at_ ≤ 5))) || (x.what == 5 && decide (1 ≤ x.at_))
def Dn (ms : List Mc) : Nat := ms.countP tc
/-- How many accesses a machine that counts or closes has still to make at most, if the tail word stays. -/
def rk (w0 : Int) (x : Mc) : Nat :=
  if x.at_ = 0 then 0 else if x.what = 5 then (if x.at_ = 1 then 2 else if x.t = w0 then 1 else 3)
  else if x.at_ = 1 then 3 else if x.at_ = 2 then (if x.t = w0 then 2 else 4) else if x.t = w0 then 1 else 3
theorem mapply_w0 (ws : List Int) (a : Acc) : (mapply ws a).1.getD 0 0 = ws.getD 0 0 ∨ (a.a = 0 ∧ (a.k = 2 ∨ a.k = 6 ∨ (a.k = 3 ∧ (mapply ws a).2.2 = true))) := by
  unfold mapply
  split
  · exact Or.inl rfl
  · rename_i h
    have h1 : 0 ≤ a.a := by simp at h; omega
    by_cases h0 : a.a = 0
    · split
      · rename_i hk
        exact Or.inr ⟨h0, by omega⟩
      · split
        · rename_i hk
          split
          · exact Or.inr ⟨h0, Or.inr (Or.inr ⟨hk, rfl⟩)⟩
          · exact Or.inl rfl
        · exact Or.inl rfl
    · have hn : a.a.toNat ≠ 0 := by omega
      left
      split
      · exact getD_set_other hn _
      · split
        · split
          · exact getD_set_other hn _
          · rfl
        · rfl
theorem dn_set_le {ms : List Mc} {i : Nat} {x x' : Mc} (hx : ms[i]? = some x) (h : tc x' = true → tc x = true) : Dn (ms.set i x') ≤ Dn ms := by
  have hi := (List.getElem?_eq_some_iff.1 hx).1
  have e : ms[i] = x := (List.getElem?_eq_some_iff.1 hx).2
  unfold Dn
  rw [List.countP_set hi, e]
  have hp : tc x = true → 0 < ms.countP tc := fun hh => List.countP_pos_iff.2 ⟨x, List.mem_of_getElem? hx, hh⟩
  cases h1 : tc x' <;> cases h2 : tc x <;> simp_all <;> omega
theorem dn_set_lt {ms : List Mc} {i : Nat} {x x' : Mc} (hx : ms[i]? = some x) (h : tc x = true) (h' : tc x' = false) : Dn (ms.set i x') + 1 ≤ Dn ms := by
  have hi := (List.getElem?_eq_some_iff.1 hx).1
  have e : ms[i] = x := (List.getElem?_eq_some_iff.1 hx).2
  unfold Dn
  rw [List.countP_set hi, e]
  have hp : 0 < ms.countP tc := List.countP_pos_iff.2 ⟨x, List.mem_of_getElem? hx, h⟩
  rw [h, h']
  simp
  omega
section
variable {c s0 : Int} {f : Nat → Rq} {s : St} {i : Nat} {x : Mc}
/-- The tail word changes only by a machine that cannot change it again. -/
theorem stp_tail (H : RI c s0 f s) (hx : s.ms[i]? = some x) (h0 : x.at_ ≠ 0) :
    ((mapply s.ws (mnext s.l x)).1.getD 0 0 = s.ws.getD 0 0 ∧ (tc (mres s.l x (mapply s.ws (mnext s.l x)).2.1 (mapply s.ws (mnext s.l x)).2.2) = true → tc x = true)) ∨
    (tc x = true ∧ tc (mres s.l x (mapply s.ws (mnext s.l x)).2.1 (mapply s.ws (mnext s.l x)).2.2) = false) := by
  have hm := H.ms i x hx
  have hch := hm.ch
  have hwh := hm.wh
  have hat := hm.hat
  have slp : ∀ v, 5 ≤ slN s.l 0 v := fun v => by
    obtain ⟨p, hp, h5, -⟩ := slN_nat H.hc H.c1 v (n := s.ws.length) H.ok.wl
    omega
  clear hm
  have hw0 := mapply_w0 s.ws (mnext s.l x)
  generalize hr : mapply s.ws (mnext s.l x) = r at hw0 ⊢
  obtain ⟨what, at_, ch, th, ix, kd, v, tt, hh, ok, ov⟩ := x
  dsimp only at hch hwh hat h0
  subst hch
  rcases hwh with rfl | rfl | rfl | rfl <;> simp only [atMax] at hat
  · have h7 : at_ = 1 ∨ at_ = 2 ∨ at_ = 3 ∨ at_ = 4 ∨ at_ = 5 ∨ at_ = 6 ∨ at_ = 7 := by omega
    rcases h7 with rfl | rfl | rfl | rfl | rfl | rfl | rfl
    · rcases hw0 with h | ⟨-, h⟩
      · exact Or.inl ⟨h, fun _ => rfl⟩
      · exact absurd h (by simp [mnext])
    · rcases hw0 with h | ⟨-, h⟩
      · exact Or.inl ⟨h, fun _ => rfl⟩
      · exact absurd h (by simp [mnext])
    · rcases hw0 with h | ⟨-, h⟩
      · exact Or.inl ⟨h, fun _ => rfl⟩
      · exact absurd h (by simp [mnext])
    · rcases hw0 with h | ⟨-, h⟩
      · exact Or.inl ⟨h, fun _ => rfl⟩
      · exact absurd h (by simp [mnext])
    · rcases hw0 with h | ⟨-, h⟩
      · exact Or.inl ⟨h, fun _ => rfl⟩
      · rcases h with h | h | ⟨-, h⟩
        · exact absurd h (by simp [mnext])
        · exact absurd h (by simp [mnext])
        · right
          rw [h]
          exact ⟨rfl, rfl⟩
    · rcases hw0 with h | ⟨h, -⟩
      · exact Or.inl ⟨h, fun h => absurd h (by show ¬ false = true; simp)⟩
      · exact absurd h (by have := slp (tt / 2); show ¬ slN s.l 0 (tt / 2) + 1 = 0; omega)
    · rcases hw0 with h | ⟨h, -⟩
      · exact Or.inl ⟨h, fun h => absurd h (by show ¬ false = true; simp)⟩
      · exact absurd h (by have := slp (tt / 2); show ¬ slN s.l 0 (tt / 2) = 0; omega)
  · have nt : ∀ a y, tc (mres s.l ⟨4, at_, 0, th, ix, kd, v, tt, hh, ok, ov⟩ a y) = false := fun a y => by
      have := mres_what s.l ⟨4, at_, 0, th, ix, kd, v, tt, hh, ok, ov⟩ a y
      unfold tc
      rw [this]
      rfl
    have h7 : at_ = 1 ∨ at_ = 2 ∨ at_ = 3 ∨ at_ = 4 ∨ at_ = 5 ∨ at_ = 6 ∨ at_ = 7 := by omega
    have hz : ¬ ((mnext s.l ⟨4, at_, 0, th, ix, kd, v, tt, hh, ok, ov⟩).a = 0 ∧ ((mnext s.l ⟨4, at_, 0, th, ix, kd, v, tt, hh, ok, ov⟩).k = 2 ∨ (mnext s.l ⟨4, at_, 0, th, ix, kd, v, tt, hh, ok, ov⟩).k = 6 ∨ ((mnext s.l ⟨4, at_, 0, th, ix, kd, v, tt, hh, ok, ov⟩).k = 3 ∧ r.2.2 = true))) := by
      rcases h7 with rfl | rfl | rfl | rfl | rfl | rfl | rfl
      · simp [mnext]
      · simp [mnext]
      · simp [mnext]
      · simp [mnext]
      · rintro ⟨h, -⟩
        exact absurd h (by show ¬ tlN s.l 0 + 1 = 0; rw [show tlN s.l 0 = 0 from rfl]; omega)
      · simp [mnext]
      · rintro ⟨h, -⟩
        exact absurd h (by have := slp hh; show ¬ slN s.l 0 hh = 0; omega)
    rcases hw0 with h | h
    · exact Or.inl ⟨h, fun h => absurd h (by rw [nt]; simp)⟩
    · exact absurd h hz
  · have h7 : at_ = 1 ∨ at_ = 2 := by omega
    rcases h7 with rfl | rfl
    · rcases hw0 with h | ⟨-, h⟩
      · exact Or.inl ⟨h, fun _ => rfl⟩
      · exact absurd h (by simp [mnext])
    · rcases hw0 with h | ⟨-, h⟩
      · exact Or.inl ⟨h, fun _ => rfl⟩
      · rcases h with h | h | ⟨-, h⟩
        · exact absurd h (by simp [mnext])
        · exact absurd h (by simp [mnext])
        · right
          rw [h]
          exact ⟨rfl, rfl⟩
  · have nt : ∀ a y, tc (mres s.l ⟨6, at_, 0, th, ix, kd, v, tt, hh, ok, ov⟩ a y) = false := fun a y => by
      have := mres_what s.l ⟨6, at_, 0, th, ix, kd, v, tt, hh, ok, ov⟩ a y
      unfold tc
      rw [this]
      rfl
    have h7 : at_ = 1 ∨ at_ = 2 ∨ at_ = 3 := by omega
    rcases hw0 with h | ⟨-, h⟩
    · exact Or.inl ⟨h, fun h => absurd h (by rw [nt]; simp)⟩
    · exact absurd h (by rcases h7 with rfl | rfl | rfl <;> simp [mnext])
/-- A machine that counts or closes is nearer its end behind its own access. -/
theorem stp_own (H : RI c s0 f s) (hx : s.ms[i]? = some x) (h0 : x.at_ ≠ 0) (hw : x.what = 5 ∨ x.what = 6) :
    rk ((mapply s.ws (mnext s.l x)).1.getD 0 0) (mres s.l x (mapply s.ws (mnext s.l x)).2.1 (mapply s.ws (mnext s.l x)).2.2) + 1 ≤ rk (s.ws.getD 0 0) x := by
  have hm := H.ms i x hx
  have hch := hm.ch
  have hat := hm.hat
  have h7 := H.wlen
  clear hm
  obtain ⟨what, at_, ch, th, ix, kd, v, tt, hh, ok, ov⟩ := x
  dsimp only at hch hat h0 hw
  subst hch
  rcases hw with rfl | rfl <;> simp only [atMax] at hat
  · have h7' : at_ = 1 ∨ at_ = 2 := by omega
    rcases h7' with rfl | rfl
    · have e : mapply s.ws (mnext s.l ⟨5, 1, 0, th, ix, kd, v, tt, hh, ok, ov⟩) = (s.ws, s.ws.getD 0 0, false) := by
        show mapply s.ws ⟨1, ((0 : Nat) : Int), 0, 0⟩ = _
        rw [mapply_at _ _ _ _ _ (by omega)]
        simp
      rw [e]
      show rk (s.ws.getD 0 0) (if cl (s.ws.getD 0 0) = true then mend ⟨5, 1, 0, th, ix, kd, v, s.ws.getD 0 0, hh, ok, ov⟩ 4 0 else mto ⟨5, 1, 0, th, ix, kd, v, s.ws.getD 0 0, hh, ok, ov⟩ 2) + 1 ≤ 2
      split
      · show 0 + 1 ≤ 2; omega
      · show (if s.ws.getD 0 0 = s.ws.getD 0 0 then 1 else 3) + 1 ≤ 2
        rw [if_pos rfl]
        omega
    · have e : mapply s.ws (mnext s.l ⟨5, 2, 0, th, ix, kd, v, tt, hh, ok, ov⟩) = if s.ws.getD 0 0 = tt then (s.ws.set 0 (pk (tt / 2) true), s.ws.getD 0 0, true) else (s.ws, s.ws.getD 0 0, false) := by
        show mapply s.ws ⟨3, ((0 : Nat) : Int), tt, pk (tt / 2) true⟩ = _
        rw [mapply_at _ _ _ _ _ (by omega)]
        simp
      rw [e]
      by_cases he : s.ws.getD 0 0 = tt
      · rw [if_pos he]
        show 0 + 1 ≤ (if tt = s.ws.getD 0 0 then 1 else 3)
        split <;> omega
      · rw [if_neg he]
        show 2 + 1 ≤ (if tt = s.ws.getD 0 0 then 1 else 3)
        rw [if_neg (fun h => he h.symm)]
        omega
  · have h7' : at_ = 1 ∨ at_ = 2 ∨ at_ = 3 := by omega
    rcases h7' with rfl | rfl | rfl
    · have e : mapply s.ws (mnext s.l ⟨6, 1, 0, th, ix, kd, v, tt, hh, ok, ov⟩) = (s.ws, s.ws.getD 0 0, false) := by
        show mapply s.ws ⟨1, ((0 : Nat) : Int), 0, 0⟩ = _
        rw [mapply_at _ _ _ _ _ (by omega)]
        simp
      rw [e]
      show (if s.ws.getD 0 0 = s.ws.getD 0 0 then 2 else 4) + 1 ≤ 3
      rw [if_pos rfl]
      omega
    · have e : mapply s.ws (mnext s.l ⟨6, 2, 0, th, ix, kd, v, tt, hh, ok, ov⟩) = (s.ws, s.ws.getD 1 0, false) := by
        show mapply s.ws ⟨1, ((1 : Nat) : Int), 0, 0⟩ = _
        rw [mapply_at _ _ _ _ _ (by omega)]
        simp
      rw [e]
      show (if tt = s.ws.getD 0 0 then 1 else 3) + 1 ≤ (if tt = s.ws.getD 0 0 then 2 else 4)
      split <;> omega
    · have e : mapply s.ws (mnext s.l ⟨6, 3, 0, th, ix, kd, v, tt, hh, ok, ov⟩) = (s.ws, s.ws.getD 0 0, false) := by
        show mapply s.ws ⟨1, ((0 : Nat) : Int), 0, 0⟩ = _
        rw [mapply_at _ _ _ _ _ (by omega)]
        simp
      rw [e]
      show rk (s.ws.getD 0 0) (if s.ws.getD 0 0 = tt then mend ⟨6, 3, 0, th, ix, kd, v, tt, hh, ok, ov⟩ 9 (rest (tt / 2) hh) else mto ⟨6, 3, 0, th, ix, kd, v, s.ws.getD 0 0, hh, ok, ov⟩ 2) + 1 ≤ (if tt = s.ws.getD 0 0 then 1 else 3)
      by_cases he : s.ws.getD 0 0 = tt
      · rw [if_pos he]
        show 0 + 1 ≤ _
        split <;> omega
      · rw [if_neg he, if_neg (fun h => he h.symm)]
        show (if s.ws.getD 0 0 = s.ws.getD 0 0 then 2 else 4) + 1 ≤ 3
        rw [if_pos rfl]
        omega
theorem rk_two (a b : Int) (x : Mc) : rk a x ≤ rk b x + 2 := by
  unfold rk
  repeat' split
  all_goals omega
/-- What is left for machine k. -/
def phi (s : St) (x : Mc) : Nat := rk (s.ws.getD 0 0) x + 2 * Dn s.ms
theorem phi_step (H : RI c s0 f s) (i : Nat) {k : Nat} {x : Mc} (hx : s.ms[k]? = some x) (hw : x.what = 5 ∨ x.what = 6) :
    ∃ x', (stp s i).ms[k]? = some x' ∧ x'.what = x.what ∧ (x.at_ = 0 → x' = x) ∧ phi (stp s i) x' ≤ phi s x ∧ (i = k → x.at_ ≠ 0 → phi (stp s i) x' + 1 ≤ phi s x) := by
  have hk := (List.getElem?_eq_some_iff.1 hx).1
  cases hy : s.ms[i]? with
  | none =>
    have e : stp s i = s := by unfold stp; rw [hy]
    rw [e]
    exact ⟨x, hx, rfl, fun _ => rfl, Nat.le_refl _, fun h => by rw [h, hx] at hy; cases hy⟩
  | some y =>
    by_cases h0 : y.at_ = 0
    · rw [stp_end hy h0]
      exact ⟨x, hx, rfl, fun _ => rfl, Nat.le_refl _, fun h h1 => by rw [h, hx] at hy; cases hy; exact absurd h0 h1⟩
    · rw [stp_go hy h0]
      have ht := stp_tail H hy h0
      have hD : Dn (s.ms.set i (mres s.l y (mapply s.ws (mnext s.l y)).2.1 (mapply s.ws (mnext s.l y)).2.2)) ≤ Dn s.ms := by
        rcases ht with ⟨-, h⟩ | ⟨h, h'⟩
        · exact dn_set_le hy h
        · have := dn_set_lt hy h h'
          omega
      by_cases hik : i = k
      · subst hik
        rw [hx] at hy
        cases hy
        have ho := stp_own H hx h0 hw
        refine ⟨_, List.getElem?_set_self hk, mres_what _ _ _ _, fun h => absurd h h0, ?_, fun _ _ => ?_⟩
        · unfold phi
          show rk ((mapply s.ws (mnext s.l x)).1.getD 0 0) (mres s.l x (mapply s.ws (mnext s.l x)).2.1 (mapply s.ws (mnext s.l x)).2.2) + 2 * Dn (s.ms.set i (mres s.l x (mapply s.ws (mnext s.l x)).2.1 (mapply s.ws (mnext s.l x)).2.2)) ≤ _
          omega
        · unfold phi
          show rk ((mapply s.ws (mnext s.l x)).1.getD 0 0) (mres s.l x (mapply s.ws (mnext s.l x)).2.1 (mapply s.ws (mnext s.l x)).2.2) + 2 * Dn (s.ms.set i (mres s.l x (mapply s.ws (mnext s.l x)).2.1 (mapply s.ws (mnext s.l x)).2.2)) + 1 ≤ _
          omega
      · refine ⟨x, by show (s.ms.set i _)[k]? = _; rw [List.getElem?_set_ne hik]; exact hx, rfl, fun _ => rfl, ?_, fun h => absurd h hik⟩
        unfold phi
        show rk ((mapply s.ws (mnext s.l y)).1.getD 0 0) x + 2 * Dn (s.ms.set i (mres s.l y (mapply s.ws (mnext s.l y)).2.1 (mapply s.ws (mnext s.l y)).2.2)) ≤ _
        rcases ht with ⟨h, -⟩ | ⟨h, h'⟩
        · rw [h]
          omega
        · have := dn_set_lt hy h h'
          have := rk_two ((mapply s.ws (mnext s.l y)).1.getD 0 0) (s.ws.getD 0 0) x
          omega
end
section
variable {c s0 : Int}
theorem ri_pl1 {s : St} (H : ∃ f, RI c s0 f s) (p : List Int) : ∀ j, s.tr.length + j ≤ 400000 → (∃ f, RI c s0 f (pl1 p s j)) ∧ (pl1 p s j).tr.length ≤ s.tr.length + j := by
  intro j
  induction j with
  | zero => exact fun _ => ⟨H, Nat.le_refl _⟩
  | succ j ih =>
    intro h
    obtain ⟨⟨f, hf⟩, ht⟩ := ih (by omega)
    rw [pl1]
    exact ⟨hf.step _ (by omega), Nat.le_trans (stp_tr _ _) (by omega)⟩
/-- A turn of all: machine k is nearer its end. -/
theorem phi_turn {s : St} (H : ∃ f, RI c s0 f s) {k : Nat} {x : Mc} (hx : s.ms[k]? = some x) (hw : x.what = 5 ∨ x.what = 6) : ∀ i, s.tr.length + i ≤ 400000 →
    (∃ f, RI c s0 f (pl3 s i)) ∧ (pl3 s i).tr.length ≤ s.tr.length + i ∧ ∃ x', (pl3 s i).ms[k]? = some x' ∧ x'.what = x.what ∧ (x.at_ = 0 → x'.at_ = 0) ∧ phi (pl3 s i) x' ≤ phi s x ∧ (k < i → x'.at_ = 0 ∨ phi (pl3 s i) x' + 1 ≤ phi s x) := by
  intro i
  induction i with
  | zero => exact fun _ => ⟨H, Nat.le_refl _, x, hx, rfl, fun h => h, Nat.le_refl _, fun h => by omega⟩
  | succ i ih =>
    intro h
    obtain ⟨⟨f, hf⟩, ht, x1, h1, h2, h3, h4, h5⟩ := ih (by omega)
    obtain ⟨x2, g1, g2, g3, g4, g5⟩ := phi_step hf i h1 (by rw [h2]; exact hw)
    rw [pl3]
    refine ⟨hf.step _ (by omega), Nat.le_trans (stp_tr _ _) (by omega), x2, g1, by rw [g2, h2], fun h => by rw [g3 (h3 h)]; exact h3 h, Nat.le_trans g4 h4, fun hk => ?_⟩
    by_cases e : i = k
    · by_cases h0 : x1.at_ = 0
      · left
        rw [g3 h0]
        exact h0
      · right
        have := g5 e h0
        omega
    · rcases h5 (by omega) with h6 | h6
      · left
        rw [g3 h6]
        exact h6
      · right
        omega
theorem phi_turns {s : St} (H : ∃ f, RI c s0 f s) {k K : Nat} (hk : k < K) (hK : s.ms.length = K) {x : Mc} (hx : s.ms[k]? = some x) (hw : x.what = 5 ∨ x.what = 6) : ∀ n, s.tr.length + n * K ≤ 400000 →
    (∃ f, RI c s0 f (pl2 K s n)) ∧ (pl2 K s n).tr.length ≤ s.tr.length + n * K ∧ ∃ x', (pl2 K s n).ms[k]? = some x' ∧ x'.what = x.what ∧ (x'.at_ = 0 ∨ phi (pl2 K s n) x' + n ≤ phi s x) := by
  intro n
  induction n with
  | zero => exact fun _ => ⟨H, by rw [Nat.zero_mul]; exact Nat.le_refl _, x, hx, rfl, Or.inr (Nat.le_refl _)⟩
  | succ n ih =>
    intro h
    rw [Nat.succ_mul] at h
    obtain ⟨hf, ht, x1, h1, h2, h3⟩ := ih (by omega)
    obtain ⟨gf, gt, x2, g1, g2, g3, g4, g5⟩ := phi_turn hf h1 (by rw [h2]; exact hw) K (by omega)
    rw [pl2, Nat.succ_mul]
    refine ⟨gf, by omega, x2, g1, by rw [g2, h2], ?_⟩
    rcases h3 with h3 | h3
    · exact Or.inl (g3 h3)
    · rcases g5 hk with h6 | h6
      · exact Or.inl h6
      · right
        omega
theorem rk_le (a : Int) (x : Mc) : rk a x ≤ 4 := by
  unfold rk
  repeat' split
  all_goals omega
theorem dn_le (ms : List Mc) : Dn ms ≤ ms.length := List.countP_le_length
/-- Behind a play a machine that counts or closes has ended. -/
theorem ri_plays {s : St} (H : ∃ f, RI c s0 f s) {k : Nat} {x : Mc} (hx : s.ms[k]? = some x) (hw : x.what = 5 ∨ x.what = 6) (p : List Int) (most turns : Nat) (hm : most ≤ 1000) (ht : turns ≤ 1000) (hl : s.ms.length ≤ 20) (htr : s.tr.length ≤ 100) (hn : 4 + 2 * s.ms.length < turns) :
    (∃ f, RI c s0 f (plays p most turns s)) ∧ ∃ x', (plays p most turns s).ms[k]? = some x' ∧ x'.what = x.what ∧ x'.at_ = 0 := by
  have hk := (List.getElem?_eq_some_iff.1 hx).1
  rw [plays]
  have hmin : min p.length most ≤ most := Nat.min_le_right _ _
  obtain ⟨h1, h2⟩ := ri_pl1 H p (min p.length most) (by omega)
  have hlen := pl1_len p s (min p.length most)
  have hwh : ∀ j, j ≤ min p.length most → ∃ y, (pl1 p s j).ms[k]? = some y ∧ y.what = x.what := by
    intro j
    induction j with
    | zero => exact fun _ => ⟨x, hx, rfl⟩
    | succ j ih =>
      intro hj
      obtain ⟨y, hy, e⟩ := ih (by omega)
      obtain ⟨⟨f, hf⟩, -⟩ := ri_pl1 H p j (by omega)
      obtain ⟨y', g1, g2, -⟩ := phi_step hf ((p.getD j 0) % (s.ms.length : Int)).toNat hy (by rw [e]; exact hw)
      exact ⟨y', by rw [pl1]; exact g1, by rw [g2, e]⟩
  obtain ⟨y, hy, hyw⟩ := hwh _ (Nat.le_refl _)
  generalize pl1 p s (min p.length most) = s1 at *
  have hmul : turns * s.ms.length ≤ 1000 * 20 := Nat.mul_le_mul ht hl
  obtain ⟨g1, -, x', g3, g4, g5⟩ := phi_turns h1 hk hlen hy (by rw [hyw]; exact hw) turns (by omega)
  refine ⟨g1, x', g3, by rw [g4, hyw], ?_⟩
  rcases g5 with h | h
  · exact h
  · exfalso
    have a1 := rk_le (s1.ws.getD 0 0) y
    have a2 := dn_le s1.ms
    unfold phi at h
    omega
end
end Go.Proofs.Ytepngbdjobckbaa
