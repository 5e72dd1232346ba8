/- Claims in the plain: one wins; what a Fire leaves; reserve and undo. No walk in sight. -/
import Derived.Test.YtadaoobdnnleaaaY0
namespace Go.Proofs.Ytadaoobdnnleaaa
open Go.RowKit
set_option linter.unusedVariables false

theorem mnext_cas {l : List Int} {x : Mc} (h : x.what = 7 ∨ x.what = 10) (h0 : x.at_ ≠ 0) : mnext l x = ⟨3, clN l x.th, 1, if x.what = 7 then 2 else 4⟩ := by
  rw [mnext, if_neg h0]
  rcases h with h | h <;> rw [h] <;> rfl
/-- Machines that reserve and expire the claim p. -/
structure ClW (p : Nat) (s : St) : Prop where
  wl : p < s.ws.length
  ms : ∀ (i : Nat) x, s.ms[i]? = some x → (x.what = 7 ∨ x.what = 10) ∧ clN s.l x.th = (p : Int)
def ClA (p : Nat) (s : St) : Prop := ClW p s ∧ s.ws.getD p 0 = 1 ∧ ∀ (i : Nat) x, s.ms[i]? = some x → x.at_ = 1
def Lost (x : Mc) : Prop := (x.at_ = 0 ∧ x.ok = 8) ∨ x.at_ = 1
def ClB (p k : Nat) (s : St) : Prop := ClW p s ∧ (s.ws.getD p 0 = 2 ∨ s.ws.getD p 0 = 4) ∧ (∃ x, s.ms[k]? = some x ∧ x.at_ = 0 ∧ x.ok = 7) ∧ ∀ (i : Nat) x, s.ms[i]? = some x → i ≠ k → Lost x
theorem mres_what' (l : List Int) (x : Mc) (a : Int) (y : Bool) : (mres l x a y).th = x.th := by
  unfold mres mpush mpop mshut mcount mend mto
  repeat' split
  all_goals rfl
theorem ClW.next {p : Nat} {s : St} (H : ClW p s) {i : Nat} {x : Mc} (hx : s.ms[i]? = some x) {ws : List Int} (hl : ws.length = s.ws.length) (a : Int) (y : Bool) {tr : List It} {pa : List (List Int)} : ClW p { s with ws := ws, ms := s.ms.set i (mres s.l x a y), tr := tr, pa := pa } := by
  refine ⟨by show p < ws.length; rw [hl]; exact H.wl, fun j z hz => ?_⟩
  rcases set_get hz with ⟨-, rfl⟩ | ⟨-, h⟩
  · rw [mres_what, mres_what']
    exact H.ms i x hx
  · exact H.ms j z h
theorem ClA.step {p : Nat} {s : St} (H : ClA p s) {i : Nat} (hi : i < s.ms.length) : ClB p i (stp s i) := by
  have hx : s.ms[i]? = some s.ms[i] := List.getElem?_eq_getElem hi
  generalize s.ms[i] = x at hx
  have h1 := H.2.2 i x hx
  obtain ⟨hw, hp⟩ := H.1.ms i x hx
  have h0 : x.at_ ≠ 0 := by omega
  have e := mnext_cas (l := s.l) hw h0
  rw [hp] at e
  rw [stp_yes hx h0 e H.1.wl H.2.1]
  have er : mres s.l x 1 true = mend x 7 0 := by
    rw [mres, if_neg h0]
    rcases hw with h | h <;> rw [h] <;> rfl
  refine ⟨H.1.next hx (by simp) 1 true, ?_, ⟨mend x 7 0, ?_, rfl, rfl⟩, fun j z hz hne => ?_⟩
  · show (s.ws.set p _).getD p 0 = 2 ∨ (s.ws.set p _).getD p 0 = 4
    rw [getD_set_self H.1.wl]
    split <;> simp
  · show (s.ms.set i (mres s.l x 1 true))[i]? = _
    rw [er]
    exact List.getElem?_set_self hi
  · rcases set_get hz with ⟨e1, -⟩ | ⟨-, h⟩
    · exact absurd e1.symm hne
    · exact Or.inr (H.2.2 j z h)
theorem ClB.step {p k : Nat} {s : St} (H : ClB p k s) (i : Nat) : ClB p k (stp s i) := by
  by_cases hi : i < s.ms.length
  · have hx : s.ms[i]? = some s.ms[i] := List.getElem?_eq_getElem hi
    generalize s.ms[i] = x at hx
    by_cases h0 : x.at_ = 0
    · rw [stp_end hx h0]; exact H
    · obtain ⟨hw, hp⟩ := H.1.ms i x hx
      have e := mnext_cas (l := s.l) hw h0
      rw [hp] at e
      obtain ⟨xk, hk, hk0, hk7⟩ := H.2.2.1
      have hik : i ≠ k := fun e => by rw [e, hk] at hx; cases hx; exact h0 hk0
      have h1 : x.at_ = 1 := by
        rcases H.2.2.2 i x hx hik with ⟨h, -⟩ | h
        · exact absurd h h0
        · exact h
      rw [stp_no hx h0 e H.1.wl (by rcases H.2.1 with h | h <;> rw [h] <;> decide)]
      refine ⟨H.1.next hx rfl _ _, H.2.1, ⟨xk, ?_, hk0, hk7⟩, fun j z hz hne => ?_⟩
      · show (s.ms.set i _)[k]? = _
        rw [List.getElem?_set_ne hik]; exact hk
      · rcases set_get hz with ⟨-, rfl⟩ | ⟨-, h⟩
        · rw [mres, if_neg h0]
          rcases hw with h | h
          · rw [h]
            show Lost (if false = true then mend x 7 0 else if s.ws.getD p 0 = 2 then x else mend x 8 0)
            rw [if_neg (by simp)]
            split
            · exact Or.inr h1
            · exact Or.inl ⟨rfl, rfl⟩
          · rw [h]
            show Lost (if false = true then mend x 7 0 else mend x 8 0)
            rw [if_neg (by simp)]
            exact Or.inl ⟨rfl, rfl⟩
        · exact H.2.2.2 j z h hne
  · unfold stp
    rw [List.getElem?_eq_none (by omega)]
    exact H
def ClAB (p : Nat) (s : St) : Prop := ClA p s ∨ ∃ k, ClB p k s
theorem ClAB.step {p : Nat} {s : St} (H : ClAB p s) (i : Nat) : ClAB p (stp s i) := by
  rcases H with h | ⟨k, h⟩
  · by_cases hi : i < s.ms.length
    · exact Or.inr ⟨_, h.step hi⟩
    · unfold stp
      rw [List.getElem?_eq_none (by omega)]
      exact Or.inl h
  · exact Or.inr ⟨k, h.step i⟩
theorem pl1_len (p : List Int) (s : St) : ∀ j, (pl1 p s j).ms.length = s.ms.length := by
  intro j
  induction j with
  | zero => rfl
  | succ j ih => rw [pl1, stp_len, ih]
theorem pl3_len (s : St) : ∀ j, (pl3 s j).ms.length = s.ms.length := by
  intro j
  induction j with
  | zero => rfl
  | succ j ih => rw [pl3, stp_len, ih]
/-- They play, and all have their turn: one has won. -/
theorem ClA.plays {p : Nat} {s : St} (H : ClA p s) (hs : 0 < s.ms.length) (pk : List Int) (most : Nat) : ∃ k, k < s.ms.length ∧ ClB p k (plays pk most 1 s) := by
  have h1 : ∀ j, ClAB p (pl1 pk s j) := by
    intro j
    induction j with
    | zero => exact Or.inl H
    | succ j ih => rw [pl1]; exact ih.step _
  have h3 : ∀ (s' : St) j, ClAB p s' → 0 < s'.ms.length → 1 ≤ j → ∃ k, ClB p k (pl3 s' j) := by
    intro s' j hs' hl hj
    induction j with
    | zero => omega
    | succ j ih =>
      rw [pl3]
      by_cases e : j = 0
      · subst e
        rw [pl3]
        rcases hs' with h | ⟨k, h⟩
        · exact ⟨_, h.step hl⟩
        · exact ⟨k, h.step _⟩
      · obtain ⟨k, h⟩ := ih (by omega)
        exact ⟨k, h.step _⟩
  have hl1 := pl1_len pk s (min pk.length most)
  obtain ⟨k, hk⟩ := h3 _ s.ms.length (h1 (min pk.length most)) (by omega) hs
  have hk' : ClB p k (Go.Proofs.Ytadaoobdnnleaaa.plays pk most 1 s) := hk
  obtain ⟨x, hx, -⟩ := hk.2.2.1
  have := (List.getElem?_eq_some_iff.1 hx).1
  rw [pl3_len, hl1] at this
  exact ⟨k, this, hk'⟩
/-! ### Fire -/
/-- The words behind j accesses of a Fire. -/
structure Fi (l : List Int) (m : Mc) (c N j : Nat) (s : St) : Prop where
  l_ : s.l = l
  len : s.ws.length = N
  ms : s.ms = [if j < 5 then mto m (j + 1) else mend (mto m 5) 1 0]
  fl : s.ws.getD (c + 1) 0 = if j < 5 then 0 else 1
  w3 : 1 ≤ j → s.ws.getD (c + 3) 0 = m.ix % 18446744073709551616
  w2 : 2 ≤ j → s.ws.getD (c + 2) 0 = m.kd % 18446744073709551616
  w4 : 3 ≤ j → s.ws.getD (c + 4) 0 = m.v
  w0 : 4 ≤ j → s.ws.getD c 0 = 3
theorem Fi.step {l : List Int} {m : Mc} {c N j : Nat} {s : St} (H : Fi l m c N j s) (hw : m.what = 9) (hc : clN l m.th = (c : Int)) (hN : c + 5 ≤ N) (hj : j < 5) : Fi l m c N (j + 1) (stp s 0) := by
  have hx : s.ms[0]? = some (mto m (j + 1)) := by rw [H.ms, if_pos hj]; rfl
  have h0 : (mto m (j + 1)).at_ ≠ 0 := by show j + 1 ≠ 0; omega
  have hl := H.len
  have hl0 := H.l_
  have hf := H.fl
  rw [if_pos hj] at hf
  have hms := H.ms
  rw [if_pos hj] at hms
  have hth : (mto m (j + 1)).th = m.th := rfl
  have hj' : j = 0 ∨ j = 1 ∨ j = 2 ∨ j = 3 ∨ j = 4 := by omega
  have key : ∀ (q : Nat) (k v : Int) (m' : Mc), q < N → (k = 2 ∨ k = 6) → mnext s.l (mto m (j + 1)) = ⟨k, (q : Int), 0, v⟩ → mres s.l (mto m (j + 1)) 0 false = m' → stp s 0 = { s with ws := s.ws.set q v, ms := [m'], tr := s.tr ++ [⟨0, ⟨k, (q : Int), 0, v⟩, 0, false⟩], pa := s.pa ++ [s.ws] } := by
    intro q k v m' hq hk h1 h2
    rw [stp_st hx h0 h1 hk (by omega), h2, hms]
    rfl
  have hc3 : clN s.l m.th + 3 = ((c + 3 : Nat) : Int) := by rw [hl0, hc]; rfl
  have hc2 : clN s.l m.th + 2 = ((c + 2 : Nat) : Int) := by rw [hl0, hc]; rfl
  have hc4 : clN s.l m.th + 4 = ((c + 4 : Nat) : Int) := by rw [hl0, hc]; rfl
  have hc1 : clN s.l m.th + 1 = ((c + 1 : Nat) : Int) := by rw [hl0, hc]; rfl
  have hc0 : clN s.l m.th = (c : Int) := by rw [hl0, hc]
  have hm1 : mnext s.l (mto m 1) = ⟨6, clN s.l m.th + 3, 0, m.ix % 18446744073709551616⟩ := by rw [mnext, if_neg (by show ¬ (1 : Nat) = 0; omega), show (mto m 1).what = 9 from hw]; rfl
  have hm2 : mnext s.l (mto m 2) = ⟨6, clN s.l m.th + 2, 0, m.kd % 18446744073709551616⟩ := by rw [mnext, if_neg (by show ¬ (2 : Nat) = 0; omega), show (mto m 2).what = 9 from hw]; rfl
  have hm3 : mnext s.l (mto m 3) = ⟨6, clN s.l m.th + 4, 0, m.v⟩ := by rw [mnext, if_neg (by show ¬ (3 : Nat) = 0; omega), show (mto m 3).what = 9 from hw]; rfl
  have hm4 : mnext s.l (mto m 4) = ⟨2, clN s.l m.th, 0, 3⟩ := by rw [mnext, if_neg (by show ¬ (4 : Nat) = 0; omega), show (mto m 4).what = 9 from hw]; rfl
  have hm5 : mnext s.l (mto m 5) = ⟨2, clN s.l m.th + 1, 0, 1⟩ := by rw [mnext, if_neg (by show ¬ (5 : Nat) = 0; omega), show (mto m 5).what = 9 from hw]; rfl
  have hmr : ∀ i, 1 ≤ i → mres s.l (mto m i) 0 false = if i < 5 then mto m (i + 1) else mend (mto m i) 1 0 := by
    intro i hi
    rw [mres, if_neg (by show ¬ i = 0; omega), show (mto m i).what = 9 from hw]
    rfl
  rcases hj' with rfl | rfl | rfl | rfl | rfl
  · rw [key (c + 3) 6 _ (mto m 2) (by omega) (Or.inr rfl) (by rw [hm1, ← hc3]) (by rw [hmr 1 (by omega)]; rfl)]
    refine ⟨hl0, by simp [hl], rfl, ?_, fun _ => getD_set_self (by omega) _, fun h => by omega, fun h => by omega, fun h => by omega⟩
    show (s.ws.set (c + 3) _).getD (c + 1) 0 = 0
    rw [getD_set_other (by omega)]; exact hf
  · rw [key (c + 2) 6 _ (mto m 3) (by omega) (Or.inr rfl) (by rw [hm2, ← hc2]) (by rw [hmr 2 (by omega)]; rfl)]
    refine ⟨hl0, by simp [hl], rfl, ?_, fun _ => ?_, fun _ => getD_set_self (by omega) _, fun h => by omega, fun h => by omega⟩
    · show (s.ws.set (c + 2) _).getD (c + 1) 0 = 0
      rw [getD_set_other (by omega)]; exact hf
    · show (s.ws.set (c + 2) _).getD (c + 3) 0 = _
      rw [getD_set_other (by omega)]; exact H.w3 (by omega)
  · rw [key (c + 4) 6 _ (mto m 4) (by omega) (Or.inr rfl) (by rw [hm3, ← hc4]) (by rw [hmr 3 (by omega)]; rfl)]
    refine ⟨hl0, by simp [hl], rfl, ?_, fun _ => ?_, fun _ => ?_, fun _ => getD_set_self (by omega) _, fun h => by omega⟩
    · show (s.ws.set (c + 4) _).getD (c + 1) 0 = 0
      rw [getD_set_other (by omega)]; exact hf
    · show (s.ws.set (c + 4) _).getD (c + 3) 0 = _
      rw [getD_set_other (by omega)]; exact H.w3 (by omega)
    · show (s.ws.set (c + 4) _).getD (c + 2) 0 = _
      rw [getD_set_other (by omega)]; exact H.w2 (by omega)
  · rw [key c 2 _ (mto m 5) (by omega) (Or.inl rfl) (by rw [hm4, ← hc0]) (by rw [hmr 4 (by omega)]; rfl)]
    refine ⟨hl0, by simp [hl], rfl, ?_, fun _ => ?_, fun _ => ?_, fun _ => ?_, fun _ => getD_set_self (by omega) _⟩
    · show (s.ws.set c _).getD (c + 1) 0 = 0
      rw [getD_set_other (by omega)]; exact hf
    · show (s.ws.set c _).getD (c + 3) 0 = _
      rw [getD_set_other (by omega)]; exact H.w3 (by omega)
    · show (s.ws.set c _).getD (c + 2) 0 = _
      rw [getD_set_other (by omega)]; exact H.w2 (by omega)
    · show (s.ws.set c _).getD (c + 4) 0 = _
      rw [getD_set_other (by omega)]; exact H.w4 (by omega)
  · rw [key (c + 1) 2 _ (mend (mto m 5) 1 0) (by omega) (Or.inl rfl) (by rw [hm5, ← hc1]) (by rw [hmr 5 (by omega)]; rfl)]
    refine ⟨hl0, by simp [hl], rfl, getD_set_self (by omega) _, fun _ => ?_, fun _ => ?_, fun _ => ?_, fun _ => ?_⟩
    · show (s.ws.set (c + 1) _).getD (c + 3) 0 = _
      rw [getD_set_other (by omega)]; exact H.w3 (by omega)
    · show (s.ws.set (c + 1) _).getD (c + 2) 0 = _
      rw [getD_set_other (by omega)]; exact H.w2 (by omega)
    · show (s.ws.set (c + 1) _).getD (c + 4) 0 = _
      rw [getD_set_other (by omega)]; exact H.w4 (by omega)
    · show (s.ws.set (c + 1) _).getD c 0 = _
      rw [getD_set_other (by omega)]; exact H.w0 (by omega)
/-- The words of the threads are 0 at first. -/
theorem slotsI_high (l s : List Int) (i : Nat) (k : Nat) (hk : tlN l i + 5 + 2 * sz (l.getD i 0) ≤ (k : Int)) (h1 : 1 ≤ sz (l.getD i 0)) (h2 : sz (l.getD i 0) ≤ 16) (h0 : 0 ≤ tlN l i) (ws : List Int) : ∀ n, (slotsI l s i n ws).getD k 0 = ws.getD k 0 := by
  intro n
  induction n with
  | zero => rfl
  | succ n ih =>
    rw [slotsI, getD_set_other ?_, ih]
    have := sl_in (nx (s.getD i 0) n) _ h1 h2
    unfold slN
    omega
theorem chansI_high {l : List Int} (hl : Cap l) (s : List Int) (k : Nat) : ∀ i, i ≤ l.length → tlN l i ≤ (k : Int) → ∀ ws, (chansI l s i ws).getD k 0 = ws.getD k 0 := by
  intro i
  induction i with
  | zero => intro _ _ ws; rfl
  | succ i ih =>
    intro hi hk ws
    have g := hl.at_ (show i < l.length by omega)
    have g1 := sz_bd _ g.1 g.2
    have g2 := hl.tl i (by omega)
    rw [tlN] at hk
    rw [chansI, slotsI_high l s i k (by omega) g1.1 g1.2 g2.1, getD_set_other (by omega), getD_set_other (by omega), ih (by omega) (by omega)]
theorem iniI_high {l : List Int} (hl : Cap l) (s : List Int) (t k : Nat) (hk : tlN l l.length ≤ (k : Int)) : (iniI l s t).getD k 0 = 0 := by
  rw [iniI, chansI_high hl s k _ (Nat.le_refl _) hk]
  by_cases h : k < totI l t
  · simp [List.getD, h]
  · simp [List.getD, List.getElem?_eq_none (show (List.replicate (totI l t) (0 : Int)).length ≤ k by simp; omega)]
/-! ### Reserve, expire, undo -/
/-- Behind j rounds. -/
structure Un (p j : Nat) (s : St) : Prop where
  l_ : s.l = [1]
  wl : p < s.ws.length
  w1 : s.ws.getD p 0 = 1
  len : s.ms.length = 3 * j
  cl_ : clN [1] 0 = (p : Int)
theorem cl_what {x : Mc} (h : x.what = 7 ∨ x.what = 10) (h0 : x.at_ ≠ 0) (l : List Int) : mres l x 1 true = mend x 7 0 := by
  rw [mres, if_neg h0]
  rcases h with h | h <;> rw [h] <;> rfl
/-- One that finds the claim armed has it. -/
theorem un_won {p : Nat} {s : St} (hl : s.l = [1]) (hc : clN [1] 0 = (p : Int)) (wl : p < s.ws.length) (w1 : s.ws.getD p 0 = 1) {i : Nat} {what : Nat} (hw : what = 7 ∨ what = 10) (hx : s.ms[i]? = some (mc0 what 0 0 0)) :
    stp s i = { s with ws := s.ws.set p (if what = 7 then 2 else 4), ms := s.ms.set i (mend (mc0 what 0 0 0) 7 0), tr := s.tr ++ [⟨i, ⟨3, (p : Int), 1, if what = 7 then 2 else 4⟩, 1, true⟩], pa := s.pa ++ [s.ws] } := by
  have h0 : (mc0 what 0 0 0).at_ ≠ 0 := by show 1 ≠ 0; omega
  have e := mnext_cas (l := s.l) (x := mc0 what 0 0 0) hw h0
  rw [hl, show (mc0 what 0 0 0).th = 0 from rfl, hc] at e
  rw [stp_yes hx h0 (by rw [hl]; exact e) wl w1, cl_what (x := mc0 what 0 0 0) hw h0]
  rfl
/-- An expire that finds it reserved has lost. -/
theorem un_lost {p : Nat} {s : St} (hl : s.l = [1]) (hc : clN [1] 0 = (p : Int)) (wl : p < s.ws.length) (w1 : s.ws.getD p 0 = 2) {i : Nat} (hx : s.ms[i]? = some (mc0 10 0 0 0)) :
    stp s i = { s with ms := s.ms.set i (mend (mc0 10 0 0 0) 8 0), tr := s.tr ++ [⟨i, ⟨3, (p : Int), 1, 4⟩, 2, false⟩], pa := s.pa ++ [s.ws] } := by
  have h0 : (mc0 10 0 0 0).at_ ≠ 0 := by show 1 ≠ 0; omega
  have e := mnext_cas (l := s.l) (x := mc0 10 0 0 0) (Or.inr rfl) h0
  rw [hl, show (mc0 10 0 0 0).th = 0 from rfl, hc] at e
  rw [stp_no hx h0 (by rw [hl]; exact e) wl (by rw [w1]; decide), w1]
  rfl
theorem un_back {p : Nat} {s : St} (hl : s.l = [1]) (hc : clN [1] 0 = (p : Int)) (wl : p < s.ws.length) {i : Nat} (hx : s.ms[i]? = some (mc0 8 0 0 0)) :
    stp s i = { s with ws := s.ws.set p 1, ms := s.ms.set i (mend (mc0 8 0 0 0) 1 0), tr := s.tr ++ [⟨i, ⟨2, (p : Int), 0, 1⟩, 0, false⟩], pa := s.pa ++ [s.ws] } := by
  have h0 : (mc0 8 0 0 0).at_ ≠ 0 := by show 1 ≠ 0; omega
  have e : mnext s.l (mc0 8 0 0 0) = ⟨2, (p : Int), 0, 1⟩ := by
    rw [mnext, if_neg h0, hl, ← hc]
    rfl
  rw [stp_st hx h0 e (Or.inl rfl) wl]
  rfl
end Go.Proofs.Ytadaoobdnnleaaa
