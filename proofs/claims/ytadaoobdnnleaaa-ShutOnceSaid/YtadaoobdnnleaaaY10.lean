/- Of machines that close one channel exactly one wins: in the plain. -/
import Derived.Test.YtadaoobdnnleaaaY1
namespace Go.Proofs.Ytadaoobdnnleaaa
open Go.RowKit
set_option linter.unusedVariables false
set_option linter.unusedSectionVars false

theorem mnext_s1 {l : List Int} {x : Mc} (hw : x.what = 5) (hc : x.ch = 0) (h : x.at_ = 1) : mnext l x = ⟨1, ((0 : Nat) : Int), 0, 0⟩ := by
  obtain ⟨what, at_, ch, th, ix, kd, v, tt, hh, ok, ov⟩ := x
  dsimp only at hw hc h
  subst hw hc h
  rfl
theorem mnext_s2 {l : List Int} {x : Mc} (hw : x.what = 5) (hc : x.ch = 0) (h : x.at_ = 2) : mnext l x = ⟨3, ((0 : Nat) : Int), x.t, pk (x.t / 2) true⟩ := by
  obtain ⟨what, at_, ch, th, ix, kd, v, tt, hh, ok, ov⟩ := x
  dsimp only at hw hc h
  subst hw hc h
  rfl
theorem mres_s1 {l : List Int} {x : Mc} (hw : x.what = 5) (h : x.at_ = 1) (a : Int) (y : Bool) : mres l x a y = if cl a then mend { x with t := a } 4 0 else mto { x with t := a } 2 := by
  obtain ⟨what, at_, ch, th, ix, kd, v, tt, hh, ok, ov⟩ := x
  dsimp only at hw h
  subst hw h
  rfl
theorem mres_s2 {l : List Int} {x : Mc} (hw : x.what = 5) (h : x.at_ = 2) (a : Int) (y : Bool) : mres l x a y = if y then mend x 1 0 else mto x 1 := by
  obtain ⟨what, at_, ch, th, ix, kd, v, tt, hh, ok, ov⟩ := x
  dsimp only at hw h
  subst hw h
  rfl
/-- Machines that close channel 0, whose tail word is word 0. -/
structure ShW (s : St) : Prop where
  wl : 0 < s.ws.length
  ms : ∀ (i : Nat) x, s.ms[i]? = some x → x.what = 5 ∧ x.ch = 0
theorem ShW.next {s : St} (H : ShW s) {i : Nat} {x : Mc} (hx : s.ms[i]? = some x) {ws : List Int} (hl : ws.length = s.ws.length) (a : Int) (y : Bool) {tr : List It} {pa : List (List Int)} : ShW { s with ws := ws, ms := s.ms.set i (mres s.l x a y), tr := tr, pa := pa } := by
  refine ⟨by show 0 < ws.length; rw [hl]; exact H.wl, fun j z hz => ?_⟩
  rcases set_get hz with ⟨-, rfl⟩ | ⟨-, h⟩
  · rw [mres_what, mres_ch]
    exact H.ms i x hx
  · exact H.ms j z h
/-- Open: nobody has won. -/
def ShA (b : Int) (s : St) : Prop := ShW s ∧ s.ws.getD 0 0 = b ∧ ∀ (i : Nat) x, s.ms[i]? = some x → x.at_ = 1 ∨ (x.at_ = 2 ∧ x.t = b)
/-- Of the others: at most r turns are left. -/
def ShR (b : Int) (r : Nat) (x : Mc) : Prop := (x.at_ = 0 ∧ x.ok = 4) ∨ (1 ≤ r ∧ x.at_ = 1) ∨ (2 ≤ r ∧ x.at_ = 2 ∧ x.t = b)
/-- Closed by number k. -/
def ShB (b : Int) (k r : Nat) (s : St) : Prop := ShW s ∧ s.ws.getD 0 0 = b + 1 ∧ (∃ x, s.ms[k]? = some x ∧ x.at_ = 0 ∧ x.ok = 1) ∧ ∀ (i : Nat) x, s.ms[i]? = some x → i ≠ k → ShR b r x
theorem pk_even {b : Int} (h0 : 0 ≤ b) (h1 : b < 18446744073709551616) (h2 : b % 2 = 0) : pk (b / 2) true = b + 1 := by
  unfold pk
  simp
  omega
theorem cl_even {b : Int} (h2 : b % 2 = 0) : cl b = false := by unfold cl; simp; omega
theorem cl_odd {b : Int} (h2 : b % 2 = 0) : cl (b + 1) = true := by unfold cl; simp; omega
section
variable {b : Int} (h0 : 0 ≤ b) (h1 : b < 18446744073709551616) (h2 : b % 2 = 0)
include h0 h1 h2
theorem ShA.step {s : St} (H : ShA b s) {i : Nat} {x : Mc} (hx : s.ms[i]? = some x) :
    (x.at_ = 1 ∧ ShA b (stp s i) ∧ (∃ y, (stp s i).ms[i]? = some y ∧ y.at_ = 2) ∧ ∀ j, j ≠ i → (stp s i).ms[j]? = s.ms[j]?) ∨ (x.at_ = 2 ∧ ShB b i 2 (stp s i)) := by
  have hi := (List.getElem?_eq_some_iff.1 hx).1
  obtain ⟨hw, hc⟩ := H.1.ms i x hx
  rcases H.2.2 i x hx with h | ⟨h, ht⟩
  · left
    refine ⟨h, ?_⟩
    rw [stp_ld hx (by omega) (mnext_s1 hw hc h) (Or.inl rfl) H.1.wl, H.2.1, mres_s1 hw h, cl_even h2, if_neg (by simp)]
    refine ⟨⟨?_, H.2.1, fun j z hz => ?_⟩, ⟨_, List.getElem?_set_self hi, rfl⟩, fun j hj => List.getElem?_set_ne (Ne.symm hj)⟩
    · have := H.1.next hx (ws := s.ws) rfl b false (tr := s.tr ++ [⟨i, ⟨1, ((0 : Nat) : Int), 0, 0⟩, b, false⟩]) (pa := s.pa ++ [s.ws])
      rwa [mres_s1 hw h, cl_even h2, if_neg (by simp)] at this
    · rcases set_get hz with ⟨-, rfl⟩ | ⟨-, h'⟩
      · exact Or.inr ⟨rfl, rfl⟩
      · exact H.2.2 j z h'
  · right
    refine ⟨h, ?_⟩
    have e := mnext_s2 (l := s.l) hw hc h
    rw [ht] at e
    rw [stp_yes hx (by omega) e H.1.wl H.2.1, mres_s2 hw h, if_pos rfl]
    refine ⟨?_, ?_, ⟨_, List.getElem?_set_self hi, rfl, rfl⟩, fun j z hz hne => ?_⟩
    · have := H.1.next hx (ws := s.ws.set 0 (pk (b / 2) true)) (by simp) b true (tr := s.tr ++ [⟨i, ⟨3, ((0 : Nat) : Int), b, pk (b / 2) true⟩, b, true⟩]) (pa := s.pa ++ [s.ws])
      rwa [mres_s2 hw h, if_pos rfl] at this
    · show (s.ws.set 0 (pk (b / 2) true)).getD 0 0 = b + 1
      rw [getD_set_self H.1.wl, pk_even h0 h1 h2]
    · rcases set_get hz with ⟨e', -⟩ | ⟨-, h'⟩
      · exact absurd e'.symm hne
      · rcases H.2.2 j z h' with h3 | h3
        · exact Or.inr (Or.inl ⟨by omega, h3⟩)
        · exact Or.inr (Or.inr ⟨by omega, h3⟩)
theorem ShB.step {s : St} {k r : Nat} (H : ShB b k r s) (i : Nat) :
    ShB b k r (stp s i) ∧ (∀ j, j ≠ i → (stp s i).ms[j]? = s.ms[j]?) ∧ ∀ y, (stp s i).ms[i]? = some y → i ≠ k → ShR b (r - 1) y := by
  cases hx : s.ms[i]? with
  | none =>
    have e : stp s i = s := by unfold stp; rw [hx]
    rw [e]
    exact ⟨H, fun _ _ => rfl, fun y hy => by rw [hx] at hy; cases hy⟩
  | some x =>
    have hi := (List.getElem?_eq_some_iff.1 hx).1
    obtain ⟨hw, hc⟩ := H.1.ms i x hx
    by_cases hik : i = k
    · subst hik
      obtain ⟨y, hy, ha, -⟩ := H.2.2.1
      rw [hx] at hy
      cases hy
      rw [stp_end hx ha]
      exact ⟨H, fun _ _ => rfl, fun _ _ h => absurd rfl h⟩
    · have fin : ∀ (s' : St) (x' : Mc), s'.ms = s.ms.set i x' → s'.ws = s.ws → ShW s' → ShR b r x' → ShR b (r - 1) x' → ShB b k r s' ∧ (∀ j, j ≠ i → s'.ms[j]? = s.ms[j]?) ∧ ∀ y, s'.ms[i]? = some y → i ≠ k → ShR b (r - 1) y := by
        intro s' x' hm hws hW hr hr'
        refine ⟨⟨hW, by rw [hws]; exact H.2.1, ?_, fun j z hz hne => ?_⟩, fun j hj => by rw [hm]; exact List.getElem?_set_ne (Ne.symm hj), fun y hy _ => ?_⟩
        · obtain ⟨y, hy, hh⟩ := H.2.2.1
          exact ⟨y, by rw [hm, List.getElem?_set_ne hik]; exact hy, hh⟩
        · rw [hm] at hz
          rcases set_get hz with ⟨-, rfl⟩ | ⟨-, h'⟩
          · exact hr
          · exact H.2.2.2 j z h' hne
        · rw [hm, List.getElem?_set_self hi] at hy
          cases hy
          exact hr'
      rcases H.2.2.2 i x hx hik with ⟨ha, hk⟩ | ⟨hr, ha⟩ | ⟨hr, ha, ht⟩
      · rw [stp_end hx ha]
        exact ⟨H, fun _ _ => rfl, fun y hy _ => by rw [hx] at hy; cases hy; exact Or.inl ⟨ha, hk⟩⟩
      · rw [stp_ld hx (by omega) (mnext_s1 hw hc ha) (Or.inl rfl) H.1.wl, H.2.1]
        refine fin _ _ rfl rfl (H.1.next hx rfl _ _) ?_ ?_
        all_goals
          rw [mres_s1 hw ha, cl_odd h2, if_pos rfl]
          exact Or.inl ⟨rfl, rfl⟩
      · have e := mnext_s2 (l := s.l) hw hc ha
        rw [ht] at e
        rw [stp_no hx (by omega) e H.1.wl (by rw [H.2.1]; omega), H.2.1]
        refine fin _ _ rfl rfl (H.1.next hx rfl _ _) ?_ ?_
        all_goals
          rw [mres_s2 hw ha, if_neg (by simp)]
          exact Or.inr (Or.inl ⟨by omega, rfl⟩)
theorem ShB.mono {s : St} {k r r' : Nat} (H : ShB b k r s) (h : r ≤ r') : ShB b k r' s :=
  ⟨H.1, H.2.1, H.2.2.1, fun i x hx hne => by
    rcases H.2.2.2 i x hx hne with h' | ⟨h', h3⟩ | ⟨h', h3⟩
    · exact Or.inl h'
    · exact Or.inr (Or.inl ⟨by omega, h3⟩)
    · exact Or.inr (Or.inr ⟨by omega, h3⟩)⟩
theorem ShA.pl1 {s : St} (H : ShA b s) (hn : 0 < s.ms.length) (p : List Int) : ∀ j, ShA b (pl1 p s j) ∨ ∃ k, ShB b k 2 (pl1 p s j) := by
  intro j
  induction j with
  | zero => exact Or.inl H
  | succ j ih =>
    rw [Go.Proofs.Ytadaoobdnnleaaa.pl1]
    rcases ih with h | ⟨k, h⟩
    · have hm : ((p.getD j 0) % (s.ms.length : Int)).toNat < (Go.Proofs.Ytadaoobdnnleaaa.pl1 p s j).ms.length := by
        rw [pl1_len]
        have := Int.emod_nonneg (p.getD j 0) (show (s.ms.length : Int) ≠ 0 by omega)
        have := Int.emod_lt_of_pos (p.getD j 0) (show (0 : Int) < s.ms.length by omega)
        omega
      rcases ShA.step h0 h1 h2 h (List.getElem?_eq_getElem hm) with ⟨-, h', -⟩ | ⟨-, h'⟩
      · exact Or.inl h'
      · exact Or.inr ⟨_, h'⟩
    · exact Or.inr ⟨k, (ShB.step h0 h1 h2 h _).1⟩
theorem ShB.pl3 {s : St} {k r : Nat} (H : ShB b k r s) : ∀ i, ShB b k r (pl3 s i) ∧ (∀ j, i ≤ j → (pl3 s i).ms[j]? = s.ms[j]?) ∧ ∀ j, j < i → ∀ y, (pl3 s i).ms[j]? = some y → j ≠ k → ShR b (r - 1) y := by
  intro i
  induction i with
  | zero => exact ⟨H, fun _ _ => rfl, fun j hj => by omega⟩
  | succ i ih =>
    obtain ⟨a1, a2, a3⟩ := ih
    obtain ⟨c1, c2, c3⟩ := ShB.step h0 h1 h2 a1 i
    refine ⟨c1, fun j hj => ?_, fun j hj y hy hne => ?_⟩
    · show (stp (Go.Proofs.Ytadaoobdnnleaaa.pl3 s i) i).ms[j]? = _
      rw [c2 j (by omega), a2 j (by omega)]
    · by_cases hji : j = i
      · subst hji
        exact c3 y hy hne
      · exact a3 j (by omega) y (by rw [← c2 j hji]; exact hy) hne
theorem ShB.turn {s : St} {k r K : Nat} (H : ShB b k r s) (hK : s.ms.length = K) : ShB b k (r - 1) (Go.Proofs.Ytadaoobdnnleaaa.pl3 s K) := by
  obtain ⟨a1, a2, a3⟩ := ShB.pl3 h0 h1 h2 H K
  refine ⟨a1.1, a1.2.1, a1.2.2.1, fun j y hy hne => a3 j ?_ y hy hne⟩
  have := (List.getElem?_eq_some_iff.1 hy).1
  rw [pl3_len] at this
  omega
theorem ShA.turn {s : St} {K : Nat} (H : ShA b s) (hK : s.ms.length = K) : ∀ i, i ≤ K → (∃ k, ShB b k 2 (Go.Proofs.Ytadaoobdnnleaaa.pl3 s i)) ∨ (ShA b (Go.Proofs.Ytadaoobdnnleaaa.pl3 s i) ∧ (0 < i → ∃ y, (Go.Proofs.Ytadaoobdnnleaaa.pl3 s i).ms[0]? = some y ∧ y.at_ = 2)) := by
  intro i
  induction i with
  | zero => exact fun _ => Or.inr ⟨H, fun h => by omega⟩
  | succ i ih =>
    intro hi
    rw [Go.Proofs.Ytadaoobdnnleaaa.pl3]
    rcases ih (by omega) with ⟨k, h⟩ | ⟨h, hz⟩
    · exact Or.inl ⟨k, (ShB.step h0 h1 h2 h i).1⟩
    · have hm : i < (Go.Proofs.Ytadaoobdnnleaaa.pl3 s i).ms.length := by rw [pl3_len]; omega
      rcases ShA.step h0 h1 h2 h (List.getElem?_eq_getElem hm) with ⟨-, h', h2', h3⟩ | ⟨-, h'⟩
      · refine Or.inr ⟨h', fun _ => ?_⟩
        by_cases h00 : i = 0
        · subst h00; exact h2'
        · rw [h3 0 (by omega)]
          exact hz (by omega)
      · exact Or.inl ⟨_, h'⟩
theorem ShA.turn2 {s : St} {K : Nat} (H : ShA b s) (hz : ∃ y, s.ms[0]? = some y ∧ y.at_ = 2) : ∀ i, 0 < i → ∃ k, ShB b k 2 (Go.Proofs.Ytadaoobdnnleaaa.pl3 s i) := by
  intro i
  induction i with
  | zero => exact fun h => by omega
  | succ i ih =>
    intro _
    rw [Go.Proofs.Ytadaoobdnnleaaa.pl3]
    by_cases h00 : i = 0
    · subst h00
      obtain ⟨y, hy, h⟩ := hz
      rcases ShA.step h0 h1 h2 H hy with ⟨h', -⟩ | ⟨-, h'⟩
      · omega
      · exact ⟨_, h'⟩
    · obtain ⟨k, h⟩ := ih (by omega)
      exact ⟨k, (ShB.step h0 h1 h2 h i).1⟩
/-- Behind the play one has won, all others have lost. -/
theorem ShA.plays {s : St} (H : ShA b s) (hn : 0 < s.ms.length) (p : List Int) (most turns : Nat) (ht : 4 ≤ turns) : ∃ k, ShB b k 0 (plays p most turns s) := by
  rw [Go.Proofs.Ytadaoobdnnleaaa.plays]
  have hl : (Go.Proofs.Ytadaoobdnnleaaa.pl1 p s (min p.length most)).ms.length = s.ms.length := pl1_len _ _ _
  have g := ShA.pl1 h0 h1 h2 H hn p (min p.length most)
  generalize Go.Proofs.Ytadaoobdnnleaaa.pl1 p s (min p.length most) = s1 at *
  have L : ∀ n, (pl2 s.ms.length s1 n).ms.length = s.ms.length := by
    intro n
    induction n with
    | zero => exact hl
    | succ n ih => rw [pl2, pl3_len, ih]
  have t1 : (∃ k, ShB b k 2 (pl2 s.ms.length s1 1)) ∨ (ShA b (pl2 s.ms.length s1 1) ∧ ∃ y, (pl2 s.ms.length s1 1).ms[0]? = some y ∧ y.at_ = 2) := by
    rw [pl2, pl2]
    rcases g with h | ⟨k, h⟩
    · rcases ShA.turn h0 h1 h2 h hl s.ms.length (Nat.le_refl _) with h' | ⟨h', h3⟩
      · exact Or.inl h'
      · exact Or.inr ⟨h', h3 hn⟩
    · exact Or.inl ⟨k, ShB.mono h0 h1 h2 (ShB.turn h0 h1 h2 h hl) (show 2 - 1 ≤ 2 by omega)⟩
  have t2 : ∃ k, ShB b k 2 (pl2 s.ms.length s1 2) := by
    rw [show pl2 s.ms.length s1 2 = pl3 (pl2 s.ms.length s1 1) s.ms.length from rfl]
    rcases t1 with ⟨k, h⟩ | ⟨h, hz⟩
    · exact ⟨k, ShB.mono h0 h1 h2 (ShB.turn h0 h1 h2 h (L 1)) (show 2 - 1 ≤ 2 by omega)⟩
    · exact ShA.turn2 h0 h1 h2 (K := s.ms.length) h hz _ hn
  obtain ⟨k, h⟩ := t2
  have key : ∀ n, ShB b k (2 - n) (pl2 s.ms.length s1 (2 + n)) := by
    intro n
    induction n with
    | zero => exact h
    | succ n ih =>
      have := ShB.turn h0 h1 h2 ih (L _)
      rw [show 2 - n - 1 = 2 - (n + 1) by omega] at this
      exact this
  have := key (turns - 2)
  rw [show 2 - (turns - 2) = 0 by omega, show 2 + (turns - 2) = turns by omega] at this
  exact ⟨k, this⟩
end
theorem ShB.all {b : Int} {k : Nat} {s : St} (H : ShB b k 0 s) {i : Nat} {x : Mc} (hx : s.ms[i]? = some x) : x.at_ = 0 ∧ (i = k ∧ x.ok = 1 ∨ i ≠ k ∧ x.ok = 4) := by
  by_cases e : i = k
  · subst e
    obtain ⟨y, hy, h0, h1⟩ := H.2.2.1
    rw [hx] at hy
    cases hy
    exact ⟨h0, Or.inl ⟨rfl, h1⟩⟩
  · rcases H.2.2.2 i x hx e with ⟨h0, h1⟩ | ⟨h, -⟩ | ⟨h, -⟩
    · exact ⟨h0, Or.inr ⟨e, h1⟩⟩
    · omega
    · omega
end Go.Proofs.Ytadaoobdnnleaaa
