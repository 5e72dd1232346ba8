/- Plain laws: an order is a permutation; the measure of rounds, and of parts. -/
import Derived.Test.YtidncklgoaofpaaD4
import Derived.Test.YtidncklgoaofpaaW19
namespace Go.Proofs.Ytidncklgoaofpaa
open Go.RowKit
set_option linter.unusedVariables false

theorem swp_perm (l : List Int) (i d : Nat) (hi : i < l.length) (hd : d < l.length) : (swp l i d).Perm l := by
  unfold swp
  have e1 : l.getD d 0 = l[d] := by simp [List.getD, List.getElem?_eq_getElem hd]
  have e2 : l.getD i 0 = l[i] := by simp [List.getD, List.getElem?_eq_getElem hi]
  rw [e1, e2]
  exact List.set_set_perm hi hd
theorem ord_perm (ds : List Int) (i : Nat) (l : List Int) (hi : i < l.length) : (ord ds i l).Perm l := by
  induction i generalizing l with
  | zero => exact List.Perm.refl _
  | succ i ih =>
    rw [ord]
    have hd := dr_le ds (i + 1)
    exact (ih _ (by rw [swp_len]; omega)).trans (swp_perm l _ _ hi (by omega))
theorem idl_mem (n : Nat) (x : Int) : x ∈ idl n ↔ 0 ≤ x ∧ x < n := by
  unfold idl
  rw [List.mem_map]
  constructor
  · rintro ⟨k, hk, rfl⟩
    rw [List.mem_range] at hk
    omega
  · rintro ⟨h1, h2⟩
    exact ⟨x.toNat, List.mem_range.2 (by omega), by omega⟩
theorem idl_nodup (n : Nat) : (idl n).Nodup := by
  unfold idl
  refine List.pairwise_map.2 ((List.nodup_range (n := n)).imp ?_)
  intro a b h e
  exact h (by omega)
theorem order_perm (ds : List Int) (n : Nat) (h : 1 ≤ n) : (ord ds (n - 1) (idl n)).Perm (idl n) := ord_perm _ _ _ (by rw [idl_len]; omega)
theorem rnd_perm (t : Nat) (k : Int) (h1 : 1 ≤ t) (h8 : t ≤ 8) : (rnd t k).Perm (idl t) := by
  unfold rnd ordr
  rw [if_neg (by omega), if_neg (by omega), Int.toNat_natCast]
  exact order_perm _ _ h1
theorem rnd_in (t : Nat) (k : Int) (h1 : 1 ≤ t) (h8 : t ≤ 8) : (∀ x ∈ rnd t k, 0 ≤ x ∧ x < t) ∧ (rnd t k).Nodup ∧ (rnd t k).length = t := by
  have h := rnd_perm t k h1 h8
  refine ⟨fun x hx => (idl_mem t x).1 (h.mem_iff.1 hx), h.nodup_iff.2 (idl_nodup t), ?_⟩
  rw [h.length_eq, idl_len]

/-! ### The measure of rounds -/
theorem getD_set_ne (s : List Bool) (a b : Nat) (v : Bool) (h : a ≠ b) : (s.set a v).getD b false = s.getD b false := by
  simp [List.getD, List.getElem?_set_ne h]
theorem getD_set_eq (s : List Bool) (a : Nat) (h : a < s.length) : (s.set a true).getD a false = true := by
  simp [List.getD, List.getElem?_set_self h]
theorem ms_round (t : Nat) (p : List Int) : ∀ (rest : List Int) (seen : List Bool) (n parts : Int), (∀ x ∈ p, 0 ≤ x ∧ x < t ∧ seen.getD x.toNat false = false) → p.Nodup → n + p.length = t → 1 ≤ p.length →
    ms t (p ++ rest) seen n parts = ms t rest noneSeen 0 (parts + 1) := by
  induction p with
  | nil => intro rest seen n parts _ _ _ h; simp at h
  | cons x p ih =>
    intro rest seen n parts hx hnd hn _
    obtain ⟨x0, x1, x2⟩ := hx x (by simp)
    rw [List.cons_append, ms, if_neg (by rw [x2]; simp; omega)]
    rw [List.length_cons] at hn
    by_cases hp : p.length = 0
    · rw [if_pos (by omega)]
      have : p = [] := List.eq_nil_of_length_eq_zero hp
      subst this
      rfl
    · rw [if_neg (by omega)]
      refine ih rest _ _ _ ?_ (List.nodup_cons.1 hnd).2 (by omega) (by omega)
      intro y hy
      obtain ⟨y0, y1, y2⟩ := hx y (by simp [hy])
      refine ⟨y0, y1, ?_⟩
      rw [getD_set_ne]
      · exact y2
      · intro e
        have : x = y := by omega
        subst this
        exact (List.nodup_cons.1 hnd).1 hy
theorem none_at (i : Nat) : noneSeen.getD i false = false := by
  unfold noneSeen
  rw [List.getD, List.getElem?_replicate]
  split <;> rfl
theorem ms_rounds (t : Nat) (h1 : 1 ≤ t) (h8 : t ≤ 8) (ks : List Int) : ∀ parts, ms t (rnds t ks) noneSeen 0 parts = parts + ks.length := by
  induction ks with
  | nil => intro parts; simp [rnds, ms]
  | cons k ks ih =>
    intro parts
    obtain ⟨h2, h3, h4⟩ := rnd_in t k h1 h8
    have e : rnds t (k :: ks) = rnd t k ++ rnds t ks := by unfold rnds; simp
    rw [e, ms_round t _ _ _ _ _ (fun x hx => ⟨(h2 x hx).1, (h2 x hx).2, none_at _⟩) h3 (by omega) (by omega), ih]
    simp
    omega
theorem msr_rounds (t : Nat) (h1 : 1 ≤ t) (h8 : t ≤ 8) (ks : List Int) : msr t (rnds t ks) = ks.length := by
  unfold msr
  rw [if_neg (by omega), ms_rounds t h1 h8]
  simp

/-! ### The measure of parts -/
def cB (s : List Bool) : Nat → Nat
  | 0 => 0
  | t + 1 => cB s t + (if s.getD t false then 1 else 0)
theorem cB_set_ge (s : List Bool) (p : Nat) : ∀ t, t ≤ p → cB (s.set p true) t = cB s t := by
  intro t
  induction t with
  | zero => intro _; rfl
  | succ t ih => intro h; rw [cB, cB, ih (by omega), getD_set_ne _ _ _ _ (by omega)]
theorem cB_set (s : List Bool) (p : Nat) (hp : p < s.length) (hn : s.getD p false = false) : ∀ t, p < t → cB (s.set p true) t = cB s t + 1 := by
  intro t
  induction t with
  | zero => intro h; omega
  | succ t ih =>
    intro h
    rw [cB, cB]
    by_cases e : p = t
    · subst e
      rw [cB_set_ge s p p (Nat.le_refl _), getD_set_eq s p hp, hn]
      simp
    · rw [ih (by omega), getD_set_ne _ _ _ _ e]
      omega
theorem cB_mono (s1 s2 : List Bool) (h : ∀ i, s1.getD i false = true → s2.getD i false = true) : ∀ t, cB s1 t ≤ cB s2 t := by
  intro t
  induction t with
  | zero => exact Nat.le_refl _
  | succ t ih =>
    rw [cB, cB]
    by_cases e : s1.getD t false = true
    · rw [e, h t e]; simp; exact ih
    · simp only [Bool.not_eq_true] at e
      rw [e]; simp; omega
theorem cB_none : ∀ t, cB noneSeen t = 0 := by
  intro t
  induction t with
  | zero => rfl
  | succ t ih => rw [cB, ih, none_at]; rfl
/-- A state that a measuring passes through. -/
def Ok (t : Nat) (s : List Bool) (n : Int) : Prop := s.length = 8 ∧ n = cB s t ∧ cB s t < t
theorem Ok.none (t : Nat) (h : 1 ≤ t) : Ok t noneSeen 0 := ⟨by unfold noneSeen; simp, by rw [cB_none]; rfl, by rw [cB_none]; omega⟩
theorem Ok.set {t : Nat} {s : List Bool} {n : Int} {p : Nat} (h : Ok t s n) (hp : p < t) (h8 : t ≤ 8) (hn : s.getD p false = false) (hne : ¬ n + 1 = t) : Ok t (s.set p true) (n + 1) := by
  obtain ⟨h1, h2, h3⟩ := h
  have e := cB_set s p (by omega) hn t hp
  exact ⟨by simpa using h1, by omega, by omega⟩
theorem rep_no {i : Nat} (h : (List.replicate 8 false).getD i false = true) : False := by
  have := none_at i
  unfold noneSeen at this
  rw [this] at h
  cases h
theorem ms_mono (t : Nat) (h1 : 1 ≤ t) (h8 : t ≤ 8) (l : List Int) : ∀ (s1 s2 : List Bool) (n1 n2 p1 p2 : Int), Ok t s1 n1 → Ok t s2 n2 →
    (p1 + 1 ≤ p2 ∨ (p1 ≤ p2 ∧ ∀ i, s1.getD i false = true → s2.getD i false = true)) → ms t l s1 n1 p1 ≤ ms t l s2 n2 p2 := by
  induction l with
  | nil => intro s1 s2 n1 n2 p1 p2 _ _ h; rw [ms, ms]; omega
  | cons x l ih =>
    intro s1 s2 n1 n2 p1 p2 o1 o2 h
    rw [ms, ms]
    by_cases hr : x < 0 ∨ (t : Int) ≤ x
    · have h1' : x < 0 ∨ (t : Int) ≤ x ∨ s1.getD x.toNat false = true := by omega
      have h2' : x < 0 ∨ (t : Int) ≤ x ∨ s2.getD x.toNat false = true := by omega
      rw [if_pos h1', if_pos h2']
      exact ih _ _ _ _ _ _ o1 o2 h
    have hx0 : x.toNat < t := by omega
    have m12 := fun hs => cB_mono s1 s2 hs t
    have k1 := fun hn => cB_set s1 x.toNat (by have := o1.1; omega) hn t hx0
    have k2 := fun hn => cB_set s2 x.toNat (by have := o2.1; omega) hn t hx0
    obtain ⟨l1, c1, d1⟩ := id o1
    obtain ⟨l2, c2, d2⟩ := id o2
    have nf : ¬ (x < 0 ∨ (t : Int) ≤ x ∨ (false : Bool) = true) := by simp; omega
    have yf : x < 0 ∨ (t : Int) ≤ x ∨ (true : Bool) = true := by simp
    rcases a1 : s1.getD x.toNat false with _ | _ <;> rcases a2 : s2.getD x.toNat false with _ | _
    · rw [if_neg nf, if_neg nf]
      by_cases e1 : n1 + 1 = t <;> by_cases e2 : n2 + 1 = t
      · rw [if_pos e1, if_pos e2]
        exact ih _ _ _ _ _ _ (Ok.none t h1) (Ok.none t h1) (by rcases h with h | h; exact .inl (by omega); exact .inr ⟨by omega, fun i hi => hi⟩)
      · rw [if_pos e1, if_neg e2]
        rcases h with h | ⟨h, hs⟩
        · exact ih _ _ _ _ _ _ (Ok.none t h1) (o2.set hx0 h8 a2 e2) (.inr ⟨by omega, fun i hi => (rep_no hi).elim⟩)
        · have := m12 hs
          omega
      · rw [if_neg e1, if_pos e2]
        exact ih _ _ _ _ _ _ (o1.set hx0 h8 a1 e1) (Ok.none t h1) (.inl (by omega))
      · rw [if_neg e1, if_neg e2]
        refine ih _ _ _ _ _ _ (o1.set hx0 h8 a1 e1) (o2.set hx0 h8 a2 e2) ?_
        rcases h with h | ⟨h, hs⟩
        · exact .inl h
        · refine .inr ⟨h, fun i hi => ?_⟩
          by_cases ei : x.toNat = i
          · subst ei; exact getD_set_eq _ _ (by omega)
          · rw [getD_set_ne _ _ _ _ ei] at hi ⊢; exact hs i hi
    · rw [if_neg nf, if_pos yf]
      by_cases e1 : n1 + 1 = t
      · rw [if_pos e1]
        rcases h with h | ⟨h, hs⟩
        · exact ih _ _ _ _ _ _ (Ok.none t h1) o2 (.inr ⟨by omega, fun i hi => (rep_no hi).elim⟩)
        · have hm := cB_mono (s1.set x.toNat true) s2 (fun i hi => by
            by_cases ei : x.toNat = i
            · subst ei; exact a2
            · rw [getD_set_ne _ _ _ _ ei] at hi; exact hs i hi) t
          have := k1 a1
          omega
      · rw [if_neg e1]
        refine ih _ _ _ _ _ _ (o1.set hx0 h8 a1 e1) o2 ?_
        rcases h with h | ⟨h, hs⟩
        · exact .inl h
        · refine .inr ⟨h, fun i hi => ?_⟩
          by_cases ei : x.toNat = i
          · subst ei; exact a2
          · rw [getD_set_ne _ _ _ _ ei] at hi; exact hs i hi
    · rw [if_pos yf, if_neg nf]
      have h' : p1 + 1 ≤ p2 := by
        rcases h with h | ⟨h, hs⟩
        · exact h
        · have := hs _ a1
          rw [a2] at this
          cases this
      by_cases e2 : n2 + 1 = t
      · rw [if_pos e2]; exact ih _ _ _ _ _ _ o1 (Ok.none t h1) (.inl (by omega))
      · rw [if_neg e2]; exact ih _ _ _ _ _ _ o1 (o2.set hx0 h8 a2 e2) (.inl h')
    · rw [if_pos yf, if_pos yf]
      exact ih _ _ _ _ _ _ o1 o2 h
theorem ms_add (t : Int) (l : List Int) : ∀ s n p q, ms t l s n (p + q) = p + ms t l s n q := by
  induction l with
  | nil => intro s n p q; rw [ms, ms]
  | cons x l ih =>
    intro s n p q
    rw [ms, ms]
    split
    · exact ih _ _ _ _
    · split
      · rw [show p + q + 1 = p + (q + 1) by omega, ih]
      · exact ih _ _ _ _
theorem ms_app (t : Nat) (h1 : 1 ≤ t) (h8 : t ≤ 8) (l : List Int) : ∀ (s : List Bool) (n p : Int), Ok t s n → ∃ s' n', Ok t s' n' ∧ ∀ r, ms t (l ++ r) s n p = ms t r s' n' (ms t l s n p) := by
  induction l with
  | nil => intro s n p o; exact ⟨s, n, o, fun r => by rw [List.nil_append, ms]⟩
  | cons x l ih =>
    intro s n p o
    by_cases hr : x < 0 ∨ (t : Int) ≤ x ∨ s.getD x.toNat false = true
    · obtain ⟨s', n', o', e⟩ := ih s n p o
      refine ⟨s', n', o', fun r => ?_⟩
      rw [List.cons_append, ms, if_pos hr, ms, if_pos hr, e]
    · by_cases e1 : n + 1 = t
      · obtain ⟨s', n', o', e⟩ := ih noneSeen 0 (p + 1) (Ok.none t h1)
        refine ⟨s', n', o', fun r => ?_⟩
        rw [List.cons_append, ms, if_neg hr, if_pos e1, ms, if_neg hr, if_pos e1]
        exact e r
      · obtain ⟨s', n', o', e⟩ := ih (s.set x.toNat true) (n + 1) p (o.set (by omega) h8 (by simpa using fun h => hr (.inr (.inr h))) e1)
        refine ⟨s', n', o', fun r => ?_⟩
        rw [List.cons_append, ms, if_neg hr, if_neg e1, ms, if_neg hr, if_neg e1]
        exact e r
theorem msr_parts (t : Nat) (h1 : 1 ≤ t) (h8 : t ≤ 8) (l : List Int) (k : Nat) : msr t (l.take k) + msr t (l.drop k) ≤ msr t l := by
  unfold msr
  rw [if_neg (by omega), if_neg (by omega), if_neg (by omega)]
  obtain ⟨s', n', o', e⟩ := ms_app t h1 h8 (l.take k) noneSeen 0 0 (Ok.none t h1)
  have e2 := e (l.drop k)
  rw [List.take_append_drop] at e2
  rw [e2]
  have h := ms_mono t h1 h8 (l.drop k) noneSeen s' 0 n' (ms t (l.take k) noneSeen 0 0) (ms t (l.take k) noneSeen 0 0) (Ok.none t h1) o' (.inr ⟨Int.le_refl _, fun i hi => (rep_no hi).elim⟩)
  have h2 := ms_add t (l.drop k) noneSeen 0 (ms t (l.take k) noneSeen 0 0) 0
  rw [Int.add_zero] at h2
  rw [h2] at h
  exact h
end Go.Proofs.Ytidncklgoaofpaa
