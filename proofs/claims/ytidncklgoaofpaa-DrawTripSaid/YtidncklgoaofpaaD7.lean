/- Plain laws: which lists are permutations; draws read back from a permutation. -/
import Derived.Test.YtidncklgoaofpaaD3
namespace Go.Proofs.Ytidncklgoaofpaa
open Go.RowKit
set_option linter.unusedVariables false

theorem pswp (l : List Int) (i d : Nat) (hi : i < l.length) (hd : d < l.length) : (swp l i d).Perm l := by
  unfold swp
  have e1 : l.getD d 0 = l[d] := by simp [List.getD, List.getElem?_eq_getElem hd]
  have e2 : l.getD i 0 = l[i] := by simp [List.getD, List.getElem?_eq_getElem hi]
  rw [e1, e2]
  exact List.set_set_perm hi hd
theorem pord (ds : List Int) (i : Nat) (l : List Int) (hi : i < l.length) : (ord ds i l).Perm l := by
  induction i generalizing l with
  | zero => exact List.Perm.refl _
  | succ i ih =>
    rw [ord]
    have hd := dr_le ds (i + 1)
    exact (ih _ (by rw [swp_len]; omega)).trans (pswp l _ _ hi (by omega))
theorem midl (n : Nat) (x : Int) : x ∈ idl n ↔ 0 ≤ x ∧ x < n := by
  unfold idl
  rw [List.mem_map]
  constructor
  · rintro ⟨k, hk, rfl⟩
    rw [List.mem_range] at hk
    omega
  · rintro ⟨h1, h2⟩
    exact ⟨x.toNat, List.mem_range.2 (by omega), by omega⟩
theorem ndidl (n : Nat) : (idl n).Nodup := by
  unfold idl
  refine List.pairwise_map.2 ((List.nodup_range (n := n)).imp ?_)
  intro a b h e
  exact h (by omega)
theorem perm_of_sub (a : List Int) : ∀ b : List Int, a.Nodup → (∀ x ∈ a, x ∈ b) → b.length ≤ a.length → b.Perm a := by
  induction a with
  | nil =>
    intro b _ _ h
    have : b = [] := List.eq_nil_of_length_eq_zero (by simpa using h)
    subst this
    exact .refl _
  | cons x a ih =>
    intro b hn hs hl
    have hx := hs x (by simp)
    refine (List.perm_cons_erase hx).trans (.cons x (ih _ (List.nodup_cons.1 hn).2 ?_ ?_))
    · intro y hy
      have hne : y ≠ x := by
        rintro rfl
        exact (List.nodup_cons.1 hn).1 hy
      exact (List.mem_erase_of_ne hne).2 (hs y (by simp [hy]))
    · rw [List.length_erase_of_mem hx]
      simp at hl
      omega
def isPB (o : List Int) : Bool := (idl o.length).all fun x => o.contains x
theorem isPB_iff (o : List Int) : isPB o = true ↔ o.Perm (idl o.length) := by
  unfold isPB
  rw [List.all_eq_true]
  constructor
  · intro h
    exact perm_of_sub _ _ (ndidl _) (fun x hx => by simpa using h x hx) (by rw [idl_len]; exact Nat.le_refl _)
  · intro h x hx
    simpa using h.mem_iff.2 hx
theorem isPB_range {o : List Int} (h : isPB o = true) : (∀ x ∈ o, 0 ≤ x ∧ x < o.length) ∧ o.Nodup := by
  have h := (isPB_iff o).1 h
  exact ⟨fun x hx => (midl _ x).1 (h.mem_iff.1 hx), h.nodup_iff.2 (ndidl _)⟩
theorem isPB_of {o : List Int} (h1 : ∀ x ∈ o, 0 ≤ x ∧ x < o.length) (h2 : o.Nodup) : isPB o = true :=
  (isPB_iff o).2 (perm_of_sub o (idl o.length) h2 (fun x hx => (midl _ _).2 (h1 x hx)) (by rw [idl_len]; exact Nat.le_refl _)).symm

/-! ### Where an element stands -/
def idx (l : List Int) (x : Int) : Nat := l.findIdx (· == x)
theorem idx_le (l : List Int) (x : Int) : idx l x ≤ l.length := List.findIdx_le_length
theorem idx_lt {l : List Int} {x : Int} (h : x ∈ l) : idx l x < l.length := List.findIdx_lt_length_of_exists ⟨x, h, by simp⟩
theorem idx_mem {l : List Int} {x : Int} (h : idx l x < l.length) : x ∈ l := by
  have := List.findIdx_getElem (xs := l) (p := (· == x)) (w := h)
  simp only [beq_iff_eq] at this
  rw [← this]
  exact List.getElem_mem _
theorem idx_at {l : List Int} {x : Int} (h : idx l x < l.length) : l.getD (idx l x) 0 = x := by
  have e := List.findIdx_getElem (xs := l) (p := (· == x)) (w := h)
  simp only [beq_iff_eq] at e
  rw [List.getD, List.getElem?_eq_getElem h]
  exact e
theorem idx_before {l : List Int} {x : Int} {j : Nat} (h : j < idx l x) : l.getD j 0 ≠ x := by
  have e := List.not_of_lt_findIdx (xs := l) (p := (· == x)) h
  have hl : j < l.length := Nat.lt_of_lt_of_le h (idx_le l x)
  rw [List.getD, List.getElem?_eq_getElem hl]
  simpa using e
theorem idx_eq {l : List Int} {k : Nat} (hk : k < l.length) (hn : l.Nodup) : idx l (l.getD k 0) = k := by
  have e : l.getD k 0 = l[k] := by simp [List.getD, List.getElem?_eq_getElem hk]
  have hlt : idx l (l.getD k 0) < l.length := idx_lt (by rw [e]; exact List.getElem_mem _)
  have h := idx_at hlt
  rw [List.getD, List.getElem?_eq_getElem hlt, Option.getD_some] at h
  generalize idx l (l.getD k 0) = j at hlt h
  rw [e] at h
  rcases Nat.lt_trichotomy j k with h1 | h1 | h1
  · exact absurd h (List.pairwise_iff_getElem.1 hn j k hlt hk h1)
  · exact h1
  · exact absurd h.symm (List.pairwise_iff_getElem.1 hn k j hk hlt h1)

/-! ### The draws of a permutation -/
def unord (o : List Int) : Nat → List Int → List Int → List Int
  | 0, _, out => out
  | i + 1, l, out => unord o i (swp l (i + 1) (idx l (o.getD (i + 1) 0))) (out.set (i + 1) (idx l (o.getD (i + 1) 0) : Nat))
def drsL (o : List Int) : List Int := unord o (o.length - 1) (idl o.length) (List.replicate o.length 0)
def drsB (o : List Int) : Bool := decide (o.length ≤ 20) && isPB o
def drsO (o : List Int) : List Int := if drsB o then drsL o else []
theorem unord_len (o : List Int) (i : Nat) (l out : List Int) : (unord o i l out).length = out.length := by
  induction i generalizing l out with
  | zero => rfl
  | succ i ih => rw [unord, ih, List.length_set]
theorem drsL_len (o : List Int) : (drsL o).length = o.length := by unfold drsL; rw [unord_len]; simp
theorem unord_step (o : List Int) (i : Nat) (l out : List Int) (h : 1 ≤ i) : unord o i l out = unord o (i - 1) (swp l i (idx l (o.getD i 0))) (out.set i (idx l (o.getD i 0) : Nat)) := by
  obtain ⟨j, rfl⟩ : ∃ j, i = j + 1 := ⟨i - 1, by omega⟩
  rfl
theorem getD_set (l : List Int) (i j : Nat) (x : Int) (h : i < l.length) : (l.set i x).getD j 0 = if i = j then x else l.getD j 0 := by
  by_cases e : i = j
  · subst e; simp [List.getD, List.getElem?_set_self h]
  · simp [List.getD, List.getElem?_set_ne e, e]
theorem swp_at (l : List Int) (i d : Nat) (hi : i < l.length) (hd : d < l.length) : (swp l i d).getD i 0 = l.getD d 0 := by
  unfold swp
  rw [getD_set _ _ _ _ (by rw [List.length_set]; exact hd), getD_set _ _ _ _ hi]
  by_cases e : d = i
  · rw [if_pos e, e]
  · rw [if_neg e, if_pos rfl]
theorem swp_high (l : List Int) (i d j : Nat) (hi : i < l.length) (hd : d ≤ i) (hj : i < j) : (swp l i d).getD j 0 = l.getD j 0 := by
  unfold swp
  rw [getD_set _ _ _ _ (by rw [List.length_set]; omega), if_neg (by omega), getD_set _ _ _ _ hi, if_neg (by omega)]
theorem ord_high (ds : List Int) (i : Nat) (l : List Int) (j : Nat) (hi : i < l.length) (hj : i < j) : (ord ds i l).getD j 0 = l.getD j 0 := by
  induction i generalizing l with
  | zero => rfl
  | succ i ih =>
    have hd := dr_le ds (i + 1)
    rw [ord, ih _ (by rw [swp_len]; omega) (by omega), swp_high l _ _ _ hi hd hj]
theorem unord_ord (ds : List Int) (i : Nat) : ∀ now out : List Int, now.Nodup → i < now.length → out.length = now.length →
    ∀ j, (unord (ord ds i now) i now out).getD j 0 = if 1 ≤ j ∧ j ≤ i then (dr ds j : Int) else out.getD j 0 := by
  induction i with
  | zero => intro now out _ _ _ j; rw [unord, if_neg (by omega)]
  | succ i ih =>
    intro now out hn hi ho j
    have hd := dr_le ds (i + 1)
    have e : (ord ds (i + 1) now).getD (i + 1) 0 = now.getD (dr ds (i + 1)) 0 := by
      rw [ord, ord_high _ _ _ _ (by rw [swp_len]; omega) (by omega), swp_at now _ _ hi (by omega)]
    rw [unord, e, idx_eq (by omega) hn, ord]
    have hp := pswp now (i + 1) (dr ds (i + 1)) hi (by omega)
    rw [ih _ _ (hp.nodup_iff.2 hn) (by rw [swp_len]; omega) (by rw [List.length_set, swp_len]; exact ho), getD_set _ _ _ _ (by omega)]
    by_cases h1 : 1 ≤ j ∧ j ≤ i
    · rw [if_pos h1, if_pos (by omega)]
    · rw [if_neg h1]
      by_cases h2 : i + 1 = j
      · rw [if_pos h2, if_pos (by omega), h2]
      · rw [if_neg h2, if_neg (by omega)]
theorem list_ext0 {l l' : List Int} (h : l.length = l'.length) (hd : ∀ j, j < l.length → l.getD j 0 = l'.getD j 0) : l = l' := by
  refine List.ext_getElem h fun j h1 h2 => ?_
  have := hd j h1
  simpa [List.getD, List.getElem?_eq_getElem h1, List.getElem?_eq_getElem h2] using this
theorem trip (n : Nat) (ds : List Int) (h1 : 1 ≤ n) (hl : ds.length = n) (hv : ∀ j, j < n → 0 ≤ ds.getD j 0 ∧ ds.getD j 0 ≤ j) : drsL (ord ds (n - 1) (idl n)) = ds := by
  have hlen : (ord ds (n - 1) (idl n)).length = n := by rw [ord_len, idl_len]
  unfold drsL
  rw [hlen]
  refine list_ext0 (by rw [unord_len]; simpa using hl.symm) fun j hj => ?_
  rw [unord_len, List.length_replicate] at hj
  rw [unord_ord ds (n - 1) (idl n) _ (ndidl n) (by rw [idl_len]; omega) (by rw [idl_len]; simp)]
  have hvj := hv j hj
  by_cases h0 : 1 ≤ j ∧ j ≤ n - 1
  · rw [if_pos h0, dr_in ds j (by omega)]
    exact Int.emod_eq_of_lt hvj.1 (by omega)
  · rw [if_neg h0]
    obtain rfl : j = 0 := by omega
    rw [List.getD, List.getElem?_replicate, if_pos hj]
    simp only [Option.getD_some]
    omega
theorem ord_isPB (n : Nat) (ds : List Int) (h1 : 1 ≤ n) : isPB (ord ds (n - 1) (idl n)) = true := by
  rw [isPB_iff, ord_len, idl_len]
  exact pord _ _ _ (by rw [idl_len]; omega)
theorem drawsL_in (r : List Int) (n j : Nat) (h : j < n) : 0 ≤ (drawsL r n).getD j 0 ∧ (drawsL r n).getD j 0 ≤ j := by
  unfold drawsL
  rw [List.getD, List.getElem?_map, List.getElem?_range h]
  have := codeV_bd (r.drop j) ((j : Int) + 1) (by omega)
  simp only [Option.map_some, Option.getD_some]
  omega
end Go.Proofs.Ytidncklgoaofpaa
