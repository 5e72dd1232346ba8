/- A configuration whose first capacity is set anew. -/
import Derived.Test.YtepngbdjobckbaaGreatG1
import Derived.Test.YtepngbdjobckbaaGreatY1
import Derived.Laws.OwnMore
import Derived.Deep.AppendLies
namespace Go.Proofs.YtepngbdjobckbaaGreat
open Go.RowKit
set_option linter.unusedVariables false
theorem config_own (w : World) (g : Nat) (r : List Int) (v : Int) (h : Cd w g r v) :
    Calls Tryz.prog 20 #[.pointer (some ⟨g, 0, none⟩)] w fun e w' => ∃ (gA n c : Nat) (B : Option Addr) (d tn : Nat) (l s r' : List Int), e = .returned (.agg #[.slice (some ⟨gA, 0, none⟩) n c, .slice B n d, .int .i64 tn]) ∧ w.heap.size ≤ gA ∧ w'.ownsRow w.heap.size 3 1 (.slice (some ⟨gA, 0, none⟩) n c) n (l.map (Value.int .i64)) ∧ l.length = n ∧ (∀ x ∈ l, 0 ≤ x ∧ x ≤ 16) ∧ IsI .u64 w' B n s ∧ TyA w' B n 42 ∧ 1 ≤ n ∧ n ≤ 3 ∧ s.length = n ∧ (∀ x ∈ s, 0 ≤ x ∧ x < 9223372036854775808) ∧ 2 ≤ tn ∧ tn ≤ 4 ∧ Cd w' g r' v ∧ w.grownBy w' (some g) := by
  refine (config_any w g r v h).mono ?_
  rintro e w' ⟨u1, u2, t, l, s, r', rfl, hr, h1, h2, h3, h4, h5, h6, h7, h8, h9⟩
  have o1 := hr.at_ 0 (Nat.succ_pos _)
  have o2 := hr.at_ 1 (by show 1 < 2; omega)
  have o1' : w'.ownsRow w.heap.size 3 1 u1 l.length (l.map (Value.int .i64)) := o1
  have o2' : w'.ownsRow w.heap.size 42 1 u2 s.length (s.map (Value.int .u64)) := o2
  obtain ⟨gA, C, rfl, hgA, -⟩ := o1'.form (by omega)
  obtain ⟨B, D, rfl, -⟩ := own_form o2'
  obtain ⟨tn, rfl⟩ := Int.eq_ofNat_of_zero_le (show 0 ≤ t by omega)
  refine ⟨gA, l.length, C, B, D, tn, l, s, r', by rw [h3], hgA, o1', rfl, fun x hx => ?_, by have := IsI.of_own o2'; rwa [h3] at this, by have := TyA.of_own o2'; rwa [h3] at this, h1, h2, h3, sta_bd h5, by omega, by omega, h8, h9⟩
  have := h4 x hx
  omega
/-- The first capacity is set. -/
theorem cap_set {w : World} {gA n c base : Nat} {l : List Int} (h : w.ownsRow base 3 1 (.slice (some ⟨gA, 0, none⟩) n c) n (l.map (Value.int .i64))) (hl : l.length = n) (hn : n ≤ 8) (hb : ∀ x ∈ l, 0 ≤ x ∧ x ≤ 16) {v : Int} (hv : 0 ≤ v ∧ v ≤ 16) :
    Cf (w.setCell ⟨gA, 0, none⟩ (.int .i64 v)) (some ⟨gA, 0, none⟩) n (l.set 0 v) ∧ TyA (w.setCell ⟨gA, 0, none⟩ (.int .i64 v)) (some ⟨gA, 0, none⟩) n 3 ∧ ∀ T, T ≠ 3 → Kp w (w.setCell ⟨gA, 0, none⟩ (.int .i64 v)) T := by
  have h2 := own_sets [Value.int .i64 v] 0 h
  have e : setL (l.map (Value.int .i64)) 0 [Value.int .i64 v] = (l.set 0 v).map (Value.int .i64) := by rw [List.map_set]; rfl
  rw [e] at h2
  have h3 : (w.setCell ⟨gA, 0, none⟩ (.int .i64 v)).ownsRow base 3 1 (.slice (some ⟨gA, 0, none⟩) n c) n ((l.set 0 v).map (Value.int .i64)) := h2
  have hl2 : (l.set 0 v).length = n := by rw [List.length_set, hl]
  rw [← hl2] at h3
  refine ⟨⟨by have := IsI.of_own h3; rwa [hl2] at this, hn, fun x hx => ?_⟩, by have := TyA.of_own h3; rwa [hl2] at this, fun T hT => kp_own h hT 0 [Value.int .i64 v]⟩
  rcases List.mem_or_eq_of_mem_set hx with h | rfl
  · exact hb x h
  · exact hv
/-- What the machines of a ring are drawn as. -/
structure OthOk (most : Nat) (l s : List Int) (tn : Nat) (ms : List Mc) : Prop where
  c : 1 ≤ l.getD 0 0 ∧ l.getD 0 0 ≤ 4
  n : 1 ≤ l.length ∧ l.length ≤ 3
  sn : s.length = l.length
  sb : ∀ x ∈ s, 0 ≤ x ∧ x < 9223372036854775808
  t : 2 ≤ tn ∧ tn ≤ 4
  k : ms.length ≤ most
  ms : ∀ x ∈ ms, ∃ (wh : Nat) (v : Int), 3 ≤ wh ∧ wh ≤ 6 ∧ u64 v ∧ x = mc0 wh 0 0 v
def kindsI : List Int := [3, 3, 4, 4, 5, 6, 3, 4]
theorem kinds_at (q : Nat) (hq : q < 8) : ∃ wh : Nat, kindsI.getD q 0 = (wh : Int) ∧ 3 ≤ wh ∧ wh ≤ 6 := by
  have key : ∀ q : Nat, q < 8 → 3 ≤ kindsI.getD q 0 ∧ kindsI.getD q 0 ≤ 6 := by decide
  have := key q hq
  exact ⟨(kindsI.getD q 0).toNat, by omega, by omega, by omega⟩
theorem left_bel (w : World) (g : Nat) (r : List Int) (v : Int) (h : Cd w g r v) :
    Calls Tryz.prog 23 #[.pointer (some ⟨g, 0, none⟩)] w fun e w' => e = .returned (.bool (!r.isEmpty)) ∧ Below w.heap.size w w' :=
  (left_any w g r v h).mono fun e w' hh => ⟨hh.1, hh.2.below _⟩
theorem own_codes {w w' : World} {g base sz n : Nat} {r : List Int} {v : Int} {e : TypeId} {vv : Value} {xs : List Value} (h : w.ownsRow base e sz vv n xs) (hg : w.grownBy w' (some g)) (k : Cd w g r v) (hne : e ≠ 91) : w'.ownsRow base e sz vv n xs := by
  obtain ⟨A', n', c', l', i, kb, -⟩ := k
  exact own_oth h hg (Oth.bk kb hne)
theorem bk_codes {w w' : World} {g G : Nat} {r : List Int} {v : Int} {t : TypeId} {xs : Array Value} (h : Bk w G t xs) (hg : w.grownBy w' (some g)) (k : Cd w g r v) (hne : t ≠ 91) : Bk w' G t xs := by
  obtain ⟨A', n', c', l', i, kb, -⟩ := k
  exact h.oth hg (Oth.bk kb hne)
theorem isI_codes {w w' : World} {g : Nat} {r : List Int} {v : Int} {t : TypeId} {kk : IntKind} {A : Option Addr} {n : Nat} {l : List Int} (h : IsI kk w A n l) (ht : TyA w A n t) (hg : w.grownBy w' (some g)) (k : Cd w g r v) (hne : t ≠ 91) : IsI kk w' A n l ∧ TyA w' A n t := by
  obtain ⟨A', n', c', l', i, kb, -⟩ := k
  exact ⟨h.oth ht hg (Oth.bk kb hne), ht.oth hg (Oth.bk kb hne)⟩
theorem own_cell0 {w : World} {gA n c base : Nat} {l : List Int} (h : w.ownsRow base 3 1 (.slice (some ⟨gA, 0, none⟩) n c) n (l.map (Value.int .i64))) (hl : l.length = n) (hn : 1 ≤ n) : w.cell? ⟨gA, 0, none⟩ = some (.int .i64 (l.getD 0 0)) := by
  rw [h.cellAt 0 (by omega)]
  have : 0 < l.length := by omega
  simp [List.getD, List.getElem?_eq_getElem this]
end Go.Proofs.YtepngbdjobckbaaGreat
