/- What the machines that close do beside the document's, and how they start. -/
import Derived.Test.YtepngbdjobckbaaGreatG0
import Derived.Test.YtepngbdjobckbaaGreatR10
import Derived.Test.YtepngbdjobckbaaGreatKr
namespace Go.Proofs.YtepngbdjobckbaaGreat
open Go.RowKit
set_option linter.unusedVariables false

def Rp10 (l : List Int) (x : Mc) (q : Fa) : Prop :=
  (x.at_ = 0 ∧ q = ⟨x.ok, -1, [x.ov], []⟩) ∨ (x.at_ ≠ 0 ∧ x.ok = 0 ∧ x.ov = 0 ∧ q = ⟨0, (x.at_ : Int), [x.t], rgL l x.ch⟩)
theorem at10 {n : Nat} {x : Mc} (h : Mv n x) (ho : x.what = 5) (h0 : x.at_ ≠ 0) : x.at_ = 1 ∨ x.at_ = 2 := by
  have hat := h.hat
  rw [ho] at hat
  simp only [atMax] at hat
  omega
theorem good10 (l : List Int) (x : Mc) (q : Fa) (hc : Cap l) (hmv : Mv l.length x) (ho : x.what = 5) (hr : Rp10 l x q) : Good 71 30 l x q := by
  intro W cs hf
  rcases hr with ⟨h0, rfl⟩ | ⟨h0, h2, h3, rfl⟩
  · have e1 : mnext l x = ⟨0, 0, 0, 0⟩ := by rw [mnext, if_pos h0]
    rw [e1, h0]
    exact ⟨shutNext_e W cs _ _ hf, shutEnd_yes W cs _ _ _ hf⟩
  · have hch := hmv.ch
    have hat := at10 hmv ho h0
    obtain ⟨⟨z1, z2⟩, ⟨p1, p2⟩, c1, c2⟩ := rg_bd hc hch
    obtain ⟨what, at_, ch, th, ix, kd, v, tt, hh, ok, ov⟩ := x
    dsimp only at h2 h3 ho hat hch z1 z2 p1 p2 c1 c2
    subst h2 h3 ho
    rcases hat with rfl | rfl
    · exact ⟨shutNext_1 W cs tt _ _ _ _ _ z1 z2 p1 p2 c1 c2 hf, shutEnd_no W cs 0 1 _ _ hf (by decide)⟩
    · exact ⟨shutNext_2 W cs tt _ _ _ _ _ z1 z2 p1 p2 c1 c2 hf, shutEnd_no W cs 0 2 _ _ hf (by decide)⟩
theorem res10 (l : List Int) (x : Mc) (q : Fa) (hc : Cap l) (hmv : Mv l.length x) (ho : x.what = 5) (hr : Rp10 l x q) (W : World) (cs : Array Value) (a : Int) (y z : Bool) (LA : Option Addr) (ln lc : Nat) (ha : u64 a) (hf : FrA W cs q) :
    Calls Tryz.prog 74 #[.agg cs, .agg #[.int .u64 a, .bool y, .bool z, .slice LA ln lc]] W fun e w' => ∃ cs' q', e = .returned (.agg cs') ∧ FrA w' cs' q' ∧ Rp10 l (mres l x a y) q' ∧ Below W.heap.size W w' := by
  have hch := hmv.ch
  obtain ⟨⟨z1, z2⟩, ⟨p1, p2⟩, c1, c2⟩ := rg_bd hc hch
  rcases hr with ⟨h0, rfl⟩ | ⟨h0, h2, h3, rfl⟩
  · have e1 : mres l x a y = x := by rw [mres, if_pos h0]
    rw [e1]
    refine (shutResume_e W cs x.ok x.ov 0 0 0 1 0 a y z LA ln lc (by omega) (by omega) (by omega) (by omega) (by omega) (by omega) hf).mono ?_
    rintro e w' ⟨cs', rfl, h, hb⟩
    exact ⟨cs', ⟨x.ok, -1, [x.ov], []⟩, rfl, h, Or.inl ⟨h0, rfl⟩, hb⟩
  · have hat := at10 hmv ho h0
    obtain ⟨what, at_, ch, th, ix, kd, v, tt, hh, ok, ov⟩ := x
    dsimp only at h2 h3 ho hat hch z1 z2 p1 p2 c1 c2
    subst h2 h3 ho
    have fin : ∀ (x' : Mc) (q' : Fa), Rp10 l x' q' → mres l ⟨5, at_, ch, th, ix, kd, v, tt, hh, 0, 0⟩ a y = x' →
        (Calls Tryz.prog 74 #[.agg cs, .agg #[.int .u64 a, .bool y, .bool z, .slice LA ln lc]] W fun e w' => ∃ cs', e = .returned (.agg cs') ∧ Fr w' cs' q'.code q'.pc q'.ws q'.ls ∧ Below W.heap.size W w') →
        Calls Tryz.prog 74 #[.agg cs, .agg #[.int .u64 a, .bool y, .bool z, .slice LA ln lc]] W fun e w' => ∃ cs' q', e = .returned (.agg cs') ∧ FrA w' cs' q' ∧ Rp10 l (mres l ⟨5, at_, ch, th, ix, kd, v, tt, hh, 0, 0⟩ a y) q' ∧ Below W.heap.size W w' := by
      intro x' q' e1 e4 hC
      rw [e4]
      refine hC.mono ?_
      rintro e w' ⟨cs', rfl, h, hb⟩
      exact ⟨cs', q', rfl, h, e1, hb⟩
    rcases hat with rfl | rfl
    · by_cases hcl : cl a = true
      · exact fin (mend ⟨5, 1, ch, th, ix, kd, v, a, hh, 0, 0⟩ 4 0) ⟨4, -1, [0], []⟩ (Or.inl ⟨rfl, rfl⟩) (by rw [mres, if_neg (show ¬ (1 : Nat) = 0 by decide)]; simp only [mshut, hcl, if_true]) (shutResume_1c W cs tt _ _ _ _ _ a y z LA ln lc z1 z2 p1 p2 c1 c2 ha hcl hf)
      · have hcl' : cl a = false := by simpa using hcl
        exact fin (mto ⟨5, 1, ch, th, ix, kd, v, a, hh, 0, 0⟩ 2) ⟨0, 2, [a], rgL l ch⟩ (Or.inr ⟨by show 2 ≠ 0; decide, rfl, rfl, rfl⟩) (by rw [mres, if_neg (show ¬ (1 : Nat) = 0 by decide)]; simp only [mshut, hcl', Bool.false_eq_true, if_false]) (shutResume_1o W cs tt _ _ _ _ _ a y z LA ln lc z1 z2 p1 p2 c1 c2 ha hcl' hf)
    · cases y
      · exact fin (mto ⟨5, 2, ch, th, ix, kd, v, tt, hh, 0, 0⟩ 1) ⟨0, 1, [tt], rgL l ch⟩ (Or.inr ⟨by show 1 ≠ 0; decide, rfl, rfl, rfl⟩) rfl (shutResume_2n W cs tt _ _ _ _ _ a z LA ln lc z1 z2 p1 p2 c1 c2 hf)
      · exact fin (mend ⟨5, 2, ch, th, ix, kd, v, tt, hh, 0, 0⟩ 1 0) ⟨1, -1, [0], []⟩ (Or.inl ⟨rfl, rfl⟩) rfl (shutResume_2y W cs tt _ _ _ _ _ a z LA ln lc z1 z2 p1 p2 c1 c2 hf)
theorem knows10 : Knows Own10 Rp10 71 30 74 :=
  ⟨fun l x q hc hmv ho hr => good10 l x q hc hmv ho hr, fun l x q hc hmv ho hr W cs a y z LA ln lc ha hf => res10 l x q hc hmv ho hr W cs a y z LA ln lc ha hf⟩
end Go.Proofs.YtepngbdjobckbaaGreat
