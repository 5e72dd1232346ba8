/- What the machines of push do beside the document's, and how they start. -/
import Derived.Test.YtepngbdjobckbaaGreatG0
import Derived.Test.YtepngbdjobckbaaGreatR8
import Derived.Test.YtepngbdjobckbaaGreatKr
namespace Go.Proofs.YtepngbdjobckbaaGreat
open Go.RowKit
set_option linter.unusedVariables false

def Rp8 (l : List Int) (x : Mc) (q : Fa) : Prop :=
  (x.at_ = 0 ∧ q = ⟨x.ok, -1, [x.ov], []⟩) ∨ (x.at_ ≠ 0 ∧ x.ok = 0 ∧ x.ov = 0 ∧ q = ⟨0, (x.at_ : Int), [x.t, x.v], rgL l x.ch⟩)
theorem at8 {n : Nat} {x : Mc} (h : Mv n x) (ho : x.what = 3) (h0 : x.at_ ≠ 0) : x.at_ = 1 ∨ x.at_ = 2 ∨ x.at_ = 3 ∨ x.at_ = 4 ∨ x.at_ = 5 ∨ x.at_ = 6 ∨ x.at_ = 7 := by
  have hat := h.hat
  rw [ho] at hat
  simp only [atMax] at hat
  omega
theorem good8 (l : List Int) (x : Mc) (q : Fa) (hc : Cap l) (hmv : Mv l.length x) (ho : x.what = 3) (hr : Rp8 l x q) : Good 69 28 l x q := by
  intro W cs hf
  rcases hr with ⟨h0, rfl⟩ | ⟨h0, h2, h3, rfl⟩
  · have e1 : mnext l x = ⟨0, 0, 0, 0⟩ := by rw [mnext, if_pos h0]
    rw [e1, h0]
    exact ⟨pushNext_e W cs _ _ hf, pushEnd_yes W cs _ _ _ hf⟩
  · have hch := hmv.ch
    have hat := at8 hmv ho h0
    have hut := hmv.t
    have huh := hmv.h
    obtain ⟨⟨z1, z2⟩, ⟨p1, p2⟩, c1, c2⟩ := rg_bd hc hch
    obtain ⟨what, at_, ch, th, ix, kd, v, tt, hh, ok, ov⟩ := x
    dsimp only at h2 h3 ho hat hch z1 z2 p1 p2 c1 c2 hut huh
    unfold Go.Proofs.YtepngbdjobckbaaGreat.u64 at hut huh
    have slb : ∀ s, 0 ≤ slN l ch s ∧ slN l ch s ≤ 100000 := fun s => by
      have h1 := sl_in s _ z1 z2
      unfold slN
      omega
    subst h2 h3 ho
    rcases hat with rfl | rfl | rfl | rfl | rfl | rfl | rfl
    · exact ⟨pushNext_1 W cs tt v _ _ _ _ _ z1 z2 p1 p2 c1 c2 hf, pushEnd_no W cs 0 1 _ _ hf (by decide)⟩
    · exact ⟨pushNext_2 W cs tt v _ _ _ _ _ z1 z2 p1 p2 c1 c2 hf, pushEnd_no W cs 0 2 _ _ hf (by decide)⟩
    · exact ⟨pushNext_3 W cs tt v _ _ _ _ _ z1 z2 p1 p2 c1 c2 hf, pushEnd_no W cs 0 3 _ _ hf (by decide)⟩
    · exact ⟨pushNext_4 W cs tt v _ _ _ _ _ z1 z2 p1 p2 c1 c2 hut _ rfl hf, pushEnd_no W cs 0 4 _ _ hf (by decide)⟩
    · exact ⟨pushNext_5 W cs tt v _ _ _ _ _ z1 z2 p1 p2 c1 c2 hf, pushEnd_no W cs 0 5 _ _ hf (by decide)⟩
    · exact ⟨pushNext_6 W cs tt v _ _ _ _ _ z1 z2 p1 p2 c1 c2 hut _ rfl (slb _) _ rfl hf, pushEnd_no W cs 0 6 _ _ hf (by decide)⟩
    · exact ⟨pushNext_7 W cs tt v _ _ _ _ _ z1 z2 p1 p2 c1 c2 hut _ rfl hf, pushEnd_no W cs 0 7 _ _ hf (by decide)⟩
theorem res8 (l : List Int) (x : Mc) (q : Fa) (hc : Cap l) (hmv : Mv l.length x) (ho : x.what = 3) (hr : Rp8 l x q) (W : World) (cs : Array Value) (a : Int) (y z : Bool) (LA : Option Addr) (ln lc : Nat) (ha : u64 a) (hf : FrA W cs q) :
    Calls Tryz.prog 72 #[.agg cs, .agg #[.int .u64 a, .bool y, .bool z, .slice LA ln lc]] W fun e w' => ∃ cs' q', e = .returned (.agg cs') ∧ FrA w' cs' q' ∧ Rp8 l (mres l x a y) q' ∧ Below W.heap.size W w' := by
  have hch := hmv.ch
  obtain ⟨⟨z1, z2⟩, ⟨p1, p2⟩, c1, c2⟩ := rg_bd hc hch
  rcases hr with ⟨h0, rfl⟩ | ⟨h0, h2, h3, rfl⟩
  · have e1 : mres l x a y = x := by rw [mres, if_pos h0]
    rw [e1]
    refine (pushResume_e W cs x.ok x.ov 0 0 0 1 0 a y z LA ln lc (by omega) (by omega) (by omega) (by omega) (by omega) (by omega) hf).mono ?_
    rintro e w' ⟨cs', rfl, h, hb⟩
    exact ⟨cs', ⟨x.ok, -1, [x.ov], []⟩, rfl, h, Or.inl ⟨h0, rfl⟩, hb⟩
  · have hat := at8 hmv ho h0
    have hut := hmv.t
    obtain ⟨what, at_, ch, th, ix, kd, v, tt, hh, ok, ov⟩ := x
    dsimp only at h2 h3 ho hat hch z1 z2 p1 p2 c1 c2 hut
    subst h2 h3 ho
    have fin : ∀ (x' : Mc) (q' : Fa), Rp8 l x' q' → mres l ⟨3, at_, ch, th, ix, kd, v, tt, hh, 0, 0⟩ a y = x' →
        (Calls Tryz.prog 72 #[.agg cs, .agg #[.int .u64 a, .bool y, .bool z, .slice LA ln lc]] W fun e w' => ∃ cs', e = .returned (.agg cs') ∧ Fr w' cs' q'.code q'.pc q'.ws q'.ls ∧ Below W.heap.size W w') →
        Calls Tryz.prog 72 #[.agg cs, .agg #[.int .u64 a, .bool y, .bool z, .slice LA ln lc]] W fun e w' => ∃ cs' q', e = .returned (.agg cs') ∧ FrA w' cs' q' ∧ Rp8 l (mres l ⟨3, at_, ch, th, ix, kd, v, tt, hh, 0, 0⟩ a y) q' ∧ Below W.heap.size W w' := by
      intro x' q' e1 e4 hC
      rw [e4]
      refine hC.mono ?_
      rintro e w' ⟨cs', rfl, h, hb⟩
      exact ⟨cs', q', rfl, h, e1, hb⟩
    rcases hat with rfl | rfl | rfl | rfl | rfl | rfl | rfl
    · cases hcl : cl a
      · exact fin (mto ⟨3, 1, ch, th, ix, kd, v, a, hh, 0, 0⟩ 2) ⟨0, 2, [a, v], rgL l ch⟩ (Or.inr ⟨by show 2 ≠ 0; decide, rfl, rfl, rfl⟩) (by rw [mres, if_neg (show ¬ (1 : Nat) = 0 by decide)]; simp only [mpush, hcl, Bool.false_eq_true, if_false]) (pushResume_1o W cs tt v _ _ _ _ _ a y z LA ln lc z1 z2 p1 p2 c1 c2 ha hcl hf)
      · exact fin (mend ⟨3, 1, ch, th, ix, kd, v, a, hh, 0, 0⟩ 4 0) ⟨4, -1, [0], []⟩ (Or.inl ⟨rfl, rfl⟩) (by rw [mres, if_neg (show ¬ (1 : Nat) = 0 by decide)]; simp only [mpush, hcl, if_true]) (pushResume_1c W cs tt v _ _ _ _ _ a y z LA ln lc z1 z2 p1 p2 c1 c2 ha hcl hf)
    · by_cases he : rest (tt / 2) a = l.getD ch 0
      · exact fin (mto ⟨3, 2, ch, th, ix, kd, v, tt, hh, 0, 0⟩ 3) ⟨0, 3, [tt, v], rgL l ch⟩ (Or.inr ⟨by show 3 ≠ 0; decide, rfl, rfl, rfl⟩) (by rw [mres, if_neg (show ¬ (2 : Nat) = 0 by decide)]; simp only [mpush, if_pos he]) (pushResume_2e W cs tt v _ _ _ _ _ a y z LA ln lc z1 z2 p1 p2 c1 c2 (by simpa using he) hf)
      · by_cases hg : l.getD ch 0 < rest (tt / 2) a
        · exact fin (mto ⟨3, 2, ch, th, ix, kd, v, tt, hh, 0, 0⟩ 1) ⟨0, 1, [tt, v], rgL l ch⟩ (Or.inr ⟨by show 1 ≠ 0; decide, rfl, rfl, rfl⟩) (by rw [mres, if_neg (show ¬ (2 : Nat) = 0 by decide)]; simp only [mpush, if_neg he, if_pos hg]) (pushResume_2g W cs tt v _ _ _ _ _ a y z LA ln lc z1 z2 p1 p2 c1 c2 (by simpa using he) (by simpa using hg) hf)
        · exact fin (mto ⟨3, 2, ch, th, ix, kd, v, tt, hh, 0, 0⟩ 4) ⟨0, 4, [tt, v], rgL l ch⟩ (Or.inr ⟨by show 4 ≠ 0; decide, rfl, rfl, rfl⟩) (by rw [mres, if_neg (show ¬ (2 : Nat) = 0 by decide)]; simp only [mpush, if_neg he, if_neg hg]) (pushResume_2l W cs tt v _ _ _ _ _ a y z LA ln lc z1 z2 p1 p2 c1 c2 (by simpa using he) (by simpa using hg) hf)
    · by_cases he : a = tt
      · exact fin (mend ⟨3, 3, ch, th, ix, kd, v, tt, hh, 0, 0⟩ 2 0) ⟨2, -1, [0], []⟩ (Or.inl ⟨rfl, rfl⟩) (by rw [mres, if_neg (show ¬ (3 : Nat) = 0 by decide)]; simp only [mpush, if_pos he]) (pushResume_3e W cs tt v _ _ _ _ _ a y z LA ln lc z1 z2 p1 p2 c1 c2 (by simpa using he) hf)
      · cases hcl : cl a
        · exact fin (mto ⟨3, 3, ch, th, ix, kd, v, a, hh, 0, 0⟩ 2) ⟨0, 2, [a, v], rgL l ch⟩ (Or.inr ⟨by show 2 ≠ 0; decide, rfl, rfl, rfl⟩) (by rw [mres, if_neg (show ¬ (3 : Nat) = 0 by decide)]; simp only [mpush, if_neg he, hcl, Bool.false_eq_true, if_false]) (pushResume_3o W cs tt v _ _ _ _ _ a y z LA ln lc z1 z2 p1 p2 c1 c2 ha (by simpa using he) hcl hf)
        · exact fin (mend ⟨3, 3, ch, th, ix, kd, v, a, hh, 0, 0⟩ 4 0) ⟨4, -1, [0], []⟩ (Or.inl ⟨rfl, rfl⟩) (by rw [mres, if_neg (show ¬ (3 : Nat) = 0 by decide)]; simp only [mpush, if_neg he, hcl, if_true]) (pushResume_3c W cs tt v _ _ _ _ _ a y z LA ln lc z1 z2 p1 p2 c1 c2 ha (by simpa using he) hcl hf)
    · by_cases he : a = tt / 2
      · exact fin (mto ⟨3, 4, ch, th, ix, kd, v, tt, hh, 0, 0⟩ 5) ⟨0, 5, [tt, v], rgL l ch⟩ (Or.inr ⟨by show 5 ≠ 0; decide, rfl, rfl, rfl⟩) (by rw [mres, if_neg (show ¬ (4 : Nat) = 0 by decide)]; simp only [mpush, if_pos he]) (pushResume_4y W cs tt v _ _ _ _ _ a y z LA ln lc z1 z2 p1 p2 c1 c2 (by simpa using he) hf)
      · exact fin (mto ⟨3, 4, ch, th, ix, kd, v, tt, hh, 0, 0⟩ 1) ⟨0, 1, [tt, v], rgL l ch⟩ (Or.inr ⟨by show 1 ≠ 0; decide, rfl, rfl, rfl⟩) (by rw [mres, if_neg (show ¬ (4 : Nat) = 0 by decide)]; simp only [mpush, if_neg he]) (pushResume_4n W cs tt v _ _ _ _ _ a y z LA ln lc z1 z2 p1 p2 c1 c2 (by simpa using he) hf)
    · cases y
      · exact fin (mto ⟨3, 5, ch, th, ix, kd, v, tt, hh, 0, 0⟩ 1) ⟨0, 1, [tt, v], rgL l ch⟩ (Or.inr ⟨by show 1 ≠ 0; decide, rfl, rfl, rfl⟩) (rfl) (pushResume_5n W cs tt v _ _ _ _ _ a z LA ln lc z1 z2 p1 p2 c1 c2 hf)
      · exact fin (mto ⟨3, 5, ch, th, ix, kd, v, tt, hh, 0, 0⟩ 6) ⟨0, 6, [tt, v], rgL l ch⟩ (Or.inr ⟨by show 6 ≠ 0; decide, rfl, rfl, rfl⟩) (rfl) (pushResume_5y W cs tt v _ _ _ _ _ a z LA ln lc z1 z2 p1 p2 c1 c2 hf)
    · exact fin (mto ⟨3, 6, ch, th, ix, kd, v, tt, hh, 0, 0⟩ 7) ⟨0, 7, [tt, v], rgL l ch⟩ (Or.inr ⟨by show 7 ≠ 0; decide, rfl, rfl, rfl⟩) (rfl) (pushResume_6 W cs tt v _ _ _ _ _ a y z LA ln lc z1 z2 p1 p2 c1 c2 hf)
    · exact fin (mend ⟨3, 7, ch, th, ix, kd, v, tt, hh, 0, 0⟩ 1 0) ⟨1, -1, [0], []⟩ (Or.inl ⟨rfl, rfl⟩) (rfl) (pushResume_7 W cs tt v _ _ _ _ _ a y z LA ln lc z1 z2 p1 p2 c1 c2 hf)
theorem knows8 : Knows Own8 Rp8 69 28 72 :=
  ⟨fun l x q hc hmv ho hr => good8 l x q hc hmv ho hr, fun l x q hc hmv ho hr W cs a y z LA ln lc ha hf => res8 l x q hc hmv ho hr W cs a y z LA ln lc ha hf⟩
end Go.Proofs.YtepngbdjobckbaaGreat
