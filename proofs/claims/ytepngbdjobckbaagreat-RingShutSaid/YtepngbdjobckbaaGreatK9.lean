/- What the machines of pop do beside the document's, and how they start. -/
import Derived.Test.YtepngbdjobckbaaGreatG0
import Derived.Test.YtepngbdjobckbaaGreatR9
import Derived.Test.YtepngbdjobckbaaGreatKr
namespace Go.Proofs.YtepngbdjobckbaaGreat
open Go.RowKit
set_option linter.unusedVariables false

def Rp9 (l : List Int) (x : Mc) (q : Fa) : Prop :=
  (x.at_ = 0 ∧ q = ⟨x.ok, -1, [x.ov], []⟩) ∨ (x.at_ ≠ 0 ∧ x.ok = 0 ∧ x.ov = 0 ∧ ∃ u : Int, (x.at_ = 7 → u = x.v) ∧ q = ⟨0, (x.at_ : Int), [x.h, x.t, u], rgL l x.ch⟩)
theorem at9 {n : Nat} {x : Mc} (h : Mv n x) (ho : x.what = 4) (h0 : x.at_ ≠ 0) : x.at_ = 1 ∨ x.at_ = 2 ∨ x.at_ = 3 ∨ x.at_ = 4 ∨ x.at_ = 5 ∨ x.at_ = 6 ∨ x.at_ = 7 := by
  have hat := h.hat
  rw [ho] at hat
  simp only [atMax] at hat
  omega
theorem good9 (l : List Int) (x : Mc) (q : Fa) (hc : Cap l) (hmv : Mv l.length x) (ho : x.what = 4) (hr : Rp9 l x q) : Good 70 29 l x q := by
  intro W cs hf
  rcases hr with ⟨h0, rfl⟩ | ⟨h0, h2, h3, ⟨u, hu, rfl⟩⟩
  · have e1 : mnext l x = ⟨0, 0, 0, 0⟩ := by rw [mnext, if_pos h0]
    rw [e1, h0]
    exact ⟨popNext_e W cs _ _ hf, popEnd_yes W cs _ _ _ hf⟩
  · have hch := hmv.ch
    have hat := at9 hmv ho h0
    have hut := hmv.t
    have huh := hmv.h
    obtain ⟨⟨z1, z2⟩, ⟨p1, p2⟩, c1, c2⟩ := rg_bd hc hch
    obtain ⟨what, at_, ch, th, ix, kd, v, tt, hh, ok, ov⟩ := x
    dsimp only at h2 h3 ho hat hch z1 z2 p1 p2 c1 c2 hut huh hu
    unfold Go.Proofs.YtepngbdjobckbaaGreat.u64 at hut huh
    have slb : ∀ s, 0 ≤ slN l ch s ∧ slN l ch s ≤ 100000 := fun s => by
      have h1 := sl_in s _ z1 z2
      unfold slN
      omega
    subst h2 h3 ho
    rcases hat with rfl | rfl | rfl | rfl | rfl | rfl | rfl
    · exact ⟨popNext_1 W cs hh tt u _ _ _ _ _ z1 z2 p1 p2 c1 c2 hf, popEnd_no W cs 0 1 _ _ hf (by decide)⟩
    · exact ⟨popNext_2 W cs hh tt u _ _ _ _ _ z1 z2 p1 p2 c1 c2 hf, popEnd_no W cs 0 2 _ _ hf (by decide)⟩
    · exact ⟨popNext_3 W cs hh tt u _ _ _ _ _ z1 z2 p1 p2 c1 c2 hf, popEnd_no W cs 0 3 _ _ hf (by decide)⟩
    · exact ⟨popNext_4 W cs hh tt u _ _ _ _ _ z1 z2 p1 p2 c1 c2 huh _ rfl hf, popEnd_no W cs 0 4 _ _ hf (by decide)⟩
    · exact ⟨popNext_5 W cs hh tt u _ _ _ _ _ z1 z2 p1 p2 c1 c2 hf, popEnd_no W cs 0 5 _ _ hf (by decide)⟩
    · exact ⟨popNext_6 W cs hh tt u _ _ _ _ _ z1 z2 p1 p2 c1 c2 huh _ rfl (slb _) _ rfl hf, popEnd_no W cs 0 6 _ _ hf (by decide)⟩
    · exact ⟨popNext_7 W cs hh tt u _ _ _ _ _ z1 z2 p1 p2 c1 c2 huh _ rfl hf, popEnd_no W cs 0 7 _ _ hf (by decide)⟩
theorem res9 (l : List Int) (x : Mc) (q : Fa) (hc : Cap l) (hmv : Mv l.length x) (ho : x.what = 4) (hr : Rp9 l x q) (W : World) (cs : Array Value) (a : Int) (y z : Bool) (LA : Option Addr) (ln lc : Nat) (ha : u64 a) (hf : FrA W cs q) :
    Calls Tryz.prog 73 #[.agg cs, .agg #[.int .u64 a, .bool y, .bool z, .slice LA ln lc]] W fun e w' => ∃ cs' q', e = .returned (.agg cs') ∧ FrA w' cs' q' ∧ Rp9 l (mres l x a y) q' ∧ Below W.heap.size W w' := by
  have hch := hmv.ch
  obtain ⟨⟨z1, z2⟩, ⟨p1, p2⟩, c1, c2⟩ := rg_bd hc hch
  rcases hr with ⟨h0, rfl⟩ | ⟨h0, h2, h3, ⟨u, hu, rfl⟩⟩
  · have e1 : mres l x a y = x := by rw [mres, if_pos h0]
    rw [e1]
    refine (popResume_e W cs x.ok x.ov 0 0 0 1 0 a y z LA ln lc (by omega) (by omega) (by omega) (by omega) (by omega) (by omega) hf).mono ?_
    rintro e w' ⟨cs', rfl, h, hb⟩
    exact ⟨cs', ⟨x.ok, -1, [x.ov], []⟩, rfl, h, Or.inl ⟨h0, rfl⟩, hb⟩
  · have hat := at9 hmv ho h0
    have hut := hmv.t
    obtain ⟨what, at_, ch, th, ix, kd, v, tt, hh, ok, ov⟩ := x
    dsimp only at h2 h3 ho hat hch z1 z2 p1 p2 c1 c2 hut hu
    subst h2 h3 ho
    have fin : ∀ (x' : Mc) (q' : Fa), Rp9 l x' q' → mres l ⟨4, at_, ch, th, ix, kd, v, tt, hh, 0, 0⟩ a y = x' →
        (Calls Tryz.prog 73 #[.agg cs, .agg #[.int .u64 a, .bool y, .bool z, .slice LA ln lc]] W fun e w' => ∃ cs', e = .returned (.agg cs') ∧ Fr w' cs' q'.code q'.pc q'.ws q'.ls ∧ Below W.heap.size W w') →
        Calls Tryz.prog 73 #[.agg cs, .agg #[.int .u64 a, .bool y, .bool z, .slice LA ln lc]] W fun e w' => ∃ cs' q', e = .returned (.agg cs') ∧ FrA w' cs' q' ∧ Rp9 l (mres l ⟨4, at_, ch, th, ix, kd, v, tt, hh, 0, 0⟩ a y) q' ∧ Below W.heap.size W w' := by
      intro x' q' e1 e4 hC
      rw [e4]
      refine hC.mono ?_
      rintro e w' ⟨cs', rfl, h, hb⟩
      exact ⟨cs', q', rfl, h, e1, hb⟩
    rcases hat with rfl | rfl | rfl | rfl | rfl | rfl | rfl
    · exact fin (mto ⟨4, 1, ch, th, ix, kd, v, tt, a, 0, 0⟩ 2) ⟨0, 2, [a, tt, u], rgL l ch⟩ (Or.inr ⟨by show 2 ≠ 0; decide, rfl, rfl, _, (fun h => absurd h (by show ¬ 2 = 7; decide)), rfl⟩) (rfl) (popResume_1 W cs hh tt u _ _ _ _ _ a y z LA ln lc z1 z2 p1 p2 c1 c2 hf)
    · by_cases he : rest (a / 2) hh = 0
      · exact fin (mto ⟨4, 2, ch, th, ix, kd, v, a, hh, 0, 0⟩ 3) ⟨0, 3, [hh, a, u], rgL l ch⟩ (Or.inr ⟨by show 3 ≠ 0; decide, rfl, rfl, _, (fun h => absurd h (by show ¬ 3 = 7; decide)), rfl⟩) (by rw [mres, if_neg (show ¬ (2 : Nat) = 0 by decide)]; simp only [mpop, if_pos he]) (popResume_2e W cs hh tt u _ _ _ _ _ a y z LA ln lc z1 z2 p1 p2 c1 c2 (by simpa using he) hf)
      · by_cases hg : l.getD ch 0 < rest (a / 2) hh
        · exact fin (mto ⟨4, 2, ch, th, ix, kd, v, a, hh, 0, 0⟩ 1) ⟨0, 1, [hh, a, u], rgL l ch⟩ (Or.inr ⟨by show 1 ≠ 0; decide, rfl, rfl, _, (fun h => absurd h (by show ¬ 1 = 7; decide)), rfl⟩) (by rw [mres, if_neg (show ¬ (2 : Nat) = 0 by decide)]; simp only [mpop, if_neg he, if_pos hg]) (popResume_2g W cs hh tt u _ _ _ _ _ a y z LA ln lc z1 z2 p1 p2 c1 c2 (by simpa using he) (by simpa using hg) hf)
        · exact fin (mto ⟨4, 2, ch, th, ix, kd, v, a, hh, 0, 0⟩ 4) ⟨0, 4, [hh, a, u], rgL l ch⟩ (Or.inr ⟨by show 4 ≠ 0; decide, rfl, rfl, _, (fun h => absurd h (by show ¬ 4 = 7; decide)), rfl⟩) (by rw [mres, if_neg (show ¬ (2 : Nat) = 0 by decide)]; simp only [mpop, if_neg he, if_neg hg]) (popResume_2l W cs hh tt u _ _ _ _ _ a y z LA ln lc z1 z2 p1 p2 c1 c2 (by simpa using he) (by simpa using hg) hf)
    · by_cases he : a = hh
      · cases hcl : cl tt
        · exact fin (mend ⟨4, 3, ch, th, ix, kd, v, tt, hh, 0, 0⟩ 3 0) ⟨3, -1, [0], []⟩ (Or.inl ⟨rfl, rfl⟩) (by rw [mres, if_neg (show ¬ (3 : Nat) = 0 by decide)]; simp only [mpop, if_neg (show ¬ a ≠ hh from fun h => h he), hcl, Bool.false_eq_true, if_false]) (popResume_3o W cs hh tt u _ _ _ _ _ a y z LA ln lc z1 z2 p1 p2 c1 c2 hut (by simpa using he) hcl hf)
        · exact fin (mend ⟨4, 3, ch, th, ix, kd, v, tt, hh, 0, 0⟩ 5 0) ⟨5, -1, [0], []⟩ (Or.inl ⟨rfl, rfl⟩) (by rw [mres, if_neg (show ¬ (3 : Nat) = 0 by decide)]; simp only [mpop, if_neg (show ¬ a ≠ hh from fun h => h he), hcl, if_true]) (popResume_3c W cs hh tt u _ _ _ _ _ a y z LA ln lc z1 z2 p1 p2 c1 c2 hut (by simpa using he) hcl hf)
      · exact fin (mto ⟨4, 3, ch, th, ix, kd, v, tt, a, 0, 0⟩ 2) ⟨0, 2, [a, tt, u], rgL l ch⟩ (Or.inr ⟨by show 2 ≠ 0; decide, rfl, rfl, _, (fun h => absurd h (by show ¬ 2 = 7; decide)), rfl⟩) (by rw [mres, if_neg (show ¬ (3 : Nat) = 0 by decide)]; simp only [mpop, if_pos (show a ≠ hh from he)]) (popResume_3n W cs hh tt u _ _ _ _ _ a y z LA ln lc z1 z2 p1 p2 c1 c2 (by simpa using he) hf)
    · by_cases he : a = nx hh 1
      · exact fin (mto ⟨4, 4, ch, th, ix, kd, v, tt, hh, 0, 0⟩ 5) ⟨0, 5, [hh, tt, u], rgL l ch⟩ (Or.inr ⟨by show 5 ≠ 0; decide, rfl, rfl, _, (fun h => absurd h (by show ¬ 5 = 7; decide)), rfl⟩) (by rw [mres, if_neg (show ¬ (4 : Nat) = 0 by decide)]; simp only [mpop, if_pos he]) (popResume_4y W cs hh tt u _ _ _ _ _ a y z LA ln lc z1 z2 p1 p2 c1 c2 _ rfl (by simpa using he) hf)
      · exact fin (mto ⟨4, 4, ch, th, ix, kd, v, tt, hh, 0, 0⟩ 1) ⟨0, 1, [hh, tt, u], rgL l ch⟩ (Or.inr ⟨by show 1 ≠ 0; decide, rfl, rfl, _, (fun h => absurd h (by show ¬ 1 = 7; decide)), rfl⟩) (by rw [mres, if_neg (show ¬ (4 : Nat) = 0 by decide)]; simp only [mpop, if_neg he]) (popResume_4n W cs hh tt u _ _ _ _ _ a y z LA ln lc z1 z2 p1 p2 c1 c2 _ rfl (by simpa using he) hf)
    · cases y
      · exact fin (mto ⟨4, 5, ch, th, ix, kd, v, tt, hh, 0, 0⟩ 1) ⟨0, 1, [hh, tt, u], rgL l ch⟩ (Or.inr ⟨by show 1 ≠ 0; decide, rfl, rfl, _, (fun h => absurd h (by show ¬ 1 = 7; decide)), rfl⟩) (rfl) (popResume_5n W cs hh tt u _ _ _ _ _ a z LA ln lc z1 z2 p1 p2 c1 c2 hf)
      · exact fin (mto ⟨4, 5, ch, th, ix, kd, v, tt, hh, 0, 0⟩ 6) ⟨0, 6, [hh, tt, u], rgL l ch⟩ (Or.inr ⟨by show 6 ≠ 0; decide, rfl, rfl, _, (fun h => absurd h (by show ¬ 6 = 7; decide)), rfl⟩) (rfl) (popResume_5y W cs hh tt u _ _ _ _ _ a z LA ln lc z1 z2 p1 p2 c1 c2 hf)
    · exact fin (mto ⟨4, 6, ch, th, ix, kd, a, tt, hh, 0, 0⟩ 7) ⟨0, 7, [hh, tt, a], rgL l ch⟩ (Or.inr ⟨by show 7 ≠ 0; decide, rfl, rfl, _, fun _ => rfl, rfl⟩) (rfl) (popResume_6 W cs hh tt u _ _ _ _ _ a y z LA ln lc z1 z2 p1 p2 c1 c2 hf)
    · obtain rfl : u = v := hu rfl
      exact fin (mend ⟨4, 7, ch, th, ix, kd, u, tt, hh, 0, 0⟩ 6 u) ⟨6, -1, [u], []⟩ (Or.inl ⟨rfl, rfl⟩) (rfl) (popResume_7 W cs hh tt u _ _ _ _ _ a y z LA ln lc z1 z2 p1 p2 c1 c2 hf)
theorem knows9 : Knows Own9 Rp9 70 29 73 :=
  ⟨fun l x q hc hmv ho hr => good9 l x q hc hmv ho hr, fun l x q hc hmv ho hr W cs a y z LA ln lc ha hf => res9 l x q hc hmv ho hr W cs a y z LA ln lc ha hf⟩
end Go.Proofs.YtepngbdjobckbaaGreat
