/- What the machines of count do beside the document's, and how they start. -/
import Derived.Test.YtepngbdjobckbaaGreatG0
import Derived.Test.YtepngbdjobckbaaGreatR11
import Derived.Test.YtepngbdjobckbaaGreatKr
namespace Go.Proofs.YtepngbdjobckbaaGreat
open Go.RowKit
set_option linter.unusedVariables false

def Rp11 (l : List Int) (x : Mc) (q : Fa) : Prop :=
  (x.at_ = 0 ∧ q = ⟨x.ok, -1, [x.ov], []⟩) ∨ (x.at_ ≠ 0 ∧ x.ok = 0 ∧ x.ov = 0 ∧ q = ⟨0, (x.at_ : Int), [x.t, x.h], rgL l x.ch⟩)
theorem at11 {n : Nat} {x : Mc} (h : Mv n x) (ho : x.what = 6) (h0 : x.at_ ≠ 0) : x.at_ = 1 ∨ x.at_ = 2 ∨ x.at_ = 3 := by
  have hat := h.hat
  rw [ho] at hat
  simp only [atMax] at hat
  omega
theorem good11 (l : List Int) (x : Mc) (q : Fa) (hc : Cap l) (hmv : Mv l.length x) (ho : x.what = 6) (hr : Rp11 l x q) : Good 52 18 l x q := by
  intro W cs hf
  rcases hr with ⟨h0, rfl⟩ | ⟨h0, h2, h3, rfl⟩
  · have e1 : mnext l x = ⟨0, 0, 0, 0⟩ := by rw [mnext, if_pos h0]
    rw [e1, h0]
    exact ⟨countNext_e W cs _ _ hf, countEnd_yes W cs _ _ _ hf⟩
  · have hch := hmv.ch
    have hat := at11 hmv ho h0
    have hut := hmv.t
    have huh := hmv.h
    obtain ⟨⟨z1, z2⟩, ⟨p1, p2⟩, c1, c2⟩ := rg_bd hc hch
    obtain ⟨what, at_, ch, th, ix, kd, v, tt, hh, ok, ov⟩ := x
    dsimp only at h2 h3 ho hat hch z1 z2 p1 p2 c1 c2 hut huh
    unfold Go.Proofs.YtepngbdjobckbaaGreat.u64 at hut huh
    have slb : ∀ s, 0 ≤ slN l ch s ∧ slN l ch s ≤ 100000 := fun s => by
      have h1 := sl_in s _ z1 z2
      unfold slN
      omega
    subst h2 h3 ho
    rcases hat with rfl | rfl | rfl
    · exact ⟨countNext_1 W cs tt hh _ _ _ _ _ z1 z2 p1 p2 c1 c2 hf, countEnd_no W cs 0 1 _ _ hf (by decide)⟩
    · exact ⟨countNext_2 W cs tt hh _ _ _ _ _ z1 z2 p1 p2 c1 c2 hf, countEnd_no W cs 0 2 _ _ hf (by decide)⟩
    · exact ⟨countNext_3 W cs tt hh _ _ _ _ _ z1 z2 p1 p2 c1 c2 hf, countEnd_no W cs 0 3 _ _ hf (by decide)⟩
theorem res11 (l : List Int) (x : Mc) (q : Fa) (hc : Cap l) (hmv : Mv l.length x) (ho : x.what = 6) (hr : Rp11 l x q) (W : World) (cs : Array Value) (a : Int) (y z : Bool) (LA : Option Addr) (ln lc : Nat) (ha : u64 a) (hf : FrA W cs q) :
    Calls Tryz.prog 36 #[.agg cs, .agg #[.int .u64 a, .bool y, .bool z, .slice LA ln lc]] W fun e w' => ∃ cs' q', e = .returned (.agg cs') ∧ FrA w' cs' q' ∧ Rp11 l (mres l x a y) q' ∧ Below W.heap.size W w' := by
  have hch := hmv.ch
  obtain ⟨⟨z1, z2⟩, ⟨p1, p2⟩, c1, c2⟩ := rg_bd hc hch
  rcases hr with ⟨h0, rfl⟩ | ⟨h0, h2, h3, rfl⟩
  · have e1 : mres l x a y = x := by rw [mres, if_pos h0]
    rw [e1]
    refine (countResume_e W cs x.ok x.ov 0 0 0 1 0 a y z LA ln lc (by omega) (by omega) (by omega) (by omega) (by omega) (by omega) hf).mono ?_
    rintro e w' ⟨cs', rfl, h, hb⟩
    exact ⟨cs', ⟨x.ok, -1, [x.ov], []⟩, rfl, h, Or.inl ⟨h0, rfl⟩, hb⟩
  · have hat := at11 hmv ho h0
    have hut := hmv.t
    obtain ⟨what, at_, ch, th, ix, kd, v, tt, hh, ok, ov⟩ := x
    dsimp only at h2 h3 ho hat hch z1 z2 p1 p2 c1 c2 hut
    subst h2 h3 ho
    have fin : ∀ (x' : Mc) (q' : Fa), Rp11 l x' q' → mres l ⟨6, at_, ch, th, ix, kd, v, tt, hh, 0, 0⟩ a y = x' →
        (Calls Tryz.prog 36 #[.agg cs, .agg #[.int .u64 a, .bool y, .bool z, .slice LA ln lc]] W fun e w' => ∃ cs', e = .returned (.agg cs') ∧ Fr w' cs' q'.code q'.pc q'.ws q'.ls ∧ Below W.heap.size W w') →
        Calls Tryz.prog 36 #[.agg cs, .agg #[.int .u64 a, .bool y, .bool z, .slice LA ln lc]] W fun e w' => ∃ cs' q', e = .returned (.agg cs') ∧ FrA w' cs' q' ∧ Rp11 l (mres l ⟨6, at_, ch, th, ix, kd, v, tt, hh, 0, 0⟩ a y) q' ∧ Below W.heap.size W w' := by
      intro x' q' e1 e4 hC
      rw [e4]
      refine hC.mono ?_
      rintro e w' ⟨cs', rfl, h, hb⟩
      exact ⟨cs', q', rfl, h, e1, hb⟩
    rcases hat with rfl | rfl | rfl
    · exact fin (mto ⟨6, 1, ch, th, ix, kd, v, a, hh, 0, 0⟩ 2) ⟨0, 2, [a, hh], rgL l ch⟩ (Or.inr ⟨by show 2 ≠ 0; decide, rfl, rfl, rfl⟩) (rfl) (countResume_1 W cs tt hh _ _ _ _ _ a y z LA ln lc z1 z2 p1 p2 c1 c2 hf)
    · exact fin (mto ⟨6, 2, ch, th, ix, kd, v, tt, a, 0, 0⟩ 3) ⟨0, 3, [tt, a], rgL l ch⟩ (Or.inr ⟨by show 3 ≠ 0; decide, rfl, rfl, rfl⟩) (rfl) (countResume_2 W cs tt hh _ _ _ _ _ a y z LA ln lc z1 z2 p1 p2 c1 c2 hf)
    · by_cases he : a = tt
      · subst he
        exact fin (mend ⟨6, 3, ch, th, ix, kd, v, a, hh, 0, 0⟩ 9 (rest (a / 2) hh)) ⟨9, -1, [rest (a / 2) hh], []⟩ (Or.inl ⟨rfl, rfl⟩) (by rw [mres, if_neg (show ¬ (3 : Nat) = 0 by decide)]; simp only [mcount, if_true]) (countResume_3e W cs a hh _ _ _ _ _ a y z LA ln lc z1 z2 p1 p2 c1 c2 (by simp) hf)
      · exact fin (mto ⟨6, 3, ch, th, ix, kd, v, a, hh, 0, 0⟩ 2) ⟨0, 2, [a, hh], rgL l ch⟩ (Or.inr ⟨by show 2 ≠ 0; decide, rfl, rfl, rfl⟩) (by rw [mres, if_neg (show ¬ (3 : Nat) = 0 by decide)]; simp only [mcount, if_neg he]) (countResume_3n W cs tt hh _ _ _ _ _ a y z LA ln lc z1 z2 p1 p2 c1 c2 (by simpa using he) hf)
theorem knows11 : Knows Own11 Rp11 52 18 36 :=
  ⟨fun l x q hc hmv ho hr => good11 l x q hc hmv ho hr, fun l x q hc hmv ho hr W cs a y z LA ln lc ha hf => res11 l x q hc hmv ho hr W cs a y z LA ln lc ha hf⟩
set_option maxHeartbeats 1000000 in
set_option maxRecDepth 100000 in
theorem start11_any (w : World) (A : Option Addr) (n c : Nat) (l : List Int) (B : Option Addr) (m d : Nat) (t : Int) (h : Cf w A n l) (ch th : Nat) (hch : ch < n) (ix kd v : Int) :
    Calls Tryz.prog 33 #[.agg #[.slice A n c, .slice B m d, .int .i64 t], .agg (Mc.cells A n c B m d t ⟨6, 1, ch, th, ix, kd, v, 0, 0, 0, 0⟩)] w fun e w' => ∃ cs q', e = .returned (.agg cs) ∧ FrA w' cs q' ∧ Rp11 l ⟨6, 1, ch, th, ix, kd, v, 0, 0, 0, 0⟩ q' ∧ Below w.heap.size w w' := by
  have HS := hide (fun o1 o2 o3 => countStart_any (((w.alloc o1).alloc o2).alloc o3) A n c l B m d t (((h.alloc o1).alloc o2).alloc o3) ch hch)
  clear h
  rw [Mc.cells]
  go_enter Tryz.func33, Tryz.ntmps33
  go_wp2_with fail
  refine (HS.out _ _ _).mono ?_
  rintro e w2 ⟨cs, rfl, hf, hb⟩
  obtain ⟨k2, kb⟩ := at_third hb
  obtain ⟨FA, fn, fc, FB, fm, fd, rfl, -⟩ := id hf
  have HF := hide hf
  have KB := hide kb
  have K2 := hide k2
  have HT := hide (k2.there (n := 5) rfl)
  clear hb k2 kb hf
  go_wp2_with ((with_reducible show wpList _ _ _ _ _ _); refine wpList_store_res (by rfl) 51 _ _ (by rfl) (w.heap.size + 1 + 1) #[.int .i64 0, .int .i64 1, .slice FA fn fc, .slice FB fm fd, .slice none 0 0] (by rfl) (by rfl) HT.out Tryz.fr_inf (fr_one _ _ _ _ _ _ _ _ _ _ _) ?_; intro wz HZ)
  obtain ⟨fs, hfs⟩ := Tryz.fr_und
  exact ret_stored HZ Tryz.results33 rfl HT.out hfs rfl Tryz.fr_inf rfl ⟨_, rfl, ⟨0, 1, [0, 0], rgL l ch⟩, Fr.stored HZ HF.out K2.out, Or.inr ⟨(by decide : (1 : Nat) ≠ 0), rfl, rfl, rfl⟩, below_stored HZ KB.out (by omega)⟩
end Go.Proofs.YtepngbdjobckbaaGreat
