/- What the machines of a lock do beside the document's, and how they start. -/
import Derived.Test.YtadaoobdnnleaaaB9
import Derived.Test.YtadaoobdnnleaaaI
import Derived.Test.YtadaoobdnnleaaaX1
namespace Go.Proofs.Ytadaoobdnnleaaa
open Go.RowKit
set_option linter.unusedVariables false

def Rp7 (l : List Int) (x : Mc) (q : Fa) : Prop :=
  (x.at_ = 0 ∧ q = ⟨x.ok, -1, [x.ov], []⟩) ∨ (x.at_ = 1 ∧ x.ok = 0 ∧ x.ov = 0 ∧ q = ⟨0, (x.what : Int) - 1, [], [tlN l x.ch + 2]⟩)
theorem knows7 : Knows Own7 Rp7 28 26 27 := by
  refine ⟨fun l x q hc hmv ho hr W cs hf => ?_, fun l x q hc hmv ho hr W cs a y z LA ln lc ha hf => ?_⟩
  · have w1 := hmv.w1
    simp only [Own7] at ho
    rcases hr with ⟨h0, rfl⟩ | ⟨h1, h2, h3, rfl⟩
    · have e1 : mnext l x = ⟨0, 0, 0, 0⟩ := by rw [mnext, if_pos h0]
      rw [e1, h0]
      exact ⟨lockNext_e W cs _ _ _ hf, lockEnd_yes W cs _ _ _ hf⟩
    · have hw : x.what = 1 ∨ x.what = 2 := by omega
      rcases hw with hw | hw
      · have e1 : mnext l x = ⟨3, tlN l x.ch + 2, 0, 1⟩ := by rw [mnext, if_neg (by omega), hw]; rfl
        rw [e1, h1, h2, h3]
        rw [hw] at hf
        exact ⟨lockNext_0 W cs _ _ hf, lockEnd_no W cs _ _ _ _ hf (by simp)⟩
      · have e1 : mnext l x = ⟨2, tlN l x.ch + 2, 0, 0⟩ := by rw [mnext, if_neg (by omega), hw]; rfl
        rw [e1, h1, h2, h3]
        rw [hw] at hf
        exact ⟨lockNext_1 W cs _ _ hf, lockEnd_no W cs _ _ _ _ hf (by simp)⟩
  · have w1 := hmv.w1
    simp only [Own7] at ho
    rcases hr with ⟨h0, rfl⟩ | ⟨h1, h2, h3, rfl⟩
    · have e1 : mres l x a y = x := by rw [mres, if_pos h0]
      rw [e1]
      refine (lockResume_stay W cs _ _ a _ _ y z LA ln lc hf (Or.inl rfl)).mono ?_
      rintro e w' ⟨rfl, hb⟩
      exact ⟨_, _, rfl, Fr.below hf hb, Or.inl ⟨h0, rfl⟩, hb⟩
    · have hw : x.what = 1 ∨ x.what = 2 := by omega
      rcases hw with hw | hw
      · have hf' : Fr W cs 0 0 [] [tlN l x.ch + 2] := by
          have := hf
          simp only [FrA] at this
          rw [hw] at this
          exact this
        cases y
        · have e1 : mres l x a false = x := by rw [mres, if_neg (by omega), hw]; rfl
          rw [e1]
          refine (lockResume_stay W cs _ _ a _ _ false z LA ln lc hf' (Or.inr ⟨rfl, rfl⟩)).mono ?_
          rintro e w' ⟨rfl, hb⟩
          exact ⟨_, _, rfl, Fr.below hf hb, Or.inr ⟨h1, h2, h3, rfl⟩, hb⟩
        · have e1 : mres l x a true = mend x 1 0 := by rw [mres, if_neg (by omega), hw]; rfl
          rw [e1]
          refine (lockResume_done W cs _ _ a _ _ true z LA ln lc hf' (Or.inr ⟨rfl, rfl⟩)).mono ?_
          rintro e w' ⟨cs', rfl, h, hb⟩
          exact ⟨cs', ⟨1, -1, [0], []⟩, rfl, h, Or.inl ⟨rfl, rfl⟩, hb⟩
      · have hf' : Fr W cs 0 1 [] [tlN l x.ch + 2] := by
          have := hf
          simp only [FrA] at this
          rw [hw] at this
          exact this
        have e1 : mres l x a y = mend x 1 0 := by rw [mres, if_neg (by omega), hw]; rfl
        rw [e1]
        refine (lockResume_done W cs _ _ a _ _ y z LA ln lc hf' (Or.inl rfl)).mono ?_
        rintro e w' ⟨cs', rfl, h, hb⟩
        exact ⟨cs', ⟨1, -1, [0], []⟩, rfl, h, Or.inl ⟨rfl, rfl⟩, hb⟩
set_option maxHeartbeats 1000000 in
set_option maxRecDepth 100000 in
theorem start7_1 (w : World) (A : Option Addr) (n c : Nat) (l : List Int) (B : Option Addr) (m d : Nat) (t : Int) (h : Cf w A n l) (ch th : Nat) (hch : ch ≤ n) (ix kd v : Int) :
    Calls Try.prog 53 #[.agg #[.slice A n c, .slice B m d, .int .i64 t], .agg (Mc.cells A n c B m d t ⟨1, 1, ch, th, ix, kd, v, 0, 0, 0, 0⟩)] w fun e w' => ∃ cs, e = .returned (.agg cs) ∧ Fr w' cs 0 0 [] [tlN l ch + 2] ∧ Below w.heap.size w w' := by
  have hs : ∀ o1 o2 o3, Calls Try.prog 25 #[.agg #[.slice A n c, .slice B m d, .int .i64 t], .int .i64 ch] (((w.alloc o1).alloc o2).alloc o3) fun e w' => ∃ cs, e = .returned (.agg cs) ∧ Fr w' cs 0 0 [] [tlN l ch + 2] ∧ Below (((w.alloc o1).alloc o2).alloc o3).heap.size (((w.alloc o1).alloc o2).alloc o3) w' := fun o1 o2 o3 => lockTake_any _ A n c l B m d t (((h.alloc o1).alloc o2).alloc o3) ch hch
  generalize tlN l ch + 2 = p at hs ⊢
  have HS := hide hs
  clear h hs
  rw [Mc.cells]
  go_enter Try.func53, Try.ntmps53
  go_wp2_with fail
  refine (HS.out _ _ _).mono ?_
  rintro e w2 ⟨cs, rfl, hf, hb⟩
  obtain ⟨k2, kb⟩ := at_third hb
  obtain ⟨FA, fn, fc, FB, fm, fd, rfl, -⟩ := id hf
  have HF := hide hf
  have KB := hide kb
  have K2 := hide k2
  have HT := hide (k2.there (n := 5) rfl)
  clear hb k2 kb hf
  go_wp2_with ((with_reducible show wpList _ _ _ _ _ _); refine wpList_store_res (by rfl) 55 _ _ (by rfl) (w.heap.size + 1 + 1) #[.int .i64 0, .int .i64 0, .slice FA fn fc, .slice FB fm fd, .slice none 0 0] (by rfl) (by rfl) HT.out Try.fr_inf (fr_one _ _ _ _ _ _ _ _ _ _ _) ?_; intro wz HZ)
  obtain ⟨fs, hfs⟩ := Try.fr_und
  exact ret_stored HZ Try.results53 rfl HT.out hfs rfl Try.fr_inf rfl ⟨_, rfl, Fr.stored HZ HF.out K2.out, below_stored HZ KB.out (by omega)⟩
set_option maxHeartbeats 1000000 in
set_option maxRecDepth 100000 in
theorem start7_2 (w : World) (A : Option Addr) (n c : Nat) (l : List Int) (B : Option Addr) (m d : Nat) (t : Int) (h : Cf w A n l) (ch th : Nat) (hch : ch ≤ n) (ix kd v : Int) :
    Calls Try.prog 53 #[.agg #[.slice A n c, .slice B m d, .int .i64 t], .agg (Mc.cells A n c B m d t ⟨2, 1, ch, th, ix, kd, v, 0, 0, 0, 0⟩)] w fun e w' => ∃ cs, e = .returned (.agg cs) ∧ Fr w' cs 0 1 [] [tlN l ch + 2] ∧ Below w.heap.size w w' := by
  have hs : ∀ o1 o2 o3, Calls Try.prog 23 #[.agg #[.slice A n c, .slice B m d, .int .i64 t], .int .i64 ch] (((w.alloc o1).alloc o2).alloc o3) fun e w' => ∃ cs, e = .returned (.agg cs) ∧ Fr w' cs 0 1 [] [tlN l ch + 2] ∧ Below (((w.alloc o1).alloc o2).alloc o3).heap.size (((w.alloc o1).alloc o2).alloc o3) w' := fun o1 o2 o3 => lockRelease_any _ A n c l B m d t (((h.alloc o1).alloc o2).alloc o3) ch hch
  generalize tlN l ch + 2 = p at hs ⊢
  have HS := hide hs
  clear h hs
  rw [Mc.cells]
  go_enter Try.func53, Try.ntmps53
  go_wp2_with fail
  refine (HS.out _ _ _).mono ?_
  rintro e w2 ⟨cs, rfl, hf, hb⟩
  obtain ⟨k2, kb⟩ := at_third hb
  obtain ⟨FA, fn, fc, FB, fm, fd, rfl, -⟩ := id hf
  have HF := hide hf
  have KB := hide kb
  have K2 := hide k2
  have HT := hide (k2.there (n := 5) rfl)
  clear hb k2 kb hf
  go_wp2_with ((with_reducible show wpList _ _ _ _ _ _); refine wpList_store_res (by rfl) 55 _ _ (by rfl) (w.heap.size + 1 + 1) #[.int .i64 0, .int .i64 1, .slice FA fn fc, .slice FB fm fd, .slice none 0 0] (by rfl) (by rfl) HT.out Try.fr_inf (fr_one _ _ _ _ _ _ _ _ _ _ _) ?_; intro wz HZ)
  obtain ⟨fs, hfs⟩ := Try.fr_und
  exact ret_stored HZ Try.results53 rfl HT.out hfs rfl Try.fr_inf rfl ⟨_, rfl, Fr.stored HZ HF.out K2.out, below_stored HZ KB.out (by omega)⟩
theorem start7_any (w : World) (A : Option Addr) (n c : Nat) (l : List Int) (B : Option Addr) (m d : Nat) (t : Int) (h : Cf w A n l) (what ch th : Nat) (hw : what = 1 ∨ what = 2) (hch : ch ≤ n) (ix kd v : Int) :
    Calls Try.prog 53 #[.agg #[.slice A n c, .slice B m d, .int .i64 t], .agg (Mc.cells A n c B m d t ⟨what, 1, ch, th, ix, kd, v, 0, 0, 0, 0⟩)] w fun e w' => ∃ cs q', e = .returned (.agg cs) ∧ FrA w' cs q' ∧ Rp7 l ⟨what, 1, ch, th, ix, kd, v, 0, 0, 0, 0⟩ q' ∧ Below w.heap.size w w' := by
  rcases hw with rfl | rfl
  · refine (start7_1 w A n c l B m d t h ch th hch ix kd v).mono ?_
    rintro e w' ⟨cs, rfl, hf, hb⟩
    exact ⟨cs, ⟨0, 0, [], [tlN l ch + 2]⟩, rfl, hf, Or.inr ⟨rfl, rfl, rfl, rfl⟩, hb⟩
  · refine (start7_2 w A n c l B m d t h ch th hch ix kd v).mono ?_
    rintro e w' ⟨cs, rfl, hf, hb⟩
    exact ⟨cs, ⟨0, 1, [], [tlN l ch + 2]⟩, rfl, hf, Or.inr ⟨rfl, rfl, rfl, rfl⟩, hb⟩
end Go.Proofs.Ytadaoobdnnleaaa
