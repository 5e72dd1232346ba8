/- Several texts in one. -/
import Derived.Test.YtepngbdjobckbaaN2a
import Derived.Test.YtepngbdjobckbaaN2b
import Derived.Test.YtepngbdjobckbaaN2c
section
namespace Go.Proofs.Ytepngbdjobckbaa
open Go.RowKit
set_option linter.unusedVariables false

theorem below3 (w : World) (o1 o2 o3 : Obj) : Below w.heap.size w (((w.alloc o1).alloc o2).alloc o3) := ((below_new _ _).alloc (by simp) _).alloc (by simp; omega) _
theorem bnot {b : Bool} (h : ¬ b = true) : b = false := by simpa using h
theorem mshut_any (w : World) (A : Option Addr) (n c : Nat) (B : Option Addr) (m d : Nat) (t : Int) (what ch th : Nat) (ix kd v tt h ok ov a : Int) (y z : Bool) (LA : Option Addr) (ln lc : Nat) (l : List Int) (hcf : Cf w A n l) (hch : ch < n) (at_ : Nat) (hat : at_ ≠ 0) (h7 : at_ ≤ 2) (ha : u64 a) (ht : u64 tt) :
    Calls Try.prog 54 #[.agg (Mc.cells A n c B m d t ⟨what, at_, ch, th, ix, kd, v, tt, h, ok, ov⟩), .agg #[.int .u64 a, .bool y, .bool z, .slice LA ln lc]] w fun e w' => e = .returned (.agg (Mc.cells A n c B m d t (mshut ⟨what, at_, ch, th, ix, kd, v, tt, h, ok, ov⟩ a y))) ∧ Below w.heap.size w w' := by
  have h12 : at_ = 1 ∨ at_ = 2 := by omega
  rcases h12 with rfl | rfl
  · cases hcl : cl a
    · rw [show mshut ⟨what, 1, ch, th, ix, kd, v, tt, h, ok, ov⟩ a y = mto ⟨what, 1, ch, th, ix, kd, v, a, h, ok, ov⟩ 2 by simp [mshut, hcl]]
      exact mshut_1n w A n c B m d t what ch th ix kd v tt h ok ov a y z LA ln lc ha hcl
    · rw [show mshut ⟨what, 1, ch, th, ix, kd, v, tt, h, ok, ov⟩ a y = mend ⟨what, 1, ch, th, ix, kd, v, a, h, ok, ov⟩ 4 0 by simp [mshut, hcl]]
      exact mshut_1c w A n c B m d t what ch th ix kd v tt h ok ov a y z LA ln lc ha hcl
  · cases y
    · rw [show mshut ⟨what, 2, ch, th, ix, kd, v, tt, h, ok, ov⟩ a false = mto ⟨what, 2, ch, th, ix, kd, v, tt, h, ok, ov⟩ 1 by simp [mshut]]
      exact mshut_2n w A n c B m d t what ch th ix kd v tt h ok ov a z LA ln lc
    · rw [show mshut ⟨what, 2, ch, th, ix, kd, v, tt, h, ok, ov⟩ a true = mend ⟨what, 2, ch, th, ix, kd, v, tt, h, ok, ov⟩ 1 0 by simp [mshut]]
      exact mshut_2y w A n c B m d t what ch th ix kd v tt h ok ov a z LA ln lc
theorem mcount_any (w : World) (A : Option Addr) (n c : Nat) (B : Option Addr) (m d : Nat) (t : Int) (what ch th : Nat) (ix kd v tt h ok ov a : Int) (y z : Bool) (LA : Option Addr) (ln lc : Nat) (l : List Int) (hcf : Cf w A n l) (hch : ch < n) (at_ : Nat) (hat : at_ ≠ 0) (h7 : at_ ≤ 3) (ha : u64 a) (ht : u64 tt) :
    Calls Try.prog 55 #[.agg (Mc.cells A n c B m d t ⟨what, at_, ch, th, ix, kd, v, tt, h, ok, ov⟩), .agg #[.int .u64 a, .bool y, .bool z, .slice LA ln lc]] w fun e w' => e = .returned (.agg (Mc.cells A n c B m d t (mcount ⟨what, at_, ch, th, ix, kd, v, tt, h, ok, ov⟩ a))) ∧ Below w.heap.size w w' := by
  have h12 : at_ = 1 ∨ at_ = 2 ∨ at_ = 3 := by omega
  rcases h12 with rfl | rfl | rfl
  · rw [show mcount ⟨what, 1, ch, th, ix, kd, v, tt, h, ok, ov⟩ a = mto ⟨what, 1, ch, th, ix, kd, v, a, h, ok, ov⟩ 2 by simp [mcount]]
    exact mcount_1 w A n c B m d t what ch th ix kd v tt h ok ov a y z LA ln lc
  · rw [show mcount ⟨what, 2, ch, th, ix, kd, v, tt, h, ok, ov⟩ a = mto ⟨what, 2, ch, th, ix, kd, v, tt, a, ok, ov⟩ 3 by simp [mcount]]
    exact mcount_2 w A n c B m d t what ch th ix kd v tt h ok ov a y z LA ln lc
  · by_cases he : a = tt
    · rw [show mcount ⟨what, 3, ch, th, ix, kd, v, tt, h, ok, ov⟩ a = mend ⟨what, 3, ch, th, ix, kd, v, tt, h, ok, ov⟩ 9 (rest (tt / 2) h) by simp [mcount, he]]
      exact mcount_3e w A n c B m d t what ch th ix kd v tt h ok ov a y z LA ln lc _ (by simpa using he) rfl
    · rw [show mcount ⟨what, 3, ch, th, ix, kd, v, tt, h, ok, ov⟩ a = mto ⟨what, 3, ch, th, ix, kd, v, a, h, ok, ov⟩ 2 by simp [mcount, he]]
      exact mcount_3n w A n c B m d t what ch th ix kd v tt h ok ov a y z LA ln lc (by simpa using he)
theorem mpush_any (w : World) (A : Option Addr) (n c : Nat) (B : Option Addr) (m d : Nat) (t : Int) (what ch th : Nat) (ix kd v tt h ok ov a : Int) (y z : Bool) (LA : Option Addr) (ln lc : Nat) (l : List Int) (hcf : Cf w A n l) (hch : ch < n) (at_ : Nat) (hat : at_ ≠ 0) (h7 : at_ ≤ 7) (ha : u64 a) (ht : u64 tt) :
    Calls Try.prog 52 #[.agg (Mc.cells A n c B m d t ⟨what, at_, ch, th, ix, kd, v, tt, h, ok, ov⟩), .agg #[.int .u64 a, .bool y, .bool z, .slice LA ln lc]] w fun e w' => e = .returned (.agg (Mc.cells A n c B m d t (mpush (l.getD ch 0) ⟨what, at_, ch, th, ix, kd, v, tt, h, ok, ov⟩ a y))) ∧ Below w.heap.size w w' := by
  have h12 : at_ = 1 ∨ at_ = 2 ∨ at_ = 3 ∨ at_ = 4 ∨ at_ = 5 ∨ at_ = 6 ∨ at_ = 7 := by omega
  rcases h12 with rfl | rfl | rfl | rfl | rfl | rfl | rfl
  · cases hcl : cl a
    · rw [show mpush (l.getD ch 0) ⟨what, 1, ch, th, ix, kd, v, tt, h, ok, ov⟩ a y = mto ⟨what, 1, ch, th, ix, kd, v, a, h, ok, ov⟩ 2 by simp [mpush, hcl]]
      exact mpush_1n w A n c B m d t what ch th ix kd v tt h ok ov a y z LA ln lc ha hcl
    · rw [show mpush (l.getD ch 0) ⟨what, 1, ch, th, ix, kd, v, tt, h, ok, ov⟩ a y = mend ⟨what, 1, ch, th, ix, kd, v, a, h, ok, ov⟩ 4 0 by simp [mpush, hcl]]
      exact mpush_1c w A n c B m d t what ch th ix kd v tt h ok ov a y z LA ln lc ha hcl
  · by_cases he : rest (tt / 2) a = l.getD ch 0
    · rw [show mpush (l.getD ch 0) ⟨what, 2, ch, th, ix, kd, v, tt, h, ok, ov⟩ a y = mto ⟨what, 2, ch, th, ix, kd, v, tt, h, ok, ov⟩ 3 by simp only [mpush, if_pos he]]
      exact mpush_2e w A n c B m d t what ch th ix kd v tt h ok ov a y z LA ln lc l hcf hch _ _ rfl rfl (by simpa using he)
    · by_cases hg : l.getD ch 0 < rest (tt / 2) a
      · rw [show mpush (l.getD ch 0) ⟨what, 2, ch, th, ix, kd, v, tt, h, ok, ov⟩ a y = mto ⟨what, 2, ch, th, ix, kd, v, tt, h, ok, ov⟩ 1 by simp only [mpush, if_neg he, if_pos hg]]
        exact mpush_2g w A n c B m d t what ch th ix kd v tt h ok ov a y z LA ln lc l hcf hch _ _ rfl rfl (by simpa using he) (by simpa using hg)
      · rw [show mpush (l.getD ch 0) ⟨what, 2, ch, th, ix, kd, v, tt, h, ok, ov⟩ a y = mto ⟨what, 2, ch, th, ix, kd, v, tt, h, ok, ov⟩ 4 by simp only [mpush, if_neg he, if_neg hg]]
        exact mpush_2l w A n c B m d t what ch th ix kd v tt h ok ov a y z LA ln lc l hcf hch _ _ rfl rfl (by simpa using he) (by simpa using hg)
  · by_cases he : a = tt
    · rw [show mpush (l.getD ch 0) ⟨what, 3, ch, th, ix, kd, v, tt, h, ok, ov⟩ a y = mend ⟨what, 3, ch, th, ix, kd, v, tt, h, ok, ov⟩ 2 0 by simp [mpush, he]]
      exact mpush_3e w A n c B m d t what ch th ix kd v tt h ok ov a y z LA ln lc (by simpa using he)
    · cases hcl : cl a
      · rw [show mpush (l.getD ch 0) ⟨what, 3, ch, th, ix, kd, v, tt, h, ok, ov⟩ a y = mto ⟨what, 3, ch, th, ix, kd, v, a, h, ok, ov⟩ 2 by simp [mpush, he, hcl]]
        exact mpush_3n w A n c B m d t what ch th ix kd v tt h ok ov a y z LA ln lc (by simpa using he) ha hcl
      · rw [show mpush (l.getD ch 0) ⟨what, 3, ch, th, ix, kd, v, tt, h, ok, ov⟩ a y = mend ⟨what, 3, ch, th, ix, kd, v, a, h, ok, ov⟩ 4 0 by simp [mpush, he, hcl]]
        exact mpush_3c w A n c B m d t what ch th ix kd v tt h ok ov a y z LA ln lc (by simpa using he) ha hcl
  · by_cases he : a = tt / 2
    · rw [show mpush (l.getD ch 0) ⟨what, 4, ch, th, ix, kd, v, tt, h, ok, ov⟩ a y = mto ⟨what, 4, ch, th, ix, kd, v, tt, h, ok, ov⟩ 5 by simp [mpush, ← he]]
      exact mpush_4e w A n c B m d t what ch th ix kd v tt h ok ov a y z LA ln lc (by simpa using he)
    · rw [show mpush (l.getD ch 0) ⟨what, 4, ch, th, ix, kd, v, tt, h, ok, ov⟩ a y = mto ⟨what, 4, ch, th, ix, kd, v, tt, h, ok, ov⟩ 1 by simp [mpush, he]]
      exact mpush_4n w A n c B m d t what ch th ix kd v tt h ok ov a y z LA ln lc (by simpa using he)
  · cases y
    · rw [show mpush (l.getD ch 0) ⟨what, 5, ch, th, ix, kd, v, tt, h, ok, ov⟩ a false = mto ⟨what, 5, ch, th, ix, kd, v, tt, h, ok, ov⟩ 1 by simp [mpush]]
      exact mpush_5n w A n c B m d t what ch th ix kd v tt h ok ov a z LA ln lc
    · rw [show mpush (l.getD ch 0) ⟨what, 5, ch, th, ix, kd, v, tt, h, ok, ov⟩ a true = mto ⟨what, 5, ch, th, ix, kd, v, tt, h, ok, ov⟩ 6 by simp [mpush]]
      exact mpush_5y w A n c B m d t what ch th ix kd v tt h ok ov a z LA ln lc
  · rw [show mpush (l.getD ch 0) ⟨what, 6, ch, th, ix, kd, v, tt, h, ok, ov⟩ a y = mto ⟨what, 6, ch, th, ix, kd, v, tt, h, ok, ov⟩ 7 by simp [mpush]]
    exact mpush_6 w A n c B m d t what ch th ix kd v tt h ok ov a y z LA ln lc
  · rw [show mpush (l.getD ch 0) ⟨what, 7, ch, th, ix, kd, v, tt, h, ok, ov⟩ a y = mend ⟨what, 7, ch, th, ix, kd, v, tt, h, ok, ov⟩ 1 0 by simp [mpush]]
    exact mpush_7 w A n c B m d t what ch th ix kd v tt h ok ov a y z LA ln lc
theorem mpop_any (w : World) (A : Option Addr) (n c : Nat) (B : Option Addr) (m d : Nat) (t : Int) (what ch th : Nat) (ix kd v tt h ok ov a : Int) (y z : Bool) (LA : Option Addr) (ln lc : Nat) (l : List Int) (hcf : Cf w A n l) (hch : ch < n) (at_ : Nat) (hat : at_ ≠ 0) (h7 : at_ ≤ 7) (ha : u64 a) (ht : u64 tt) :
    Calls Try.prog 53 #[.agg (Mc.cells A n c B m d t ⟨what, at_, ch, th, ix, kd, v, tt, h, ok, ov⟩), .agg #[.int .u64 a, .bool y, .bool z, .slice LA ln lc]] w fun e w' => e = .returned (.agg (Mc.cells A n c B m d t (mpop (l.getD ch 0) ⟨what, at_, ch, th, ix, kd, v, tt, h, ok, ov⟩ a y))) ∧ Below w.heap.size w w' := by
  have h12 : at_ = 1 ∨ at_ = 2 ∨ at_ = 3 ∨ at_ = 4 ∨ at_ = 5 ∨ at_ = 6 ∨ at_ = 7 := by omega
  rcases h12 with rfl | rfl | rfl | rfl | rfl | rfl | rfl
  · rw [show mpop (l.getD ch 0) ⟨what, 1, ch, th, ix, kd, v, tt, h, ok, ov⟩ a y = mto ⟨what, 1, ch, th, ix, kd, v, tt, a, ok, ov⟩ 2 by simp [mpop]]
    exact mpop_1 w A n c B m d t what ch th ix kd v tt h ok ov a y z LA ln lc
  · by_cases he : rest (a / 2) h = 0
    · rw [show mpop (l.getD ch 0) ⟨what, 2, ch, th, ix, kd, v, tt, h, ok, ov⟩ a y = mto ⟨what, 2, ch, th, ix, kd, v, a, h, ok, ov⟩ 3 by simp [mpop, he]]
      exact mpop_2z w A n c B m d t what ch th ix kd v tt h ok ov a y z LA ln lc _ rfl (by simpa using he)
    · by_cases hg : l.getD ch 0 < rest (a / 2) h
      · rw [show mpop (l.getD ch 0) ⟨what, 2, ch, th, ix, kd, v, tt, h, ok, ov⟩ a y = mto ⟨what, 2, ch, th, ix, kd, v, a, h, ok, ov⟩ 1 by simp only [mpop, if_neg he, if_pos hg]]
        exact mpop_2g w A n c B m d t what ch th ix kd v tt h ok ov a y z LA ln lc l hcf hch _ _ rfl rfl (by simpa using he) (by simpa using hg)
      · rw [show mpop (l.getD ch 0) ⟨what, 2, ch, th, ix, kd, v, tt, h, ok, ov⟩ a y = mto ⟨what, 2, ch, th, ix, kd, v, a, h, ok, ov⟩ 4 by simp only [mpop, if_neg he, if_neg hg]]
        exact mpop_2l w A n c B m d t what ch th ix kd v tt h ok ov a y z LA ln lc l hcf hch _ _ rfl rfl (by simpa using he) (by simpa using hg)
  · by_cases he : a = h
    · cases hcl : cl tt
      · rw [show mpop (l.getD ch 0) ⟨what, 3, ch, th, ix, kd, v, tt, h, ok, ov⟩ a y = mend ⟨what, 3, ch, th, ix, kd, v, tt, h, ok, ov⟩ 3 0 by simp [mpop, he, hcl]]
        exact mpop_3e w A n c B m d t what ch th ix kd v tt h ok ov a y z LA ln lc (by simpa using he) ht hcl
      · rw [show mpop (l.getD ch 0) ⟨what, 3, ch, th, ix, kd, v, tt, h, ok, ov⟩ a y = mend ⟨what, 3, ch, th, ix, kd, v, tt, h, ok, ov⟩ 5 0 by simp [mpop, he, hcl]]
        exact mpop_3c w A n c B m d t what ch th ix kd v tt h ok ov a y z LA ln lc (by simpa using he) ht hcl
    · rw [show mpop (l.getD ch 0) ⟨what, 3, ch, th, ix, kd, v, tt, h, ok, ov⟩ a y = mto ⟨what, 3, ch, th, ix, kd, v, tt, a, ok, ov⟩ 2 by simp [mpop, he]]
      exact mpop_3n w A n c B m d t what ch th ix kd v tt h ok ov a y z LA ln lc (by simpa using he)
  · by_cases he : a = nx h 1
    · rw [show mpop (l.getD ch 0) ⟨what, 4, ch, th, ix, kd, v, tt, h, ok, ov⟩ a y = mto ⟨what, 4, ch, th, ix, kd, v, tt, h, ok, ov⟩ 5 by simp [mpop, ← he]]
      exact mpop_4e w A n c B m d t what ch th ix kd v tt h ok ov a y z LA ln lc _ rfl (by simpa using he)
    · rw [show mpop (l.getD ch 0) ⟨what, 4, ch, th, ix, kd, v, tt, h, ok, ov⟩ a y = mto ⟨what, 4, ch, th, ix, kd, v, tt, h, ok, ov⟩ 1 by simp [mpop, he]]
      exact mpop_4n w A n c B m d t what ch th ix kd v tt h ok ov a y z LA ln lc _ rfl (by simpa using he)
  · cases y
    · rw [show mpop (l.getD ch 0) ⟨what, 5, ch, th, ix, kd, v, tt, h, ok, ov⟩ a false = mto ⟨what, 5, ch, th, ix, kd, v, tt, h, ok, ov⟩ 1 by simp [mpop]]
      exact mpop_5n w A n c B m d t what ch th ix kd v tt h ok ov a z LA ln lc
    · rw [show mpop (l.getD ch 0) ⟨what, 5, ch, th, ix, kd, v, tt, h, ok, ov⟩ a true = mto ⟨what, 5, ch, th, ix, kd, v, tt, h, ok, ov⟩ 6 by simp [mpop]]
      exact mpop_5y w A n c B m d t what ch th ix kd v tt h ok ov a z LA ln lc
  · rw [show mpop (l.getD ch 0) ⟨what, 6, ch, th, ix, kd, v, tt, h, ok, ov⟩ a y = mto ⟨what, 6, ch, th, ix, kd, a, tt, h, ok, ov⟩ 7 by simp [mpop]]
    exact mpop_6 w A n c B m d t what ch th ix kd v tt h ok ov a y z LA ln lc
  · rw [show mpop (l.getD ch 0) ⟨what, 7, ch, th, ix, kd, v, tt, h, ok, ov⟩ a y = mend ⟨what, 7, ch, th, ix, kd, v, tt, h, ok, ov⟩ 6 v by simp [mpop]]
    exact mpop_7 w A n c B m d t what ch th ix kd v tt h ok ov a y z LA ln lc
end Go.Proofs.Ytepngbdjobckbaa
end
section
namespace Go.Proofs.Ytepngbdjobckbaa
open Go.RowKit
set_option linter.unusedVariables false
attribute [local irreducible] Go.bits

set_option maxHeartbeats 1000000 in
set_option maxRecDepth 100000 in
theorem mres_3 (w : World) (A : Option Addr) (n c : Nat) (B : Option Addr) (m d : Nat) (t : Int) (at_ ch th : Nat) (ix kd v tt h ok ov a : Int) (y z : Bool) (LA : Option Addr) (ln lc : Nat) (hat : ((at_ : Int) == 0) = false) (l : List Int) (hcf : Cf w A n l) (hch : ch < n) (h7 : at_ ≤ 7) (ha : u64 a) (ht : u64 tt) :
    Calls Try.prog 22 #[.agg (Mc.cells A n c B m d t ⟨3, at_, ch, th, ix, kd, v, tt, h, ok, ov⟩), .agg #[.int .u64 a, .bool y, .bool z, .slice LA ln lc]] w fun e w' => e = .returned (.agg (Mc.cells A n c B m d t (mpush (l.getD ch 0) ⟨3, at_, ch, th, ix, kd, v, tt, h, ok, ov⟩ a y))) ∧ Below w.heap.size w w' := by
  have hp : ∀ W, Below w.heap.size w W → Calls Try.prog 52 #[.agg (Mc.cells A n c B m d t ⟨3, at_, ch, th, ix, kd, v, tt, h, ok, ov⟩), .agg #[.int .u64 a, .bool y, .bool z, .slice LA ln lc]] W fun e w' => e = .returned (.agg (Mc.cells A n c B m d t (mpush (l.getD ch 0) ⟨3, at_, ch, th, ix, kd, v, tt, h, ok, ov⟩ a y))) ∧ Below W.heap.size W w' := fun W hW => mpush_any W A n c B m d t 3 ch th ix kd v tt h ok ov a y z LA ln lc l (hcf.below hW) hch at_ (by simpa using hat) h7 ha ht
  have HP := hide hp
  clear hp hcf ha ht
  rw [Mc.cells]
  go_enter Try.func22, Try.ntmps22
  go_wp2_with fail
  refine (HP.out _ (below3 _ _ _ _)).mono ?_
  rintro e w9 ⟨rfl, hb⟩
  have V9 := hide (E3.of hb)
  clear hb
  have HT := hide (V9.out.b3.there (n := 14) rfl)
  go_wp2_with ((with_reducible show wpList _ _ _ _ _ _); refine wpList_store_res (by rfl) 58 _ _ (by rfl) (w.heap.size + 1 + 1) (Mc.cells A n c B m d t (mpush (l.getD ch 0) ⟨3, at_, ch, th, ix, kd, v, tt, h, ok, ov⟩ a y)) (by rfl) (by rfl) HT.out Try.mc_inf (mc_one _ _ _ _ _ _ _ _) ?_; intro wz HZ)
  obtain ⟨fs, hfs⟩ := Try.mc_und
  exact ret_stored HZ Try.results22 rfl HT.out hfs rfl Try.mc_inf rfl ⟨rfl, below_stored HZ V9.out.bel (by omega)⟩

set_option maxHeartbeats 1000000 in
set_option maxRecDepth 100000 in
theorem mres_4 (w : World) (A : Option Addr) (n c : Nat) (B : Option Addr) (m d : Nat) (t : Int) (at_ ch th : Nat) (ix kd v tt h ok ov a : Int) (y z : Bool) (LA : Option Addr) (ln lc : Nat) (hat : ((at_ : Int) == 0) = false) (l : List Int) (hcf : Cf w A n l) (hch : ch < n) (h7 : at_ ≤ 7) (ha : u64 a) (ht : u64 tt) :
    Calls Try.prog 22 #[.agg (Mc.cells A n c B m d t ⟨4, at_, ch, th, ix, kd, v, tt, h, ok, ov⟩), .agg #[.int .u64 a, .bool y, .bool z, .slice LA ln lc]] w fun e w' => e = .returned (.agg (Mc.cells A n c B m d t (mpop (l.getD ch 0) ⟨4, at_, ch, th, ix, kd, v, tt, h, ok, ov⟩ a y))) ∧ Below w.heap.size w w' := by
  have hp : ∀ W, Below w.heap.size w W → Calls Try.prog 53 #[.agg (Mc.cells A n c B m d t ⟨4, at_, ch, th, ix, kd, v, tt, h, ok, ov⟩), .agg #[.int .u64 a, .bool y, .bool z, .slice LA ln lc]] W fun e w' => e = .returned (.agg (Mc.cells A n c B m d t (mpop (l.getD ch 0) ⟨4, at_, ch, th, ix, kd, v, tt, h, ok, ov⟩ a y))) ∧ Below W.heap.size W w' := fun W hW => mpop_any W A n c B m d t 4 ch th ix kd v tt h ok ov a y z LA ln lc l (hcf.below hW) hch at_ (by simpa using hat) h7 ha ht
  have HP := hide hp
  clear hp hcf ha ht
  rw [Mc.cells]
  go_enter Try.func22, Try.ntmps22
  go_wp2_with fail
  refine (HP.out _ (below3 _ _ _ _)).mono ?_
  rintro e w9 ⟨rfl, hb⟩
  have V9 := hide (E3.of hb)
  clear hb
  have HT := hide (V9.out.b3.there (n := 14) rfl)
  go_wp2_with ((with_reducible show wpList _ _ _ _ _ _); refine wpList_store_res (by rfl) 58 _ _ (by rfl) (w.heap.size + 1 + 1) (Mc.cells A n c B m d t (mpop (l.getD ch 0) ⟨4, at_, ch, th, ix, kd, v, tt, h, ok, ov⟩ a y)) (by rfl) (by rfl) HT.out Try.mc_inf (mc_one _ _ _ _ _ _ _ _) ?_; intro wz HZ)
  obtain ⟨fs, hfs⟩ := Try.mc_und
  exact ret_stored HZ Try.results22 rfl HT.out hfs rfl Try.mc_inf rfl ⟨rfl, below_stored HZ V9.out.bel (by omega)⟩

set_option maxHeartbeats 1000000 in
set_option maxRecDepth 100000 in
theorem mres_5 (w : World) (A : Option Addr) (n c : Nat) (B : Option Addr) (m d : Nat) (t : Int) (at_ ch th : Nat) (ix kd v tt h ok ov a : Int) (y z : Bool) (LA : Option Addr) (ln lc : Nat) (hat : ((at_ : Int) == 0) = false) (l : List Int) (hcf : Cf w A n l) (hch : ch < n) (h7 : at_ ≤ 2) (ha : u64 a) (ht : u64 tt) :
    Calls Try.prog 22 #[.agg (Mc.cells A n c B m d t ⟨5, at_, ch, th, ix, kd, v, tt, h, ok, ov⟩), .agg #[.int .u64 a, .bool y, .bool z, .slice LA ln lc]] w fun e w' => e = .returned (.agg (Mc.cells A n c B m d t (mshut ⟨5, at_, ch, th, ix, kd, v, tt, h, ok, ov⟩ a y))) ∧ Below w.heap.size w w' := by
  have hp : ∀ W, Below w.heap.size w W → Calls Try.prog 54 #[.agg (Mc.cells A n c B m d t ⟨5, at_, ch, th, ix, kd, v, tt, h, ok, ov⟩), .agg #[.int .u64 a, .bool y, .bool z, .slice LA ln lc]] W fun e w' => e = .returned (.agg (Mc.cells A n c B m d t (mshut ⟨5, at_, ch, th, ix, kd, v, tt, h, ok, ov⟩ a y))) ∧ Below W.heap.size W w' := fun W hW => mshut_any W A n c B m d t 5 ch th ix kd v tt h ok ov a y z LA ln lc l (hcf.below hW) hch at_ (by simpa using hat) h7 ha ht
  have HP := hide hp
  clear hp hcf ha ht
  rw [Mc.cells]
  go_enter Try.func22, Try.ntmps22
  go_wp2_with fail
  refine (HP.out _ (below3 _ _ _ _)).mono ?_
  rintro e w9 ⟨rfl, hb⟩
  have V9 := hide (E3.of hb)
  clear hb
  have HT := hide (V9.out.b3.there (n := 14) rfl)
  go_wp2_with ((with_reducible show wpList _ _ _ _ _ _); refine wpList_store_res (by rfl) 58 _ _ (by rfl) (w.heap.size + 1 + 1) (Mc.cells A n c B m d t (mshut ⟨5, at_, ch, th, ix, kd, v, tt, h, ok, ov⟩ a y)) (by rfl) (by rfl) HT.out Try.mc_inf (mc_one _ _ _ _ _ _ _ _) ?_; intro wz HZ)
  obtain ⟨fs, hfs⟩ := Try.mc_und
  exact ret_stored HZ Try.results22 rfl HT.out hfs rfl Try.mc_inf rfl ⟨rfl, below_stored HZ V9.out.bel (by omega)⟩

set_option maxHeartbeats 1000000 in
set_option maxRecDepth 100000 in
theorem mres_6 (w : World) (A : Option Addr) (n c : Nat) (B : Option Addr) (m d : Nat) (t : Int) (at_ ch th : Nat) (ix kd v tt h ok ov a : Int) (y z : Bool) (LA : Option Addr) (ln lc : Nat) (hat : ((at_ : Int) == 0) = false) (l : List Int) (hcf : Cf w A n l) (hch : ch < n) (h7 : at_ ≤ 3) (ha : u64 a) (ht : u64 tt) :
    Calls Try.prog 22 #[.agg (Mc.cells A n c B m d t ⟨6, at_, ch, th, ix, kd, v, tt, h, ok, ov⟩), .agg #[.int .u64 a, .bool y, .bool z, .slice LA ln lc]] w fun e w' => e = .returned (.agg (Mc.cells A n c B m d t (mcount ⟨6, at_, ch, th, ix, kd, v, tt, h, ok, ov⟩ a))) ∧ Below w.heap.size w w' := by
  have hp : ∀ W, Below w.heap.size w W → Calls Try.prog 55 #[.agg (Mc.cells A n c B m d t ⟨6, at_, ch, th, ix, kd, v, tt, h, ok, ov⟩), .agg #[.int .u64 a, .bool y, .bool z, .slice LA ln lc]] W fun e w' => e = .returned (.agg (Mc.cells A n c B m d t (mcount ⟨6, at_, ch, th, ix, kd, v, tt, h, ok, ov⟩ a))) ∧ Below W.heap.size W w' := fun W hW => mcount_any W A n c B m d t 6 ch th ix kd v tt h ok ov a y z LA ln lc l (hcf.below hW) hch at_ (by simpa using hat) h7 ha ht
  have HP := hide hp
  clear hp hcf ha ht
  rw [Mc.cells]
  go_enter Try.func22, Try.ntmps22
  go_wp2_with fail
  refine (HP.out _ (below3 _ _ _ _)).mono ?_
  rintro e w9 ⟨rfl, hb⟩
  have V9 := hide (E3.of hb)
  clear hb
  have HT := hide (V9.out.b3.there (n := 14) rfl)
  go_wp2_with ((with_reducible show wpList _ _ _ _ _ _); refine wpList_store_res (by rfl) 58 _ _ (by rfl) (w.heap.size + 1 + 1) (Mc.cells A n c B m d t (mcount ⟨6, at_, ch, th, ix, kd, v, tt, h, ok, ov⟩ a)) (by rfl) (by rfl) HT.out Try.mc_inf (mc_one _ _ _ _ _ _ _ _) ?_; intro wz HZ)
  obtain ⟨fs, hfs⟩ := Try.mc_und
  exact ret_stored HZ Try.results22 rfl HT.out hfs rfl Try.mc_inf rfl ⟨rfl, below_stored HZ V9.out.bel (by omega)⟩
end Go.Proofs.Ytepngbdjobckbaa
end
