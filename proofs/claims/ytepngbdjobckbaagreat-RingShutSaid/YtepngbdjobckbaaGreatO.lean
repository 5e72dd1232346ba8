/- Several texts in one. -/
import Derived.Test.YtepngbdjobckbaaGreatNN
import Derived.Test.YtepngbdjobckbaaGreatPP
import Derived.Test.YtepngbdjobckbaaGreatG
section
namespace Go.Proofs.YtepngbdjobckbaaGreat
open Go.RowKit
set_option linter.unusedVariables false

def atMax (what : Nat) : Nat := match what with | 3 => 7 | 4 => 7 | 5 => 2 | 6 => 3 | 9 => 5 | _ => 1
/-- A machine that the laws make. -/
structure Mv (n : Nat) (x : Mc) : Prop where
  w1 : 1 ≤ x.what
  w2 : x.what ≤ 11
  hat : x.at_ ≤ atMax x.what
  ch : x.ch < n
  th : x.th ≤ 8
  t : u64 x.t
  h : u64 x.h
  v : u64 x.v
  ix : 0 ≤ x.ix ∧ x.ix ≤ 7
  kd : 0 ≤ x.kd ∧ x.kd ≤ 7
theorem u64wrap {x : Int} (h : 0 ≤ x ∧ x ≤ 7) : IntKind.u64.wrap x = x % 18446744073709551616 := by
  rfl
set_option maxHeartbeats 1000000 in
set_option maxRecDepth 100000 in
theorem mnext_0 (w : World) (A : Option Addr) (n c : Nat) (B : Option Addr) (m d : Nat) (t : Int) (what ch th : Nat) (ix kd v tt h ok ov : Int) :
    Calls Tryz.prog 53 #[.agg (Mc.cells A n c B m d t ⟨what, 0, ch, th, ix, kd, v, tt, h, ok, ov⟩)] w fun e w' => e = .returned (.agg (Acc.cells ⟨0, 0, 0, 0⟩)) ∧ Below w.heap.size w w' := by
  rw [Mc.cells]
  go_enter Tryz.func53, Tryz.ntmps53
  go_wp2
  exact bodyPost_ret (v := .agg (Acc.cells ⟨0, 0, 0, 0⟩)) (by simp [results, Tryz.results53, go_sem, Acc.cells]) rfl ⟨rfl, by first | exact (below_new _ _).alloc (by simp) _ | exact ((below_new _ _).alloc (by simp) _).alloc (by simp; omega) _⟩
set_option maxHeartbeats 1000000 in
set_option maxRecDepth 100000 in
theorem mres_0 (w : World) (A : Option Addr) (n c : Nat) (B : Option Addr) (m d : Nat) (t : Int) (what ch th : Nat) (ix kd v tt h ok ov a : Int) (y z : Bool) (LA : Option Addr) (ln lc : Nat) :
    Calls Tryz.prog 54 #[.agg (Mc.cells A n c B m d t ⟨what, 0, ch, th, ix, kd, v, tt, h, ok, ov⟩), .agg #[.int .u64 a, .bool y, .bool z, .slice LA ln lc]] w fun e w' => e = .returned (.agg (Mc.cells A n c B m d t ⟨what, 0, ch, th, ix, kd, v, tt, h, ok, ov⟩)) ∧ Below w.heap.size w w' := by
  rw [Mc.cells]
  go_enter Tryz.func54, Tryz.ntmps54
  go_wp2
  exact bodyPost_ret (v := .agg (Mc.cells A n c B m d t ⟨what, 0, ch, th, ix, kd, v, tt, h, ok, ov⟩)) (by simp [results, Tryz.results54, go_sem, Mc.cells]) rfl ⟨rfl, ((below_new _ _).alloc (by simp) _).alloc (by simp; omega) _⟩
set_option maxRecDepth 100000 in
theorem mnext_any (w : World) (A : Option Addr) (n c : Nat) (B : Option Addr) (m d : Nat) (t : Int) (l : List Int) (hcf : Cf w A n l) (x : Mc) (hx : Mv n x) :
    Calls Tryz.prog 53 #[.agg (Mc.cells A n c B m d t x)] w fun e w' => e = .returned (.agg (Acc.cells (mnext l x))) ∧ Below w.heap.size w w' := by
  obtain ⟨what, at_, ch, th, ix, kd, v, tt, h, ok, ov⟩ := x
  obtain ⟨w1, w2, hat, hch, hth, ht, hh, hv, hix, hkd⟩ := hx
  dsimp only at w1 w2 hat hch hth ht hh hv hix hkd
  unfold u64 at ht hh
  by_cases h0 : at_ = 0
  · subst h0
    exact mnext_0 w A n c B m d t what ch th ix kd v tt h ok ov
  have hl := hcf.len
  have hcl : clN l th = tlN l n + (th : Int) * 11 := by rw [clN, hl]
  have hw : what = 1 ∨ what = 2 ∨ what = 3 ∨ what = 4 ∨ what = 5 ∨ what = 6 ∨ what = 7 ∨ what = 8 ∨ what = 9 ∨ what = 10 ∨ what = 11 := by omega
  rcases hw with rfl | rfl | rfl | rfl | rfl | rfl | rfl | rfl | rfl | rfl | rfl
  · have ha : at_ = 1 := by simp only [atMax] at hat; omega
    subst ha
    exact mnext_1 w A n c B m d t ch th ix kd v tt h ok ov l hcf _ rfl hch
  · have ha : at_ = 1 := by simp only [atMax] at hat; omega
    subst ha
    exact mnext_2 w A n c B m d t ch th ix kd v tt h ok ov l hcf _ rfl hch
  · have ha : at_ = 1 ∨ at_ = 2 ∨ at_ = 3 ∨ at_ = 4 ∨ at_ = 5 ∨ at_ = 6 ∨ at_ = 7 := by simp only [atMax] at hat; omega
    rcases ha with rfl | rfl | rfl | rfl | rfl | rfl | rfl
    · exact mnext_31 w A n c B m d t ch th ix kd v tt h ok ov l hcf _ rfl hch
    · exact mnext_32 w A n c B m d t ch th ix kd v tt h ok ov l hcf _ rfl hch
    · exact mnext_33 w A n c B m d t ch th ix kd v tt h ok ov l hcf _ rfl hch
    · exact mnext_34 w A n c B m d t ch th ix kd v tt h ok ov l hcf _ rfl hch _ rfl (by omega) (by omega)
    · exact mnext_35 w A n c B m d t ch th ix kd v tt h ok ov l hcf _ rfl hch
    · exact mnext_36 w A n c B m d t ch th ix kd v tt h ok ov l hcf _ rfl hch _ rfl (by omega) (by omega)
    · exact mnext_37 w A n c B m d t ch th ix kd v tt h ok ov l hcf _ rfl hch _ rfl (by omega) (by omega)
  · have ha : at_ = 1 ∨ at_ = 2 ∨ at_ = 3 ∨ at_ = 4 ∨ at_ = 5 ∨ at_ = 6 ∨ at_ = 7 := by simp only [atMax] at hat; omega
    rcases ha with rfl | rfl | rfl | rfl | rfl | rfl | rfl
    · exact mnext_41 w A n c B m d t ch th ix kd v tt h ok ov l hcf _ rfl hch
    · exact mnext_42 w A n c B m d t ch th ix kd v tt h ok ov l hcf _ rfl hch
    · exact mnext_43 w A n c B m d t ch th ix kd v tt h ok ov l hcf _ rfl hch
    · exact mnext_44 w A n c B m d t ch th ix kd v tt h ok ov l hcf _ rfl hch _ rfl (by omega) (by omega)
    · exact mnext_45 w A n c B m d t ch th ix kd v tt h ok ov l hcf _ rfl hch
    · exact mnext_46 w A n c B m d t ch th ix kd v tt h ok ov l hcf _ rfl hch _ rfl (by omega) (by omega)
    · exact mnext_47 w A n c B m d t ch th ix kd v tt h ok ov l hcf _ rfl hch _ rfl (by omega) (by omega)
  · have ha : at_ = 1 ∨ at_ = 2 := by simp only [atMax] at hat; omega
    rcases ha with rfl | rfl
    · exact mnext_51 w A n c B m d t ch th ix kd v tt h ok ov l hcf _ rfl hch
    · exact mnext_52 w A n c B m d t ch th ix kd v tt h ok ov l hcf _ rfl hch
  · have ha : at_ = 1 ∨ at_ = 2 ∨ at_ = 3 := by simp only [atMax] at hat; omega
    rcases ha with rfl | rfl | rfl
    · exact mnext_61 w A n c B m d t ch th ix kd v tt h ok ov l hcf _ rfl hch
    · exact mnext_62 w A n c B m d t ch th ix kd v tt h ok ov l hcf _ rfl hch
    · exact mnext_63 w A n c B m d t ch th ix kd v tt h ok ov l hcf _ rfl hch
  · have ha : at_ = 1 := by simp only [atMax] at hat; omega
    subst ha
    have := mnext_7 w A n c B m d t ch th ix kd v tt h ok ov l hcf _ rfl (by omega) hth _ rfl
    rw [← hcl] at this
    exact this
  · have ha : at_ = 1 := by simp only [atMax] at hat; omega
    subst ha
    have := mnext_8 w A n c B m d t ch th ix kd v tt h ok ov l hcf _ rfl (by omega) hth _ rfl
    rw [← hcl] at this
    exact this
  · have ha : at_ = 1 ∨ at_ = 2 ∨ at_ = 3 ∨ at_ = 4 ∨ at_ = 5 := by simp only [atMax] at hat; omega
    rcases ha with rfl | rfl | rfl | rfl | rfl
    · have := mnext_91 w A n c B m d t ch th ix kd v tt h ok ov l hcf _ rfl (by omega) hth _ rfl
      rw [← hcl] at this
      rw [u64wrap hix] at this
      exact this
    · have := mnext_92 w A n c B m d t ch th ix kd v tt h ok ov l hcf _ rfl (by omega) hth _ rfl
      rw [← hcl] at this
      rw [u64wrap hkd] at this
      exact this
    · have := mnext_93 w A n c B m d t ch th ix kd v tt h ok ov l hcf _ rfl (by omega) hth _ rfl
      rw [← hcl] at this
      exact this
    · have := mnext_94 w A n c B m d t ch th ix kd v tt h ok ov l hcf _ rfl (by omega) hth _ rfl
      rw [← hcl] at this
      exact this
    · have := mnext_95 w A n c B m d t ch th ix kd v tt h ok ov l hcf _ rfl (by omega) hth _ rfl
      rw [← hcl] at this
      exact this
  · have ha : at_ = 1 := by simp only [atMax] at hat; omega
    subst ha
    have := mnext_10 w A n c B m d t ch th ix kd v tt h ok ov l hcf _ rfl (by omega) hth _ rfl
    rw [← hcl] at this
    exact this
  · have ha : at_ = 1 := by simp only [atMax] at hat; omega
    subst ha
    have := mnext_11 w A n c B m d t ch th ix kd v tt h ok ov l hcf _ rfl (by omega) hth _ rfl
    rw [← hcl] at this
    exact this
set_option maxRecDepth 100000 in
theorem mres_any (w : World) (A : Option Addr) (n c : Nat) (B : Option Addr) (m d : Nat) (t : Int) (l : List Int) (hcf : Cf w A n l) (x : Mc) (hx : Mv n x) (a : Int) (y z : Bool) (LA : Option Addr) (ln lc : Nat) (ha : u64 a) :
    Calls Tryz.prog 54 #[.agg (Mc.cells A n c B m d t x), .agg #[.int .u64 a, .bool y, .bool z, .slice LA ln lc]] w fun e w' => e = .returned (.agg (Mc.cells A n c B m d t (mres l x a y))) ∧ Below w.heap.size w w' := by
  obtain ⟨what, at_, ch, th, ix, kd, v, tt, h, ok, ov⟩ := x
  obtain ⟨w1, w2, hat, hch, hth, ht, hh, hv, hix, hkd⟩ := hx
  dsimp only at w1 w2 hat hch hth ht hh hv hix hkd
  by_cases h0 : at_ = 0
  · subst h0
    exact mres_0 w A n c B m d t what ch th ix kd v tt h ok ov a y z LA ln lc
  have hz : ((at_ : Int) == 0) = false := by simp; omega
  have hw : what = 1 ∨ what = 2 ∨ what = 3 ∨ what = 4 ∨ what = 5 ∨ what = 6 ∨ what = 7 ∨ what = 8 ∨ what = 9 ∨ what = 10 ∨ what = 11 := by omega
  rcases hw with rfl | rfl | rfl | rfl | rfl | rfl | rfl | rfl | rfl | rfl | rfl
  · cases y
    · rw [show mres l ⟨1, at_, ch, th, ix, kd, v, tt, h, ok, ov⟩ a false = ⟨1, at_, ch, th, ix, kd, v, tt, h, ok, ov⟩ by rw [mres, if_neg h0]; rfl]
      exact mres_1n w A n c B m d t at_ ch th ix kd v tt h ok ov a z LA ln lc hz
    · rw [show mres l ⟨1, at_, ch, th, ix, kd, v, tt, h, ok, ov⟩ a true = mend ⟨1, at_, ch, th, ix, kd, v, tt, h, ok, ov⟩ 1 0 by rw [mres, if_neg h0]; rfl]
      exact mres_1y w A n c B m d t at_ ch th ix kd v tt h ok ov a z LA ln lc hz
  · rw [show mres l ⟨2, at_, ch, th, ix, kd, v, tt, h, ok, ov⟩ a y = mend ⟨2, at_, ch, th, ix, kd, v, tt, h, ok, ov⟩ 1 0 by rw [mres, if_neg h0]; rfl]
    exact mres_2 w A n c B m d t at_ ch th ix kd v tt h ok ov a y z LA ln lc hz
  · rw [show mres l ⟨3, at_, ch, th, ix, kd, v, tt, h, ok, ov⟩ a y = mpush (l.getD ch 0) ⟨3, at_, ch, th, ix, kd, v, tt, h, ok, ov⟩ a y by rw [mres, if_neg h0]; rfl]
    exact mres_3 w A n c B m d t at_ ch th ix kd v tt h ok ov a y z LA ln lc hz l hcf hch hat ha ht
  · rw [show mres l ⟨4, at_, ch, th, ix, kd, v, tt, h, ok, ov⟩ a y = mpop (l.getD ch 0) ⟨4, at_, ch, th, ix, kd, v, tt, h, ok, ov⟩ a y by rw [mres, if_neg h0]; rfl]
    exact mres_4 w A n c B m d t at_ ch th ix kd v tt h ok ov a y z LA ln lc hz l hcf hch hat ha ht
  · rw [show mres l ⟨5, at_, ch, th, ix, kd, v, tt, h, ok, ov⟩ a y = mshut ⟨5, at_, ch, th, ix, kd, v, tt, h, ok, ov⟩ a y by rw [mres, if_neg h0]; rfl]
    exact mres_5 w A n c B m d t at_ ch th ix kd v tt h ok ov a y z LA ln lc hz l hcf hch hat ha ht
  · rw [show mres l ⟨6, at_, ch, th, ix, kd, v, tt, h, ok, ov⟩ a y = mcount ⟨6, at_, ch, th, ix, kd, v, tt, h, ok, ov⟩ a by rw [mres, if_neg h0]; rfl]
    exact mres_6 w A n c B m d t at_ ch th ix kd v tt h ok ov a y z LA ln lc hz l hcf hch hat ha ht
  · cases y
    · by_cases h2 : a = 2
      · rw [show mres l ⟨7, at_, ch, th, ix, kd, v, tt, h, ok, ov⟩ a false = ⟨7, at_, ch, th, ix, kd, v, tt, h, ok, ov⟩ by rw [mres, if_neg h0]; simp [h2]]
        exact mres_7r w A n c B m d t at_ ch th ix kd v tt h ok ov a z LA ln lc hz (by simpa using h2)
      · rw [show mres l ⟨7, at_, ch, th, ix, kd, v, tt, h, ok, ov⟩ a false = mend ⟨7, at_, ch, th, ix, kd, v, tt, h, ok, ov⟩ 8 0 by rw [mres, if_neg h0]; simp [h2]]
        exact mres_7n w A n c B m d t at_ ch th ix kd v tt h ok ov a z LA ln lc hz (by simpa using h2)
    · rw [show mres l ⟨7, at_, ch, th, ix, kd, v, tt, h, ok, ov⟩ a true = mend ⟨7, at_, ch, th, ix, kd, v, tt, h, ok, ov⟩ 7 0 by rw [mres, if_neg h0]; rfl]
      exact mres_7y w A n c B m d t at_ ch th ix kd v tt h ok ov a z LA ln lc hz
  · rw [show mres l ⟨8, at_, ch, th, ix, kd, v, tt, h, ok, ov⟩ a y = mend ⟨8, at_, ch, th, ix, kd, v, tt, h, ok, ov⟩ 1 0 by rw [mres, if_neg h0]; rfl]
    exact mres_8 w A n c B m d t at_ ch th ix kd v tt h ok ov a y z LA ln lc hz
  · by_cases h5 : at_ < 5
    · rw [show mres l ⟨9, at_, ch, th, ix, kd, v, tt, h, ok, ov⟩ a y = mto ⟨9, at_, ch, th, ix, kd, v, tt, h, ok, ov⟩ (at_ + 1) by rw [mres, if_neg h0]; simp [h5]]
      exact mres_9l w A n c B m d t at_ ch th ix kd v tt h ok ov a y z LA ln lc hz h5
    · have e5 : at_ = 5 := by simp only [atMax] at hat; omega
      subst e5
      rw [show mres l ⟨9, 5, ch, th, ix, kd, v, tt, h, ok, ov⟩ a y = mend ⟨9, 5, ch, th, ix, kd, v, tt, h, ok, ov⟩ 1 0 by rw [mres, if_neg h0]; rfl]
      exact mres_9e w A n c B m d t ch th ix kd v tt h ok ov a y z LA ln lc
  · cases y
    · rw [show mres l ⟨10, at_, ch, th, ix, kd, v, tt, h, ok, ov⟩ a false = mend ⟨10, at_, ch, th, ix, kd, v, tt, h, ok, ov⟩ 8 0 by rw [mres, if_neg h0]; rfl]
      exact mres_10n w A n c B m d t at_ ch th ix kd v tt h ok ov a z LA ln lc hz
    · rw [show mres l ⟨10, at_, ch, th, ix, kd, v, tt, h, ok, ov⟩ a true = mend ⟨10, at_, ch, th, ix, kd, v, tt, h, ok, ov⟩ 7 0 by rw [mres, if_neg h0]; rfl]
      exact mres_10y w A n c B m d t at_ ch th ix kd v tt h ok ov a z LA ln lc hz
  · rw [show mres l ⟨11, at_, ch, th, ix, kd, v, tt, h, ok, ov⟩ a y = mend ⟨11, at_, ch, th, ix, kd, v, tt, h, ok, ov⟩ 1 0 by rw [mres, if_neg h0]; rfl]
    exact mres_11 w A n c B m d t at_ ch th ix kd v tt h ok ov a y z LA ln lc hz
theorem mapply_any (w : World) (A : Option Addr) (n c : Nat) (B : Option Addr) (m d : Nat) (tk : Int) (ws : List Int) (x : Acc) (h : IsI .u64 w A n ws) (ht : TyA w A n 42) (hn : n ≤ 1000000) (hk : x.k = 1 ∨ x.k = 2 ∨ x.k = 3 ∨ x.k = 5 ∨ x.k = 6) (h1 : -4611686018427387904 ≤ x.a) (h2 : x.a ≤ 4611686018427387904) :
    Calls Tryz.prog 47 #[.agg #[.slice A n c, .slice B m d, .int .i64 tk], .agg (Acc.cells x)] w fun e w' => ∃ A' c', e = .returned (.tuple #[.agg #[.slice A' n c', .slice B m d, .int .i64 tk], .agg #[.int .u64 (mapply ws x).2.1, .bool (mapply ws x).2.2, .bool false, .slice none 0 0], .bool true]) ∧ IsI .u64 w' A' n (mapply ws x).1 ∧ TyA w' A' n 42 ∧ Below w.heap.size w w' := by
  obtain ⟨k, a, o, nn⟩ := x
  dsimp only at hk h1 h2
  have hl := h.len
  by_cases hi : 0 ≤ a ∧ a < n
  · obtain ⟨i, rfl⟩ := Int.eq_ofNat_of_zero_le hi.1
    have hin : i < n := by omega
    have hc : ¬ ((i : Int) < 0 ∨ (ws.length : Int) ≤ i) := by omega
    have ht0 : (i : Int).toNat = i := by omega
    rcases hk with rfl | rfl | rfl | rfl | rfl
    · rw [show mapply ws ⟨1, i, o, nn⟩ = (ws, ws.getD i 0, false) by simp only [mapply, if_neg hc, ht0]; rfl]
      exact (mapply_1 w A n c B m d tk ws o nn h hn i hin).mono fun e w' ⟨e1, e2⟩ => ⟨A, c, e1, h.below e2, ht.below e2, e2⟩
    · rw [show mapply ws ⟨2, i, o, nn⟩ = (ws.set i nn, 0, false) by simp only [mapply, if_neg hc, ht0]; rfl]
      exact mapply_2 w A n c B m d tk ws o nn h hn i hin
    · by_cases he : ws.getD i 0 = o
      · rw [show mapply ws ⟨3, i, o, nn⟩ = (ws.set i nn, ws.getD i 0, true) by simp only [mapply, if_neg hc, ht0, if_pos he]; rfl]
        exact mapply_3e w A n c B m d tk ws o nn h hn i hin he
      · rw [show mapply ws ⟨3, i, o, nn⟩ = (ws, ws.getD i 0, false) by simp only [mapply, if_neg hc, ht0, if_neg he]; rfl]
        exact (mapply_3n w A n c B m d tk ws o nn h hn i hin he).mono fun e w' ⟨e1, e2⟩ => ⟨A, c, e1, h.below e2, ht.below e2, e2⟩
    · rw [show mapply ws ⟨5, i, o, nn⟩ = (ws, ws.getD i 0, false) by simp only [mapply, if_neg hc, ht0]; rfl]
      exact (mapply_5 w A n c B m d tk ws o nn h hn i hin).mono fun e w' ⟨e1, e2⟩ => ⟨A, c, e1, h.below e2, ht.below e2, e2⟩
    · rw [show mapply ws ⟨6, i, o, nn⟩ = (ws.set i nn, 0, false) by simp only [mapply, if_neg hc, ht0]; rfl]
      exact mapply_6 w A n c B m d tk ws o nn h hn i hin
  · have hc : (a < 0 ∨ (ws.length : Int) ≤ a) := by omega
    rw [show mapply ws ⟨k, a, o, nn⟩ = (ws, 0, false) by simp only [mapply, if_pos hc]]
    exact (mapply_no w A n c B m d tk ws k a o nn h hn hi (by simp; omega) (by omega) (by omega) h1 h2).mono fun e w' ⟨e1, e2⟩ => ⟨A, c, e1, h.below e2, ht.below e2, e2⟩
set_option maxRecDepth 100000 in
theorem mitem_any (w : World) (i : Int) (x : Acc) (v : Int) (y z : Bool) (LA : Option Addr) (ln lc : Nat) :
    Calls Tryz.prog 49 #[.int .i64 i, .agg (Acc.cells x), .agg #[.int .u64 v, .bool y, .bool z, .slice LA ln lc]] w fun e w' => e = .returned (.agg #[.int .i64 i, .int .i64 x.k, .int .i64 x.a, .int .u64 x.o, .int .u64 x.n, .int .i64 0, .int .u64 v, .bool y]) ∧ Below w.heap.size w w' := by
  rw [Acc.cells]
  go_enter Tryz.func49, Tryz.ntmps49
  go_wp2
  exact bodyPost_ret (v := .agg #[.int .i64 i, .int .i64 x.k, .int .i64 x.a, .int .u64 x.o, .int .u64 x.n, .int .i64 0, .int .u64 v, .bool y]) (by simp [results, Tryz.results49, go_sem]) rfl ⟨rfl, by first | exact ((below_new _ _).alloc (by simp) _).alloc (by simp; omega) _ | exact (((below_new _ _).alloc (by simp) _).alloc (by simp; omega) _).alloc (by simp; omega) _⟩
end Go.Proofs.YtepngbdjobckbaaGreat
end
section
namespace Go.Proofs.YtepngbdjobckbaaGreat
open Go.RowKit
set_option linter.unusedVariables false

/-- Capacities. -/
def Cap (l : List Int) : Prop := l.length ≤ 8 ∧ ∀ x ∈ l, 0 ≤ x ∧ x ≤ 16
theorem Cap.at_ {l : List Int} (h : Cap l) {k : Nat} (hk : k < l.length) : 0 ≤ l.getD k 0 ∧ l.getD k 0 ≤ 16 := by
  refine h.2 _ ?_
  rw [List.getD, List.getElem?_eq_getElem hk]
  exact List.getElem_mem _
theorem Cap.tl {l : List Int} (h : Cap l) : ∀ k, k ≤ l.length → 0 ≤ tlN l k ∧ tlN l k ≤ 37 * k := by
  intro k
  induction k with
  | zero => intro _; simp [tlN]
  | succ k ih =>
    intro hk
    obtain ⟨h1, h2⟩ := h.at_ (show k < l.length by omega)
    have h3 := sz_bd _ h1 h2
    have h4 := ih (by omega)
    rw [tlN]
    omega
theorem sl_in (s y : Int) (h1 : 1 ≤ y) (h2 : y ≤ 16) : 0 ≤ sl s y ∧ sl s y < y := by
  unfold sl
  rw [if_neg (by omega)]
  exact ⟨Int.emod_nonneg _ (by omega), Int.emod_lt_of_pos _ (by omega)⟩
theorem nx_u (a b : Int) : u64 (nx a b) := by unfold u64 nx; omega
theorem pk_u (a : Int) (c : Bool) : u64 (pk a c) := by unfold u64 pk; cases c <;> simp <;> omega
theorem Mv.to {n : Nat} {x : Mc} (h : Mv n x) {i : Nat} (hi : i ≤ atMax x.what) : Mv n (mto x i) := ⟨h.w1, h.w2, hi, h.ch, h.th, h.t, h.h, h.v, h.ix, h.kd⟩
theorem Mv.end_ {n : Nat} {x : Mc} (h : Mv n x) (k v : Int) : Mv n (mend x k v) := ⟨h.w1, h.w2, Nat.zero_le _, h.ch, h.th, h.t, h.h, h.v, h.ix, h.kd⟩
theorem Mv.setT {n : Nat} {x : Mc} (h : Mv n x) {a : Int} (ha : u64 a) : Mv n { x with t := a } := ⟨h.w1, h.w2, h.hat, h.ch, h.th, ha, h.h, h.v, h.ix, h.kd⟩
theorem Mv.setH {n : Nat} {x : Mc} (h : Mv n x) {a : Int} (ha : u64 a) : Mv n { x with h := a } := ⟨h.w1, h.w2, h.hat, h.ch, h.th, h.t, ha, h.v, h.ix, h.kd⟩
theorem Mv.setV {n : Nat} {x : Mc} (h : Mv n x) {a : Int} (ha : u64 a) : Mv n { x with v := a } := ⟨h.w1, h.w2, h.hat, h.ch, h.th, h.t, h.h, ha, h.ix, h.kd⟩
theorem what_cases {w : Nat} (h1 : 1 ≤ w) (h2 : w ≤ 11) : w = 1 ∨ w = 2 ∨ w = 3 ∨ w = 4 ∨ w = 5 ∨ w = 6 ∨ w = 7 ∨ w = 8 ∨ w = 9 ∨ w = 10 ∨ w = 11 := by omega
theorem Mv.res {n : Nat} {l : List Int} {x : Mc} (h : Mv n x) {a : Int} (ha : u64 a) (y : Bool) : Mv n (mres l x a y) := by
  by_cases h0 : x.at_ = 0
  · rw [mres, if_pos h0]; exact h
  have w1 := h.w1
  have w2 := h.w2
  rw [mres, if_neg h0]
  unfold mpush mpop mshut mcount
  repeat' split
  all_goals first
    | (exfalso; omega)
    | exact h
    | exact h.end_ _ _
    | exact (h.setT ha).end_ _ _
    | exact h.to (by simp [atMax, *] <;> omega)
    | exact (h.setT ha).to (by simp [atMax, *] <;> omega)
    | exact (h.setH ha).to (by simp [atMax, *] <;> omega)
    | exact (h.setV ha).to (by simp [atMax, *] <;> omega)
/-- An access of a machine that has not ended. -/
structure Aok (a : Acc) : Prop where
  k : a.k = 1 ∨ a.k = 2 ∨ a.k = 3 ∨ a.k = 5 ∨ a.k = 6
  a1 : 0 ≤ a.a
  a2 : a.a ≤ 1000000
  n : u64 a.n
set_option maxHeartbeats 2000000 in
theorem mnext_ok {l : List Int} (hl : Cap l) {x : Mc} (h : Mv l.length x) (h0 : x.at_ ≠ 0) : Aok (mnext l x) := by
  have hw := what_cases h.w1 h.w2
  have hat := h.hat
  have hch := h.ch
  have hth := h.th
  have t1 := hl.tl x.ch (by omega)
  have t2 := hl.tl l.length (by omega)
  have h8 := hl.1
  have g := hl.at_ hch
  have g1 := sz_bd _ g.1 g.2
  have g2 := fun s => sl_in s _ g1.1 g1.2
  have z0 : u64 0 := by unfold u64; omega
  have z1 : u64 1 := by unfold u64; omega
  have z2 : u64 2 := by unfold u64; omega
  have z3 : u64 3 := by unfold u64; omega
  have z4 : u64 4 := by unfold u64; omega
  have zm : ∀ i : Int, u64 (i % 18446744073709551616) := fun i => by unfold u64; omega
  have s1 : ∀ s, 0 ≤ slN l x.ch s ∧ slN l x.ch s ≤ 1000 := fun s => by have := g2 s; unfold slN; omega
  have c1 : 0 ≤ clN l x.th ∧ clN l x.th ≤ 1000 := by unfold clN; omega
  have v0 := h.v
  have b0 : 0 ≤ tlN l x.ch ∧ tlN l x.ch ≤ 1000000 := by omega
  have b1 : 0 ≤ tlN l x.ch + 1 ∧ tlN l x.ch + 1 ≤ 1000000 := by omega
  have b2 : 0 ≤ tlN l x.ch + 2 ∧ tlN l x.ch + 2 ≤ 1000000 := by omega
  have S0 : ∀ s, 0 ≤ slN l x.ch s ∧ slN l x.ch s ≤ 1000000 := fun s => by have := s1 s; omega
  have S1 : ∀ s, 0 ≤ slN l x.ch s + 1 ∧ slN l x.ch s + 1 ≤ 1000000 := fun s => by have := s1 s; omega
  have C0 : 0 ≤ clN l x.th ∧ clN l x.th ≤ 1000000 := by omega
  have C1 : ∀ k : Int, 0 ≤ k → k ≤ 5 → 0 ≤ clN l x.th + k ∧ clN l x.th + k ≤ 1000000 := fun k _ _ => by omega
  have D1 := C1 1 (by omega) (by omega)
  have D2 := C1 2 (by omega) (by omega)
  have D3 := C1 3 (by omega) (by omega)
  have D4 := C1 4 (by omega) (by omega)
  clear t1 t2 g g1 g2 c1 s1 hat hth hch
  rw [mnext, if_neg h0]
  repeat' split
  all_goals
    refine ⟨by simp, ?_, ?_, ?_⟩
    · dsimp only
      first | exact b0.1 | exact b1.1 | exact b2.1 | exact (S0 _).1 | exact (S1 _).1 | exact C0.1 | exact D1.1 | exact D2.1 | exact D3.1 | exact D4.1
    · dsimp only
      first | exact b0.2 | exact b1.2 | exact b2.2 | exact (S0 _).2 | exact (S1 _).2 | exact C0.2 | exact D1.2 | exact D2.2 | exact D3.2 | exact D4.2
    · dsimp only
      first | exact z0 | exact z1 | exact z2 | exact z3 | exact z4 | exact nx_u _ _ | exact pk_u _ _ | exact zm _ | exact v0
theorem mapply_u {ws : List Int} (h : ∀ v ∈ ws, u64 v) {a : Acc} (hn : u64 a.n) : (∀ v ∈ (mapply ws a).1, u64 v) ∧ u64 (mapply ws a).2.1 ∧ (mapply ws a).1.length = ws.length := by
  have z0 : u64 0 := by unfold u64; omega
  have hs : ∀ i, ∀ v ∈ ws.set i a.n, u64 v := fun i v hv => by
    rcases List.mem_or_eq_of_mem_set hv with h1 | h1
    · exact h v h1
    · exact h1 ▸ hn
  have hg : u64 (ws.getD a.a.toNat 0) := by
    by_cases hlt : a.a.toNat < ws.length
    · rw [List.getD, List.getElem?_eq_getElem hlt]
      exact h _ (List.getElem_mem _)
    · rw [List.getD, List.getElem?_eq_none (by omega)]
      exact z0
  unfold mapply
  repeat' split
  all_goals exact ⟨by first | exact h | exact hs _, by first | exact z0 | exact hg, by simp⟩
end Go.Proofs.YtepngbdjobckbaaGreat
end
