/- The walk of LayoutChecks: Number, and rows that grow. -/
import Derived.Test.YtcaencocmfkfaaaJ0
namespace Go.Proofs.Ytcaencocmfkfaaa
open Go.RowKit
set_option linter.unusedVariables false
set_option linter.unusedSimpArgs false
def numT : List Int := [0, 1, -1, 2, 5, 6, 7, 8, 9, 16, 17, 1099511627776, 1099511627777, -1099511627777, 100, 3]
set_option maxHeartbeats 1000000 in
set_option maxRecDepth 100000 in
theorem number_any (w : World) (g : Nat) (r : List Int) (v : Int) (h : Cd w g r v) :
    Calls Try.prog 11 #[.pointer (some ⟨g, 0, none⟩)] w fun e w' => ∃ t : Int, e = .returned (.int .i64 t) ∧ Cd w' g r.tail v ∧ w.grownBy w' (some g) := by
  have H := hide h
  have hgl := h.lt
  clear h
  obtain ⟨j, hj⟩ := Int.eq_ofNat_of_zero_le (codeV_bd r 16 (by omega)).1
  have hj6 := (codeV_bd r 16 (by omega)).2
  rw [hj] at hj6
  have hj16 : j < 16 := by omega
  have NX := hide (fun W (hW : Cd W g r v) => show Calls Try.prog 10 #[.pointer (some ⟨g, 0, none⟩), .int .i64 16] W fun e w' => e = .returned (.int .i64 (j : Nat)) ∧ Cd w' g r.tail v ∧ W.grownBy w' (some g) from by
    have := codeNext W g r v 16 hW (by omega) (by omega)
    rwa [hj] at this)
  clear hj hj6
  go_enter Try.func11, Try.ntmps11
  go_wp2_with fail
  have KN := hide (Bk.new w 3 ((numT.map (Value.int .i64)).toArray))
  have HB := hide (below_new w (.cells ((numT.map (Value.int .i64)).toArray) 3))
  refine (NX.out _ (H.out.alloc (.cells ((numT.map (Value.int .i64)).toArray) 3))).mono ?_
  rintro e w2 ⟨rfl, hcd, hg⟩
  have k2 := KN.out.grown hg (by intro e; injection e with e; omega)
  have c0 := bk6V (l := numT) k2 j hj16
  have HG := hide (show w.grownBy w2 (some g) from grownBy_trans (grownBy_of_below HB.out _) hg)
  have HD := hide hcd
  generalize numT.getD j 0 = tv at c0
  have d1 : decide ((j : Int) < 0) = false := by simp
  have d2 : decide (16 ≤ j) = false := by simp; omega
  clear k2 hcd hg KN HB
  go_wp2
  go_ret
  exact ⟨_, rfl, HD.out, HG.out⟩
/-- A configuration in a box, its two rows its own. -/
structure Ys (W : World) (base gY : Nat) (v1 v2 : Value) (l s : List Int) (t : Int) : Prop where
  r : Rws W base (cfgV v1 v2 l s)
  y : Bk W gY 25 #[v1, v2, .int .i64 t]
  h : gY < base
section
variable {W W4 : World} {base gY : Nat} {v1 v2 v4 : Value} {l s l' : List Int} {t : Int}
theorem Ys.below (H : Ys W base gY v1 v2 l s t) (hb : Below W.heap.size W W4) : Ys W4 base gY v1 v2 l s t := ⟨H.r.below hb, H.y.below hb H.y.lt, H.h⟩
theorem Ys.grown {g : Nat} (H : Ys W base gY v1 v2 l s t) (hg : W.grownBy W4 (some g)) (hlt : g < gY) : Ys W4 base gY v1 v2 l s t :=
  ⟨H.r.far hg (by have := H.h; omega), H.y.grown hg (by intro e; injection e with e; omega), H.h⟩
theorem Ys.thr (H : Ys W base gY v1 v2 l s t) (t' : Int) : Ys (W.setCell ⟨gY, 2, none⟩ (.int .i64 t')) base gY v1 v2 l s t' :=
  ⟨H.r.far (grownBy_setCell W gY 2 (.int .i64 t')) H.h, H.y.set_ 2 (.int .i64 t'), H.h⟩
theorem Ys.cap (H : Ys W base gY v1 v2 l s t) (hb : base ≤ W.heap.size) (hown : W4.ownsRow base 3 1 v4 (l ++ l').length ((l ++ l').map (Value.int .i64))) (hg : W.grownBy W4 v1.ownBlock) (hv : v4.ownBlock = v1.ownBlock ∨ ∃ q, v4.ownBlock = some q ∧ W.heap.size ≤ q) :
    Below base W W4 ∧ Rws W4 base (cfgV v4 v2 (l ++ l') s) ∧ Ys (W4.setCell ⟨gY, 0, none⟩ v4) base gY v4 v2 (l ++ l') s t := by
  have hb4 : Below base W W4 := own_below (H.r.at_ 0 (Nat.succ_pos _)) hg (Nat.le_refl _) hb
  have hr4 := H.r.upd 0 (Nat.succ_pos _) ⟨v4, 3, 1, (l ++ l').length, (l ++ l').map (Value.int .i64)⟩ hown hg hv
  exact ⟨hb4, hr4, hr4.far (grownBy_setCell W4 gY 0 v4) H.h, (H.y.below hb4 H.h).set_ 0 v4, H.h⟩
theorem Ys.sta (H : Ys W base gY v1 v2 l s t) (hb : base ≤ W.heap.size) (hown : W4.ownsRow base 33 1 v4 (s ++ l').length ((s ++ l').map (Value.int .u64))) (hg : W.grownBy W4 v2.ownBlock) (hv : v4.ownBlock = v2.ownBlock ∨ ∃ q, v4.ownBlock = some q ∧ W.heap.size ≤ q) :
    Below base W W4 ∧ Rws W4 base (cfgV v1 v4 l (s ++ l')) ∧ Ys (W4.setCell ⟨gY, 1, none⟩ v4) base gY v1 v4 l (s ++ l') t := by
  have hb4 : Below base W W4 := own_below (H.r.at_ 1 (Nat.succ_lt_succ (Nat.succ_pos _))) hg (Nat.le_refl _) hb
  have hr4 := H.r.upd 1 (Nat.succ_lt_succ (Nat.succ_pos _)) ⟨v4, 33, 1, (s ++ l').length, (s ++ l').map (Value.int .u64)⟩ hown hg hv
  exact ⟨hb4, hr4, hr4.far (grownBy_setCell W4 gY 1 v4) H.h, (H.y.below hb4 H.h).set_ 1 v4, H.h⟩
/-- Its parts, to be read. -/
theorem Ys.read (H : Ys W base gY v1 v2 l s t) : ∃ A c B d, v1 = .slice A l.length c ∧ v2 = .slice B s.length d ∧ IsI .i64 W A l.length l ∧ IsI .u64 W B s.length s := by
  have o1 := H.r.at_ 0 (Nat.succ_pos _)
  have o2 := H.r.at_ 1 (by show 1 < 2; omega)
  obtain ⟨A, C, e1, -⟩ := own_form o1
  obtain ⟨B, D, e2, -⟩ := own_form o2
  have e1' : v1 = .slice A l.length C := e1
  have e2' : v2 = .slice B s.length D := e2
  subst e1' e2'
  exact ⟨A, C, B, D, rfl, rfl, IsI.of_own o1, IsI.of_own o2⟩
end
theorem chk_ok {l s : List Int} {t : Int} (h1 : l.length ≤ 8) (h2 : s.length = l.length) (h3 : ∀ x ∈ l, 0 ≤ x ∧ x ≤ 16) (h4 : ∀ x ∈ s, 0 ≤ x ∧ x < 9223372036854775808) (h5 : 1 ≤ t) (h6 : t ≤ 8) : chk l s t = 0 := by
  have e1 : l.any badK = false := by
    rw [List.any_eq_false]
    intro x hx
    have := h3 x hx
    simp [badK_no this.1 this.2]
  have e2 : s.any badS = false := by
    rw [List.any_eq_false]
    intro x hx
    have := h4 x hx
    simp [badS]
    omega
  unfold chk
  rw [if_neg (by omega), if_neg (by omega), if_neg (by simp [e1]), if_neg (by simp [e2]), if_neg (by omega)]
end Go.Proofs.Ytcaencocmfkfaaa
