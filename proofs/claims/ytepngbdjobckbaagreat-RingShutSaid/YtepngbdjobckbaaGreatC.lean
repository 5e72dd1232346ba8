/- -/
import Derived.Test.YtepngbdjobckbaaGreatRows
import Derived.Test.YtepngbdjobckbaaGreatK
namespace Go.Proofs.YtepngbdjobckbaaGreat
open Go.RowKit
set_option linter.unusedVariables false

/-- Behind address ⟨g, 0⟩ lies a Codes with the choices r left; it has given value values. -/
def Cd (w : World) (g : Nat) (r : List Int) (v : Int) : Prop :=
  ∃ (A : Option Addr) (n c : Nat) (l : List Int) (k : Nat), Bk w g 91 #[.slice A n c, .int .i64 k, .int .u64 v] ∧ IsI .u8 w A n l ∧ k ≤ n ∧ n ≤ 256 ∧ r = l.drop k ∧
    (∀ x ∈ l, 0 ≤ x ∧ x ≤ 255) ∧ (0 < n → ∀ ad, A = some ad → ad.block < g)

def codeV (r : List Int) (n : Int) : Int := match r with | [] => 0 | b :: _ => b % n

theorem Cd.drewN {w : World} {g : Nat} {r : List Int} {v : Int} (h : Cd w g r v) (m : Nat) : Cd (w.drewN m) g r v := h
theorem Cd.lt {w : World} {g : Nat} {r : List Int} {v : Int} (h : Cd w g r v) : g < w.heap.size := by
  obtain ⟨_, _, _, _, _, hb, _⟩ := h
  exact hb.lt
theorem Cd.below {w w' : World} {g : Nat} {r : List Int} {v : Int} (h : Cd w g r v) (hb : Below w.heap.size w w') : Cd w' g r v := by
  obtain ⟨A, n, c, l, k, h1, h2, h3⟩ := h
  exact ⟨A, n, c, l, k, h1.below hb h1.lt, h2.below hb, h3⟩
theorem Cd.belowB {B : Nat} {w w' : World} {g : Nat} {r : List Int} {v : Int} (h : Cd w g r v) (hb : Below B w w') (hg : g < B) : Cd w' g r v := by
  obtain ⟨A, n, c, l, k, h1, h2, h3, h4, h5, h6, h7⟩ := h
  exact ⟨A, n, c, l, k, h1.below hb hg, Rds.belowB h2 hb (fun h0 ad e => Nat.lt_trans (h7 h0 ad e) hg), h3, h4, h5, h6, h7⟩
theorem Cd.alloc {w : World} {g : Nat} {r : List Int} {v : Int} (h : Cd w g r v) (o : Obj) : Cd (w.alloc o) g r v := h.below ((Below.refl _ _).alloc (Nat.le_refl _) o)

theorem left_any (w : World) (g : Nat) (r : List Int) (v : Int) (h : Cd w g r v) :
    Calls Tryz.prog 23 #[.pointer (some ⟨g, 0, none⟩)] w fun e w' => e = .returned (.bool (!r.isEmpty)) ∧ Draws w w' := by
  obtain ⟨A, n, c, l, k, h1, h2, h3, hn, hr, h4⟩ := h
  have c0 := h1.cell 0
  have c1 := h1.cell 1
  simp only [List.getElem?_toArray, List.getElem?_cons_zero, List.getElem?_cons_succ] at c0 c1
  have hl := h2.len
  have e1 : (!r.isEmpty) = decide (k < n) := by
    subst hr
    rw [Bool.eq_iff_iff]
    simp
    omega
  have E := hide e1
  clear e1 hr hl
  go_enter Tryz.func23, Tryz.ntmps23
  go_wp2
  go_quiet (fail)
  go_wp2
  go_ret
  exact ⟨ret_eq (by rw [E.out]; simp), Draws.drewN _ _⟩

theorem codeNext_nil (w : World) (g : Nat) (v m : Int) (h : Cd w g [] v) :
    Calls Tryz.prog 21 #[.pointer (some ⟨g, 0, none⟩), .int .i64 m] w fun e w' => e = .returned (.int .i64 0) ∧ Draws w w' := by
  go_enter Tryz.func21, Tryz.ntmps21
  go_wp2_with (go_at_call 23; refine (left_any _ _ _ _ h).mono ?_; rintro e w' ⟨rfl, k, rfl⟩)
  go_ret
  exact ⟨rfl, Draws.drewN _ _⟩
theorem codeNext_cons (w : World) (g : Nat) (b : Int) (r : List Int) (v m : Int) (h : Cd w g (b :: r) v) (hm : 1 ≤ m) (hm' : m ≤ 256) :
    Calls Tryz.prog 21 #[.pointer (some ⟨g, 0, none⟩), .int .i64 m] w fun e w' => e = .returned (.int .i64 (b % m)) ∧ Cd w' g r v ∧ w.grownBy w' (some g) := by
  have H := hide h
  obtain ⟨A, n, c, l, k, h1, h2, h3, hn, hr, hby, hne⟩ := h
  have hl := h2.len
  have hk : k < n := by
    by_cases hk : k < n
    · exact hk
    · rw [List.drop_of_length_le (by omega)] at hr; cases hr
  have hlk : k < l.length := by omega
  have hb : l.getD k 0 = b := by
    rw [List.drop_eq_getElem_cons hlk] at hr
    injection hr with e1 e2
    rw [List.getD, List.getElem?_eq_getElem hlk, e1]; rfl
  have hr' : r = l.drop (k + 1) := by
    rw [List.drop_eq_getElem_cons hlk] at hr
    injection hr with e1 e2
  have hb0 := hby b (by rw [← hb, List.getD, List.getElem?_eq_getElem hlk]; exact List.getElem_mem hlk)
  have H2 := hide h2
  obtain ⟨ad, rfl, had, hcell⟩ := h2.at_ hk
  rw [hb] at hcell
  have hn1 := Nat.ne_of_lt (hne (by omega) ad rfl)
  have s1 := h1.set_ 1 (.int .i64 ((k : Int) + 1))
  have x1 : ¬ ad.add k = (⟨g, 1, none⟩ : Addr) := fun e => hn1 (by rw [← block_add ad k, e])
  have x2 : ¬ (⟨g, 1, none⟩ : Addr) = ad.add k := fun e => x1 e.symm
  have c0 := h1.cell 0
  have c1 := h1.cell 1
  have f1 := h1.frozen 1
  have d0 := s1.cell 0
  have d1 := s1.cell 1
  simp only [List.getElem?_toArray, List.getElem?_cons_zero, List.getElem?_cons_succ, List.setIfInBounds_toArray, List.set_cons_succ, List.set_cons_zero] at c0 c1 d0 d1
  have HR := hide hr'
  have S1 := hide s1
  have HB := hide hby
  have HN := hide hne
  clear hr hr' hb s1 h2 hby hne h1 hl
  have hwk : IntKind.i64.wrap (k : Int) = k := IntWalk.i64_in _ (by omega)
  go_enter Tryz.func21, Tryz.ntmps21
  go_wp2_with (go_at_call 23; refine (left_any _ _ _ _ H.out).mono ?_; rintro e w' ⟨rfl, q, rfl⟩)
  go_quiet (fail)
  clear hwk
  go_wp2
  go_ret
  refine ⟨rfl, ?_, ?_⟩
  · refine ⟨some ad, n, c, l, k + 1, S1.out, ?_, hk, hn, HR.out, HB.out, HN.out⟩
    exact Rds.far H2.out (p := ⟨g, 1, none⟩) (fun a e => by injection e with e; subst e; exact hn1) _
  · exact grownBy_drewN (grownBy_trans (grownBy_drewN (World.grownBy.refl w _) q) (grownBy_setCell _ _ _ _)) _
/-- What a Next gives, and what is left behind it. -/
theorem codeNext (w : World) (g : Nat) (r : List Int) (v m : Int) (h : Cd w g r v) (hm : 1 ≤ m) (hm' : m ≤ 256) :
    Calls Tryz.prog 21 #[.pointer (some ⟨g, 0, none⟩), .int .i64 m] w fun e w' => e = .returned (.int .i64 (codeV r m)) ∧ Cd w' g r.tail v ∧ w.grownBy w' (some g) := by
  cases r with
  | nil =>
    refine (codeNext_nil w g v m h).mono fun e w' hh => ?_
    obtain ⟨he, q, rfl⟩ := hh
    exact ⟨he, h, grownBy_drewN (World.grownBy.refl w _) _⟩
  | cons b r => exact codeNext_cons w g b r v m h hm hm'
theorem codeV_bd (r : List Int) (m : Int) (hm : 1 ≤ m) : 0 ≤ codeV r m ∧ codeV r m < m := by
  unfold codeV
  split
  · omega
  · exact ⟨Int.emod_nonneg _ (by omega), Int.emod_lt_of_pos _ (by omega)⟩

/-! ### New -/
theorem new_any (w : World) (A : Option Addr) (n c : Nat) (l : List Int) (m : Nat) (h : IsI .u8 w A n l) (hby : ∀ x ∈ l, 0 ≤ x ∧ x ≤ 255) (hm : m ≤ 256) (hc : n ≤ c) (hc' : c ≤ 9223372036854775807) :
    Calls Tryz.prog 19 #[.slice A n c, .int .i64 m] w fun e w' => e = .returned (.pointer (some ⟨w.heap.size, 0, none⟩)) ∧ Cd w' w.heap.size (l.take m) 0 ∧ Below w.heap.size w w' := by
  have hl := h.len
  by_cases hn : n ≤ m
  · go_enter Tryz.func19, Tryz.ntmps19
    go_wp2
    go_ret
    refine ⟨rfl, ⟨A, n, c, l, 0, Bk.new _ _ _, h.alloc _, Nat.zero_le _, by omega, ?_, hby, ?_⟩, (Below.refl _ _).alloc (Nat.le_refl _) _⟩
    · rw [List.take_of_length_le (by omega)]; rfl
    · intro h0 ad e
      obtain ⟨ad', e', hb, _⟩ := h.at_ h0
      rw [e] at e'
      injection e' with e'
      subst e'
      omega
  · go_enter Tryz.func19, Tryz.ntmps19
    go_wp2
    go_ret
    refine ⟨rfl, ⟨A, m, c, l.take m, 0, Bk.new _ _ _, (h.take (by omega)).alloc _, Nat.zero_le _, by omega, rfl, fun x hx => hby x (List.mem_of_mem_take hx), ?_⟩, (Below.refl _ _).alloc (Nat.le_refl _) _⟩
    intro h0 ad e
    obtain ⟨ad', e', hb, _⟩ := h.at_ (show 0 < n by omega)
    rw [e] at e'
    injection e' with e'
    subst e'
    omega
end Go.Proofs.YtepngbdjobckbaaGreat
