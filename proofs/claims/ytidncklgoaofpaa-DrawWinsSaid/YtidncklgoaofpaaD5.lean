/- Lists of lists of numbers (rows of slices of the call's own); a round as a block of its own. -/
import Derived.Test.YtidncklgoaofpaaD4
import Derived.Test.YtidncklgoaofpaaT
namespace Go.Proofs.Ytidncklgoaofpaa
open Go.RowKit
set_option linter.unusedVariables false

theorem Try.ints_info : ∃ i, Try.prog.info? 22 = some i ∧ i.zero = some (.slice none 0 0) ∧ i.size = 1 ∧ i.bytes = 24 := info_parts (P := Try.prog) (e := 22) (z := .slice none 0 0) (size := 1) (bytes := 24) (by kernel_rfl)

/-- A row of lists, each a block of its own of t numbers. -/
def LL (w : World) (base : Nat) (v : Value) (t : Nat) (ls : List (List Int)) : Prop :=
  ∃ xs, w.ownsRow base 22 1 v ls.length xs ∧ ∀ j, j < ls.length → ∃ g, xs[j]? = some (.slice (some ⟨g, 0, none⟩) t t) ∧ v.ownBlock ≠ some g ∧ Bk w g 3 (cellsI (ls.getD j [])) ∧ (ls.getD j []).length = t ∧ base ≤ g
theorem LL.nil (w : World) (base t : Nat) : LL w base (.slice none 0 0) t [] := ⟨[], World.ownsRow_nil _ _ _ _, fun j hj => absurd hj (by simp)⟩
theorem LL.below {w w' : World} {base t : Nat} {v : Value} {ls : List (List Int)} (h : LL w base v t ls) (hb : Below w.heap.size w w') : LL w' base v t ls := by
  obtain ⟨xs, h1, h2⟩ := h
  exact ⟨xs, own_bel h1 hb, fun j hj => by
    obtain ⟨g, e1, e2, e3, e4⟩ := h2 j hj
    exact ⟨g, e1, e2, e3.below hb e3.lt, e4⟩⟩
/-- A store in another block that lies before. -/
theorem LL.far {w w' : World} {base t G : Nat} {v : Value} {ls : List (List Int)} (h : LL w base v t ls) (hg : w.grownBy w' (some G)) (hG : G < base) : LL w' base v t ls := by
  obtain ⟨xs, h1, h2⟩ := h
  exact ⟨xs, own_far h1 hg hG, fun j hj => by
    obtain ⟨g, e1, e2, e3, e4, e5⟩ := h2 j hj
    exact ⟨g, e1, e2, e3.grown hg (by intro e; injection e with e; omega), e4, e5⟩⟩
theorem LL.form {w : World} {base t : Nat} {v : Value} {ls : List (List Int)} (h : LL w base v t ls) : ∃ A c, v = .slice A ls.length c := by
  obtain ⟨xs, h1, h2⟩ := h
  obtain ⟨A, c, e, _⟩ := own_form h1
  exact ⟨A, c, e⟩
theorem LL.lt {w : World} {base t : Nat} {v : Value} {ls : List (List Int)} (h : LL w base v t ls) {g : Nat} (hg : w.heap.size ≤ g) : v.ownBlock ≠ some g := by
  obtain ⟨xs, h1, h2⟩ := h
  intro e
  have := (h1.lt g e).2
  omega
theorem LL.at_ {w : World} {base t c : Nat} {A : Option Addr} {n : Nat} {ls : List (List Int)} (h : LL w base (.slice A n c) t ls) {j : Nat} (hj : j < ls.length) :
    ∃ ad g, A = some ad ∧ w.cell? (ad.add j) = some (.slice (some ⟨g, 0, none⟩) t t) ∧ IsI .i64 w (some ⟨g, 0, none⟩) t (ls.getD j []) := by
  obtain ⟨xs, h1, h2⟩ := h
  obtain ⟨g, e1, e2, e3, e4, -⟩ := h2 j hj
  obtain ⟨A', c', hv, -⟩ := own_form h1
  injection hv with hA hn hc
  subst hn
  obtain ⟨ad, e, hb, hcell⟩ := (Rds.of_own h1).2 (by omega)
  exact ⟨ad, g, e, hcell j _ e1, bkI_isI e3 e4⟩
/-- One list more. -/
theorem LL.push {P : Program} (hP : P = Try.prog) {ops : Array Oper} {rest : List Oper} {o : Oper} {a : Act} {Q : Exit → Act → World → Prop} (w : World) (hgd : o.guard = none) (s x : Operand)
    (ho : o.op = .call { callee := .builtin .append, args := #[s, x], argTypes := #[40, 40] })
    (base t g : Nat) (v : Value) (ls : List (List Int)) (l : List Int) (hs : a.eval s = v) (h : LL w base v t ls)
    (hg : v.ownBlock ≠ some g) (hbk : Bk w g 3 (cellsI l)) (hl : l.length = t) (hgb : base ≤ g)
    (hx : a.eval x = .slice (some ⟨w.heap.size, 0, none⟩) 1 1)
    (hn : ls.length ≤ 1073741824) (hbase : base ≤ w.heap.size)
    (hK : ∀ v' w', LL w' base v' t (ls ++ [l]) → Below base w w' → Bk w' g 3 (cellsI l) → wpList P ops Q rest (a.put o.dst v') w') :
    wpList P ops Q (o :: rest) a (w.alloc (.cells #[.slice (some ⟨g, 0, none⟩) t t] 22)) := by
  subst hP
  obtain ⟨i0, hi, hz0, hz1, hz2⟩ := Try.ints_info
  obtain ⟨xs, h1, h2⟩ := h
  refine wpList_push w hgd s x _ ho base 22 i0 _ 1 24 Try.underlying40 hi hz0 hz1 hz2 (by rfl) (by decide) v ls.length xs hs h1 [.slice (some ⟨g, 0, none⟩) t t] hx rfl (by simp [Value.oneCell']) hn (by omega) hbase ?_
  intro v' w' hown hgr hv
  refine hK v' w' ⟨xs ++ [.slice (some ⟨g, 0, none⟩) t t], by simpa using hown, fun j hj => ?_⟩ (own_below h1 hgr (Nat.le_refl _) hbase) (hbk.grown hgr (fun e => hg e.symm))
  have hxl : xs.length = ls.length := by have := h1.1; simpa using this
  have hne : ∀ g', g' < w.heap.size → v.ownBlock ≠ some g' → v'.ownBlock ≠ some g' := by
    intro g' hlt hne
    rcases hv with hv | ⟨q, hq, hle⟩
    · rw [hv]; exact hne
    · rw [hq]; intro e; injection e with e; omega
  rcases Nat.lt_or_ge j ls.length with hj2 | hj2
  · obtain ⟨g', e1, e2, e3, e4, e5⟩ := h2 j hj2
    refine ⟨g', by rw [List.getElem?_append_left (by omega)]; exact e1, hne _ e3.lt e2, ?_, ?_, e5⟩
    · have := e3.grown hgr (fun e => e2 e.symm)
      simpa [List.getD, List.getElem?_append_left hj2] using this
    · simpa [List.getD, List.getElem?_append_left hj2] using e4
  · have hj3 : j = ls.length := by simp at hj; omega
    subst hj3
    refine ⟨g, by rw [← hxl]; simp, hne _ hbk.lt hg, ?_, ?_, hgb⟩
    · have := hbk.grown hgr (fun e => hg e.symm)
      simpa [List.getD] using this
    · simpa [List.getD] using hl
set_option maxHeartbeats 1000000 in
theorem round_bk (w : World) (t q : Nat) (h1 : 1 ≤ t) (h2 : t ≤ 8) (hq : q ≤ 40320) :
    Calls Try.prog 35 #[.int .i64 t, .int .i64 q] w fun e w' => ∃ g, e = .returned (.slice (some ⟨g, 0, none⟩) t t) ∧ w.heap.size ≤ g ∧ Bk w' g 3 (cellsI (rnd t q)) ∧ (rnd t q).length = t ∧ Below w.heap.size w w' := by
  have h3 : decide ((t : Int) < 1) = false := by simp; omega
  have h4 : decide ((8 : Int) < t) = false := by simp; omega
  obtain ⟨b1, b2⟩ := cnt_8 t (by omega) (by omega)
  have m1 := Int.emod_nonneg (q : Int) (show cnt t ≠ 0 by omega)
  have m2 := Int.emod_lt_of_pos (q : Int) (show 0 < cnt t by omega)
  obtain ⟨p, hp⟩ := Int.eq_ofNat_of_zero_le m1
  have e : rnd t q = ord (nthL t p) (t - 1) (idl t) := by
    unfold rnd ordr
    rw [if_neg (by omega), if_neg (by omega), hp]
    simp
  have el : (rnd t q).length = t := by rw [e, ord_len, idl_len]
  rw [e] at el ⊢
  have M2 := hide m2
  rw [hp] at M2
  have HQ := hide hp
  have EL := hide el
  have cn := nth_yes t p
  have CN := hide cn
  clear cn hp e el
  go_enter Try.func35, Try.ntmps35
  go_wp2_with (go_at_call 29; refine (count_any _ _).mono ?_; rintro e w' ⟨rfl, rfl⟩)
  rw [HQ.out]
  go_wp2_with fail
  refine (CN.out _ (by omega) M2.out).mono ?_
  rintro e y1 ⟨rfl, hB1, hb1⟩
  have I1 := hide (bkI_isI hB1 (nthL_len t p))
  clear hB1
  go_wp2_with fail
  refine (order_bk _ t _ _ _ _ I1.out h1 (by omega) (by omega)).mono ?_
  rintro e y2 ⟨rfl, hB2, hb2⟩
  have B2 := hide hB2
  clear hB2
  go_wp2
  go_ret
  exact ⟨_, rfl, hb1.size, B2.out, EL.out, hb1.trans (hb2.mono hb1.size)⟩
end Go.Proofs.Ytidncklgoaofpaa
