/- Several texts in one. -/
import Derived.Test.YtepngbdjobckbaaGreatGM
import Derived.Test.YtepngbdjobckbaaGreatGF
import Derived.Test.YtepngbdjobckbaaGreatW
import Derived.Test.YtepngbdjobckbaaGreatO
import Derived.Test.YtepngbdjobckbaaGreatGU
import Derived.Deep.MidRow
section
namespace Go.Proofs.YtepngbdjobckbaaGreat
open Go.RowKit
set_option linter.unusedVariables false

/-- What is written is of another type than T. -/
def Oth (w : World) (r : Option Nat) (T : TypeId) : Prop := ∀ g, r = some g → ∃ t' xs, Bk w g t' xs ∧ T ≠ t'
theorem Oth.bk {w : World} {g : Nat} {t T : TypeId} {xs : Array Value} (h : Bk w g t xs) (hne : T ≠ t) : Oth w (some g) T := fun g' e => by
  injection e with e
  subst e
  exact ⟨_, _, h, hne⟩
theorem Oth.own {w : World} {base : Nat} {e T : TypeId} {sz n : Nat} {v : Value} {xs : List Value} (h : w.ownsRow base e sz v n xs) (hne : T ≠ e) : Oth w v.ownBlock T := fun g' e' => by
  rcases h.2 with ⟨rfl, _⟩ | ⟨g, cap, cur, rfl, h2, h3, h4⟩
  · simp [Value.ownBlock] at e'
  · simp only [Value.ownBlock, Option.some.injEq] at e'
    subst e'
    exact ⟨_, _, h3, hne⟩
section
variable {w w' : World} {r : Option Nat}
theorem own_oth {base : Nat} {e : TypeId} {sz n : Nat} {v : Value} {xs : List Value} (h : w.ownsRow base e sz v n xs) (hg : w.grownBy w' r) (ho : Oth w r e) : w'.ownsRow base e sz v n xs := by
  refine h.kept hg ?_
  rcases h.2 with ⟨rfl, _⟩ | ⟨g, cap, cur, rfl, h2, h3, h4⟩
  · left; rfl
  · right
    intro e2
    obtain ⟨t', ys, k, hne⟩ := ho g e2.symm
    unfold Bk at k
    rw [h3] at k
    simp at k
    exact hne k.2
theorem Bk.oth {g : Nat} {t : TypeId} {xs : Array Value} (h : Bk w g t xs) (hg : w.grownBy w' r) (ho : Oth w r t) : Bk w' g t xs := by
  refine h.grown hg fun e => ?_
  obtain ⟨t', ys, k, hne⟩ := ho g e.symm
  unfold Bk at k h
  rw [h] at k
  simp at k
  exact hne k.2
theorem TyA.oth {A : Option Addr} {n : Nat} {t : TypeId} (h : TyA w A n t) (hg : w.grownBy w' r) (ho : Oth w r t) : TyA w' A n t := h.grown hg ho
theorem IsI.oth {k : IntKind} {A : Option Addr} {n : Nat} {l : List Int} {t : TypeId} (h : IsI k w A n l) (ht : TyA w A n t) (hg : w.grownBy w' r) (ho : Oth w r t) : IsI k w' A n l := by
  by_cases hn : 0 < n
  · refine Rds.grown h hg ?_
    intro ad e e2
    obtain ⟨ad', xs, e3, k'⟩ := ht hn
    rw [e] at e3
    cases e3
    obtain ⟨t', ys, k'', hne⟩ := ho _ e2.symm
    unfold Bk at k' k''
    rw [k'] at k''
    simp at k''
    exact hne k''.2
  · exact ⟨h.1, fun h => absurd h hn⟩
theorem Cf.oth {A : Option Addr} {n : Nat} {l : List Int} {t : TypeId} (h : Cf w A n l) (ht : TyA w A n t) (hg : w.grownBy w' r) (ho : Oth w r t) : Cf w' A n l := ⟨h.1.oth ht hg ho, h.2⟩
theorem Fr.oth {cs : Array Value} {code pc : Int} {ws ls : List Int} (h : Fr w cs code pc ws ls) (hg : w.grownBy w' r) (h1 : Oth w r 42) (h2 : Oth w r 3) : Fr w' cs code pc ws ls := by
  obtain ⟨A, n, c, B, m, d, e, a1, a2, a3, a4, a5, a6⟩ := h
  exact ⟨A, n, c, B, m, d, e, a1.oth a5 hg h1, a2.oth a6 hg h2, a3, a4, a5.oth hg h1, a6.oth hg h2⟩
end

/-- Two lists, element by element. -/
def All2 {α β : Type} (R : α → β → Prop) (l : List α) (l' : List β) : Prop := l.length = l'.length ∧ ∀ (i : Nat) a b, l[i]? = some a → l'[i]? = some b → R a b
theorem All2.weaken {α β : Type} {R S : α → β → Prop} {l : List α} {l' : List β} (h : All2 R l l') (hi : ∀ a b, R a b → S a b) : All2 S l l' := ⟨h.1, fun i a b h1 h2 => hi _ _ (h.2 i a b h1 h2)⟩
theorem All2.nil {α β : Type} {R : α → β → Prop} : All2 R [] [] := ⟨rfl, fun i a b h => by simp at h⟩
theorem All2.snoc {α β : Type} {R : α → β → Prop} {l : List α} {l' : List β} (h : All2 R l l') {a : α} {b : β} (hab : R a b) : All2 R (l ++ [a]) (l' ++ [b]) := by
  refine ⟨by simp [h.1], fun i x y h1 h2 => ?_⟩
  by_cases hi : i < l.length
  · rw [List.getElem?_append_left hi] at h1
    rw [List.getElem?_append_left (by rw [← h.1]; exact hi)] at h2
    exact h.2 i x y h1 h2
  · rw [List.getElem?_append_right (by omega)] at h1
    rw [List.getElem?_append_right (by rw [← h.1]; omega)] at h2
    rw [← h.1] at h2
    cases e : i - l.length with
    | zero =>
      rw [e] at h1 h2
      simp at h1 h2
      subst h1 h2
      exact hab
    | succ k =>
      rw [e] at h1
      simp at h1
theorem All2.set_ {α β : Type} {R : α → β → Prop} {l : List α} {l' : List β} (h : All2 R l l') (i : Nat) {a : α} {b : β} (hab : R a b) : All2 R (l.set i a) (l'.set i b) := by
  refine ⟨by simp [h.1], fun j x y h1 h2 => ?_⟩
  by_cases hij : i = j
  · subst hij
    by_cases hi : i < l.length
    · have hi' : i < l'.length := by rw [← h.1]; exact hi
      rw [List.getElem?_set_self hi] at h1
      rw [List.getElem?_set_self hi'] at h2
      cases h1
      cases h2
      exact hab
    · rw [List.getElem?_eq_none (by simp; omega)] at h1
      cases h1
  · rw [List.getElem?_set_ne hij] at h1 h2
    exact h.2 j x y h1 h2
/-- A frame, in the plain. -/
structure Fa where
  code : Int
  pc : Int
  ws : List Int
  ls : List Int
/-- An item of a trace. -/
structure It where
  th : Int
  acc : Acc
  v : Int
  y : Bool
def It.cells (x : It) : List Value := [.int .i64 x.th, .int .i64 x.acc.k, .int .i64 x.acc.a, .int .u64 x.acc.o, .int .u64 x.acc.n, .int .i64 0, .int .u64 x.v, .bool x.y]
/-- A world of machines, in the plain: capacities, threads, words, machines, trace, past, frames. -/
structure St where
  l : List Int
  th : Int
  ws : List Int
  ms : List Mc
  tr : List It
  pa : List (List Int)
  qs : List Fa
  /-- Outcomes that lie beside the world: where, what. -/
  ex : List (Nat × Int × Int)
/-- Where its parts lie. -/
structure Hd where
  A : Option Addr
  n : Nat
  c : Nat
  B : Option Addr
  m : Nat
  d : Nat
  MA : Option Addr
  mn : Nat
  mc : Nat
  LA : Option Addr
  ln : Nat
  lc : Nat
  tk : Int
  vL : Value
  vT : Value
  vP : Value
  vF : Value
  fs : List (Array Value)
  ps : List (Array Value)
def FrA (w : World) (cs : Array Value) (q : Fa) : Prop := Fr w cs q.code q.pc q.ws q.ls
/-- A memory of the past. -/
def Pm (w : World) (cs : Array Value) (ws : List Int) : Prop := ∃ A n c B m d tk, cs = #[.slice A n c, .slice B m d, .int .i64 tk] ∧ IsI .u64 w A n ws ∧ TyA w A n 42 ∧ n ≤ 1000000
def Hd.mcs (h : Hd) (st : St) (x : Mc) : List Value := (Mc.cells h.A h.n h.c h.B h.m h.d st.th x).toList
def TWok (T : TypeId) : Prop := T ≠ 3 ∧ T ≠ 42 ∧ T ≠ 81 ∧ T ≠ 58 ∧ T ≠ 33 ∧ T ≠ 51
def Hd.cells (h : Hd) (st : St) : Array Value := #[.slice h.A h.n h.c, .slice h.B h.m h.d, .int .i64 st.th, .slice h.MA h.mn h.mc, .slice h.LA h.ln h.lc, .int .i64 h.tk, h.vL, h.vT, h.vP, h.vF]
structure WdH (w : World) (base G : Nat) (TW : TypeId) (h : Hd) (st : St) : Prop where
  tw : TWok TW
  bk : Bk w G TW (h.cells st)
  hG : base ≤ G
  cf : Cf w h.A h.n st.l
  cty : TyA w h.A h.n 3
  mi : IsI .u64 w h.MA h.mn st.ws
  mty : TyA w h.MA h.mn 42
  mn : h.mn ≤ 1000000
  rL : w.ownsRow base 81 14 h.vL st.ms.length (st.ms.flatMap (h.mcs st))
  rT : w.ownsRow base 58 8 h.vT st.tr.length (st.tr.flatMap It.cells)
  rP : w.ownsRow base 33 3 h.vP h.ps.length (h.ps.flatMap Array.toList)
  rF : w.ownsRow base 51 5 h.vF h.fs.length (h.fs.flatMap Array.toList)
  fr : All2 (FrA w) h.fs st.qs
  pa : All2 (Pm w) h.ps st.pa
  ex : TW ≠ 47 → ∀ x ∈ st.ex, Bk w x.1 47 #[.int .i64 x.2.1, .int .u64 x.2.2]
def Wd (w : World) (base G : Nat) (TW : TypeId) (st : St) : Prop := ∃ h, WdH w base G TW h st
theorem Pm.below {w w' : World} {cs : Array Value} {ws : List Int} (h : Pm w cs ws) (hb : Below w.heap.size w w') : Pm w' cs ws := by
  obtain ⟨A, n, c, B, m, d, tk, e, h1, h2, h3⟩ := h
  exact ⟨A, n, c, B, m, d, tk, e, h1.below hb, h2.below hb, h3⟩
theorem Pm.oth {w w' : World} {r : Option Nat} {cs : Array Value} {ws : List Int} (h : Pm w cs ws) (hg : w.grownBy w' r) (h1 : Oth w r 42) : Pm w' cs ws := by
  obtain ⟨A, n, c, B, m, d, tk, e, a1, a2, a3⟩ := h
  exact ⟨A, n, c, B, m, d, tk, e, a1.oth a2 hg h1, a2.oth hg h1, a3⟩
section
variable {w w' : World} {base G : Nat} {TW : TypeId} {h : Hd} {st : St}
theorem WdH.below (H : WdH w base G TW h st) (hb : Below w.heap.size w w') : WdH w' base G TW h st :=
  ⟨H.tw, H.bk.below hb H.bk.lt, H.hG, H.cf.below hb, H.cty.below hb, H.mi.below hb, H.mty.below hb, H.mn, own_bel H.rL hb, own_bel H.rT hb, own_bel H.rP hb, own_bel H.rF hb,
    H.fr.weaken fun a b k => Fr.below k hb, H.pa.weaken fun a b k => Pm.below k hb, fun hx x hm => (H.ex hx x hm).below hb (H.ex hx x hm).lt⟩
theorem WdH.alloc (H : WdH w base G TW h st) (o : Obj) : WdH (w.alloc o) base G TW h st := H.below (below_new w o)
theorem Wd.below (H : Wd w base G TW st) (hb : Below w.heap.size w w') : Wd w' base G TW st := by
  obtain ⟨h, H⟩ := H
  exact ⟨h, H.below hb⟩
theorem WdH.base_le (H : WdH w base G TW h st) : base ≤ w.heap.size := Nat.le_trans H.hG (Nat.le_of_lt H.bk.lt)
end
end Go.Proofs.YtepngbdjobckbaaGreat
end
section
namespace Go.Proofs.YtepngbdjobckbaaGreat
open Go.RowKit
set_option linter.unusedVariables false

theorem flat_range {α : Type} {f : α → List Value} {sz : Nat} (hf : ∀ x, (f x).length = sz) (l : List α) : ∀ (i : Nat) (x : α), l[i]? = some x → ∀ j, j < sz → (l.flatMap f)[i * sz + j]? = (f x)[j]? := by
  induction l with
  | nil => intro i x h; simp at h
  | cons a r ih =>
    intro i x h j hj
    rw [List.flatMap_cons]
    cases i with
    | zero =>
      simp at h
      subst h
      rw [Nat.zero_mul, Nat.zero_add, List.getElem?_append_left (by rw [hf]; exact hj)]
    | succ k =>
      simp at h
      rw [List.getElem?_append_right (by rw [hf]; rw [Nat.succ_mul]; omega), hf, show (k + 1) * sz + j - sz = k * sz + j by rw [Nat.succ_mul]; omega]
      exact ih k x h j hj
/-- A row's element, as a range of cells. -/
theorem own_range {α : Type} {f : α → List Value} {sz : Nat} (hf : ∀ x, (f x).length = sz) {w : World} {base g : Nat} {e : TypeId} {cap : Nat} {l : List α} (h : w.ownsRow base e sz (.slice (some ⟨g, 0, none⟩) l.length cap) l.length (l.flatMap f)) {i : Nat} {x : α} (hx : l[i]? = some x) : w.rangeAt g (i * sz) (f x) := by
  intro j v hv
  have hj : j < sz := by
    have := (List.getElem?_eq_some_iff.1 hv).1
    rwa [hf] at this
  have hlt : i * sz + j < l.length * sz := by
    have hi : i < l.length := (List.getElem?_eq_some_iff.1 hx).1
    have : (i + 1) * sz ≤ l.length * sz := Nat.mul_le_mul_right sz hi
    rw [Nat.succ_mul] at this
    omega
  rw [h.cellAt (i * sz + j) hlt, flat_range hf l i x hx j hj]
  exact hv
theorem mcs_len (h : Hd) (st : St) (x : Mc) : (h.mcs st x).length = 14 := rfl
theorem bk10 {w : World} {g : Nat} {t : TypeId} {a0 a1 a2 a3 a4 a5 a6 a7 a8 a9 : Value} (h : Bk w g t #[a0, a1, a2, a3, a4, a5, a6, a7, a8, a9]) :
    w.cell? ⟨g, 0, none⟩ = some a0 ∧ w.cell? ⟨g, 1, none⟩ = some a1 ∧ w.cell? ⟨g, 2, none⟩ = some a2 ∧ w.cell? ⟨g, 3, none⟩ = some a3 ∧ w.cell? ⟨g, 4, none⟩ = some a4 ∧ w.cell? ⟨g, 5, none⟩ = some a5 ∧ w.cell? ⟨g, 6, none⟩ = some a6 ∧ w.cell? ⟨g, 7, none⟩ = some a7 ∧ w.cell? ⟨g, 8, none⟩ = some a8 ∧ w.cell? ⟨g, 9, none⟩ = some a9 ∧ ∀ i, w.frozen? ⟨g, i, none⟩ = false :=
  ⟨h.cell 0, h.cell 1, h.cell 2, h.cell 3, h.cell 4, h.cell 5, h.cell 6, h.cell 7, h.cell 8, h.cell 9, h.frozen⟩
theorem rg14 {w : World} {g o : Nat} {a0 a1 a2 a3 a4 a5 a6 a7 a8 a9 a10 a11 a12 a13 : Value} (h : w.rangeAt g o [a0, a1, a2, a3, a4, a5, a6, a7, a8, a9, a10, a11, a12, a13]) :
    w.cell? ⟨g, o, none⟩ = some a0 ∧ w.cell? ⟨g, o + 1, none⟩ = some a1 ∧ w.cell? ⟨g, o + 2, none⟩ = some a2 ∧ w.cell? ⟨g, o + 3, none⟩ = some a3 ∧ w.cell? ⟨g, o + 4, none⟩ = some a4 ∧ w.cell? ⟨g, o + 5, none⟩ = some a5 ∧ w.cell? ⟨g, o + 6, none⟩ = some a6 ∧ w.cell? ⟨g, o + 7, none⟩ = some a7 ∧ w.cell? ⟨g, o + 8, none⟩ = some a8 ∧ w.cell? ⟨g, o + 9, none⟩ = some a9 ∧ w.cell? ⟨g, o + 10, none⟩ = some a10 ∧ w.cell? ⟨g, o + 11, none⟩ = some a11 ∧ w.cell? ⟨g, o + 12, none⟩ = some a12 ∧ w.cell? ⟨g, o + 13, none⟩ = some a13 :=
  ⟨h 0 _ rfl, h 1 _ rfl, h 2 _ rfl, h 3 _ rfl, h 4 _ rfl, h 5 _ rfl, h 6 _ rfl, h 7 _ rfl, h 8 _ rfl, h 9 _ rfl, h 10 _ rfl, h 11 _ rfl, h 12 _ rfl, h 13 _ rfl⟩
theorem rg5 {w : World} {g o : Nat} {a0 a1 a2 a3 a4 : Value} (h : w.rangeAt g o [a0, a1, a2, a3, a4]) :
    w.cell? ⟨g, o, none⟩ = some a0 ∧ w.cell? ⟨g, o + 1, none⟩ = some a1 ∧ w.cell? ⟨g, o + 2, none⟩ = some a2 ∧ w.cell? ⟨g, o + 3, none⟩ = some a3 ∧ w.cell? ⟨g, o + 4, none⟩ = some a4 :=
  ⟨h 0 _ rfl, h 1 _ rfl, h 2 _ rfl, h 3 _ rfl, h 4 _ rfl⟩
/-- The machines' row where there is a machine. -/
theorem WdH.rowL {w : World} {base G : Nat} {TW : TypeId} {h : Hd} {st : St} (H : WdH w base G TW h st) {i : Nat} (hi : i < st.ms.length) : ∃ g c, h.vL = .slice (some ⟨g, 0, none⟩) st.ms.length c ∧ base ≤ g := by
  rcases H.rL.2 with ⟨_, h0⟩ | ⟨g, cap, cur, h1, h2, _⟩
  · omega
  · exact ⟨g, cap, h1, h2⟩
theorem WdH.rowF {w : World} {base G : Nat} {TW : TypeId} {h : Hd} {st : St} (H : WdH w base G TW h st) {i : Nat} (hi : i < h.fs.length) : ∃ g c, h.vF = .slice (some ⟨g, 0, none⟩) h.fs.length c ∧ base ≤ g := by
  rcases H.rF.2 with ⟨_, h0⟩ | ⟨g, cap, cur, h1, h2, _⟩
  · omega
  · exact ⟨g, cap, h1, h2⟩
theorem fr_size {w : World} {cs : Array Value} {q : Fa} (h : FrA w cs q) : cs.toList.length = 5 := by
  obtain ⟨A, n, c, B, m, d, rfl, -⟩ := h
  rfl
/-- A row of arrays that are all of one size. -/
theorem flat_rangeA {sz : Nat} (l : List (Array Value)) (hf : ∀ x ∈ l, x.toList.length = sz) : ∀ (i : Nat) (x : Array Value), l[i]? = some x → ∀ j, j < sz → (l.flatMap Array.toList)[i * sz + j]? = x.toList[j]? := by
  induction l with
  | nil => intro i x h; simp at h
  | cons a r ih =>
    intro i x h j hj
    have ha := hf a List.mem_cons_self
    rw [List.flatMap_cons]
    cases i with
    | zero =>
      simp at h
      subst h
      rw [Nat.zero_mul, Nat.zero_add, List.getElem?_append_left (by rw [ha]; exact hj)]
    | succ k =>
      simp at h
      rw [List.getElem?_append_right (by rw [ha, Nat.succ_mul]; omega), ha, show (k + 1) * sz + j - sz = k * sz + j by rw [Nat.succ_mul]; omega]
      exact ih (fun x hx => hf x (List.mem_cons_of_mem _ hx)) k x h j hj
theorem own_rangeA {sz : Nat} {w : World} {base g : Nat} {e : TypeId} {cap : Nat} {l : List (Array Value)} (hf : ∀ x ∈ l, x.toList.length = sz) (h : w.ownsRow base e sz (.slice (some ⟨g, 0, none⟩) l.length cap) l.length (l.flatMap Array.toList)) {i : Nat} {x : Array Value} (hx : l[i]? = some x) : w.rangeAt g (i * sz) x.toList := by
  intro j v hv
  have hi : i < l.length := (List.getElem?_eq_some_iff.1 hx).1
  have hj : j < sz := by
    have := (List.getElem?_eq_some_iff.1 hv).1
    rwa [hf x (by obtain ⟨h1, h2⟩ := List.getElem?_eq_some_iff.1 hx; exact h2 ▸ List.getElem_mem h1)] at this
  have hlt : i * sz + j < l.length * sz := by
    have : (i + 1) * sz ≤ l.length * sz := Nat.mul_le_mul_right sz hi
    rw [Nat.succ_mul] at this
    omega
  rw [h.cellAt (i * sz + j) hlt, flat_rangeA l hf i x hx j hj]
  exact hv
theorem WdH.fsz {w : World} {base G : Nat} {TW : TypeId} {h : Hd} {st : St} (H : WdH w base G TW h st) : ∀ x ∈ h.fs, x.toList.length = 5 := by
  intro x hx
  obtain ⟨i, hi, rfl⟩ := List.mem_iff_getElem.1 hx
  have hi' : i < st.qs.length := by rw [← H.fr.1]; exact hi
  exact fr_size (H.fr.2 i _ _ (List.getElem?_eq_getElem hi) (List.getElem?_eq_getElem hi'))
theorem rangeAt_below {w w' : World} {b o : Nat} {cs : List Value} (h : w.rangeAt b o cs) (hb : Below w.heap.size w w') : w'.rangeAt b o cs := fun j v hv => by
  have := h j v hv
  rw [hb.cell (World.block_lt_of_cell? w _ this)]
  exact this
/-- The frame of a machine. -/
theorem WdH.frame {w : World} {base G : Nat} {TW : TypeId} {h : Hd} {st : St} (H : WdH w base G TW h st) {i : Nat} {q : Fa} (hq : st.qs[i]? = some q) :
    ∃ A n c B m d g cp, FrA w #[.int .i64 q.code, .int .i64 q.pc, .slice A n c, .slice B m d, .slice none 0 0] q ∧ h.fs[i]? = some #[.int .i64 q.code, .int .i64 q.pc, .slice A n c, .slice B m d, .slice none 0 0] ∧
      h.vF = .slice (some ⟨g, 0, none⟩) h.fs.length cp ∧ i < h.fs.length ∧ w.rangeAt g (i * 5) [.int .i64 q.code, .int .i64 q.pc, .slice A n c, .slice B m d, .slice none 0 0] := by
  have hi : i < h.fs.length := by rw [H.fr.1]; exact (List.getElem?_eq_some_iff.1 hq).1
  have hc := List.getElem?_eq_getElem hi
  have hf := H.fr.2 i _ _ hc hq
  obtain ⟨A, n, c, B, m, d, e, -⟩ := id hf
  obtain ⟨g, cp, ev, hg⟩ := H.rowF hi
  have hr := H.rF
  rw [ev] at hr
  have hrg := own_rangeA H.fsz hr hc
  rw [e] at hf hc hrg
  exact ⟨A, n, c, B, m, d, g, cp, hf, hc, ev, hi, hrg⟩
end Go.Proofs.YtepngbdjobckbaaGreat
end
section
namespace Go.Proofs.YtepngbdjobckbaaGreat
open Go.RowKit
set_option linter.unusedVariables false

/-- The blocks of type T are as they were. -/
def Kp (w w' : World) (T : TypeId) : Prop := ∀ g xs, Bk w g T xs → Bk w' g T xs
section
variable {w w' w'' : World} {T : TypeId}
theorem Kp.refl (w : World) (T : TypeId) : Kp w w T := fun _ _ h => h
theorem Kp.trans (h : Kp w w' T) (k : Kp w' w'' T) : Kp w w'' T := fun g xs b => k g xs (h g xs b)
theorem kp_below (h : Below w.heap.size w w') : Kp w w' T := fun g xs b => b.below h b.lt
theorem kp_oth {r : Option Nat} (h : w.grownBy w' r) (ho : Oth w r T) : Kp w w' T := fun g xs b => b.oth h ho
theorem kp_set {G : Nat} {TW : TypeId} {xs : Array Value} (k : Bk w G TW xs) (hne : T ≠ TW) (i : Nat) (v : Value) : Kp w (w.setCell ⟨G, i, none⟩ v) T := fun g ys b => b.far (p := ⟨G, i, none⟩) (fun e => by
  subst e
  unfold Bk at b k
  rw [k] at b
  simp at b
  exact hne b.2.symm) v
theorem kp_sets {G : Nat} {TW : TypeId} (hne : T ≠ TW) (vs : List Value) : ∀ (o : Nat) {w : World} {xs : Array Value}, Bk w G TW xs → Kp w (w.setCells G o vs) T := by
  induction vs with
  | nil => intro o w xs k; exact Kp.refl _ _
  | cons v r ih =>
    intro o w xs k
    exact (kp_set k hne o v).trans (ih (o + 1) (k.set_ o v))
theorem own_kp {base : Nat} {sz n : Nat} {v : Value} {xs : List Value} (h : w.ownsRow base T sz v n xs) (k : Kp w w' T) : w'.ownsRow base T sz v n xs := by
  refine ⟨h.1, ?_⟩
  rcases h.2 with h2 | ⟨g, cap, cur, h1, h2, h3, h4⟩
  · exact .inl h2
  · exact .inr ⟨g, cap, cur, h1, h2, k g cur h3, h4⟩
theorem TyA.kp {A : Option Addr} {n : Nat} (h : TyA w A n T) (k : Kp w w' T) : TyA w' A n T := fun hn => by
  obtain ⟨ad, xs, e, b⟩ := h hn
  exact ⟨ad, xs, e, k _ _ b⟩
theorem IsI.kp {kk : IntKind} {A : Option Addr} {n : Nat} {l : List Int} (h : IsI kk w A n l) (ht : TyA w A n T) (k : Kp w w' T) : IsI kk w' A n l := by
  refine ⟨h.1, fun hn => ?_⟩
  obtain ⟨ad, h1, h2, h3⟩ := h.2 hn
  obtain ⟨ad', xs, e, b⟩ := ht hn
  rw [h1] at e
  cases e
  have b' := k _ _ b
  refine ⟨ad, h1, b'.lt, fun j v hv => ?_⟩
  have hbb : (ad.add j).block = ad.block := by rw [block_add]
  rw [World.cell?_of_block (w := w) (by rw [hbb]; exact Eq.trans b' b.symm)]
  exact h3 j v hv
theorem Cf.kp {A : Option Addr} {n : Nat} {l : List Int} (h : Cf w A n l) (ht : TyA w A n T) (k : Kp w w' T) : Cf w' A n l := ⟨h.1.kp ht k, h.2⟩
theorem Fr.kp {cs : Array Value} {code pc : Int} {ws ls : List Int} (h : Fr w cs code pc ws ls) (k1 : Kp w w' 42) (k2 : Kp w w' 3) : Fr w' cs code pc ws ls := by
  obtain ⟨A, n, c, B, m, d, e, a1, a2, a3, a4, a5, a6⟩ := h
  exact ⟨A, n, c, B, m, d, e, a1.kp a5 k1, a2.kp a6 k2, a3, a4, a5.kp k1, a6.kp k2⟩
theorem Pm.kp {cs : Array Value} {ws : List Int} (h : Pm w cs ws) (k : Kp w w' 42) : Pm w' cs ws := by
  obtain ⟨A, n, c, B, m, d, tk, e, a1, a2, a3⟩ := h
  exact ⟨A, n, c, B, m, d, tk, e, a1.kp a2 k, a2.kp k, a3⟩
end
/-- A list, from o on other elements. -/
def setL (xs : List Value) : Nat → List Value → List Value
  | _, [] => xs
  | o, v :: r => setL (xs.set o v) (o + 1) r
theorem setL_len (vs : List Value) : ∀ (xs : List Value) (o : Nat), (setL xs o vs).length = xs.length := by
  induction vs with
  | nil => intro xs o; rfl
  | cons v r ih => intro xs o; rw [setL, ih]; simp
theorem setL_get (vs : List Value) : ∀ (xs : List Value) (o i : Nat), o + vs.length ≤ xs.length → (setL xs o vs)[i]? = if o ≤ i ∧ i < o + vs.length then vs[i - o]? else xs[i]? := by
  induction vs with
  | nil => intro z o i h; rw [if_neg (by simp)]; rfl
  | cons v r ih =>
    intro z o i h
    simp only [List.length_cons] at h ⊢
    rw [setL, ih (z.set o v) (o + 1) i (by simp; omega)]
    by_cases h1 : o + 1 ≤ i ∧ i < o + 1 + r.length
    · rw [if_pos h1, if_pos (by omega), show i - o = (i - (o + 1)) + 1 by omega]
      rfl
    · rw [if_neg h1]
      by_cases h2 : i = o
      · subst h2
        rw [if_pos (by omega)]
        simp [show i < z.length by omega]
      · rw [if_neg (by omega), List.getElem?_set_ne (by omega)]
theorem flat_len {α : Type} {f : α → List Value} {sz : Nat} {l : List α} (hf : ∀ x ∈ l, (f x).length = sz) : (l.flatMap f).length = l.length * sz := by
  induction l with
  | nil => simp
  | cons a r ih =>
    rw [List.flatMap_cons, List.length_append, ih (fun x hx => hf x (List.mem_cons_of_mem _ hx)), hf a List.mem_cons_self, List.length_cons, Nat.succ_mul]
    omega
theorem setL_app (a b : List Value) (vs : List Value) (o : Nat) (h : o + vs.length ≤ b.length) : setL (a ++ b) (a.length + o) vs = a ++ setL b o vs := by
  apply List.ext_getElem?
  intro i
  rw [setL_get _ _ _ _ (by simp; omega)]
  by_cases hi : i < a.length
  · rw [if_neg (by omega), List.getElem?_append_left hi, List.getElem?_append_left hi]
  · rw [List.getElem?_append_right (l₁ := a) (l₂ := setL b o vs) (by omega), setL_get _ _ _ _ h]
    by_cases h1 : o ≤ i - a.length ∧ i - a.length < o + vs.length
    · rw [if_pos h1, if_pos (by omega), show i - (a.length + o) = i - a.length - o by omega]
    · rw [if_neg h1, if_neg (by omega), List.getElem?_append_right (by omega)]
theorem setL_all (a vs : List Value) (h : a.length = vs.length) : setL a 0 vs = vs := by
  apply List.ext_getElem?
  intro i
  rw [setL_get _ _ _ _ (by omega)]
  by_cases hi : i < vs.length
  · rw [if_pos (by omega)]; simp
  · rw [if_neg (by omega), List.getElem?_eq_none (by omega), List.getElem?_eq_none (by omega)]
theorem setL_front (a b vs : List Value) (h : a.length = vs.length) : setL (a ++ b) 0 vs = vs ++ b := by
  apply List.ext_getElem?
  intro i
  rw [setL_get _ _ _ _ (by simp; omega)]
  by_cases hi : i < vs.length
  · rw [if_pos (by omega), List.getElem?_append_left hi]; simp
  · rw [if_neg (by omega), List.getElem?_append_right (by omega), List.getElem?_append_right (by omega), h]
theorem flat_set {α : Type} {f : α → List Value} {sz : Nat} (y : α) (hy : (f y).length = sz) (l : List α) : (∀ x ∈ l, (f x).length = sz) → ∀ (i : Nat), i < l.length → setL (l.flatMap f) (i * sz) (f y) = (l.set i y).flatMap f := by
  induction l with
  | nil => intro _ i h; simp at h
  | cons a r ih =>
    intro hf i h
    have ha := hf a List.mem_cons_self
    cases i with
    | zero =>
      rw [Nat.zero_mul, List.flatMap_cons, List.set_cons_zero, List.flatMap_cons, setL_front _ _ _ (by rw [ha, hy])]
    | succ k =>
      have hr : ∀ x ∈ r, (f x).length = sz := fun x hx => hf x (List.mem_cons_of_mem _ hx)
      have hk : k < r.length := by simpa using h
      rw [List.flatMap_cons, List.set_cons_succ, List.flatMap_cons, Nat.succ_mul, show k * sz + sz = (f a).length + k * sz by rw [ha]; omega, setL_app, ih hr k hk]
      rw [flat_len hr, hy]
      have : (k + 1) * sz ≤ r.length * sz := Nat.mul_le_mul_right sz hk
      rw [Nat.succ_mul] at this
      omega
theorem own_sets {base g cap n sz : Nat} {e : TypeId} (vs : List Value) : ∀ (o : Nat) {w : World} {xs : List Value}, w.ownsRow base e sz (.slice (some ⟨g, 0, none⟩) n cap) n xs → (w.setCells g o vs).ownsRow base e sz (.slice (some ⟨g, 0, none⟩) n cap) n (setL xs o vs) := by
  induction vs with
  | nil => intro o w xs h; exact h
  | cons v r ih => intro o w xs h; exact ih (o + 1) (h.stored o v).1
theorem grown_sets {g : Nat} (vs : List Value) : ∀ (o : Nat) (w : World), w.grownBy (w.setCells g o vs) (some g) := by
  induction vs with
  | nil => intro o w; exact ⟨rfl, rfl, rfl, Nat.le_refl _, fun _ _ _ => rfl⟩
  | cons v r ih =>
    intro o w
    have h2 := ih (o + 1) (w.setCell ⟨g, o, none⟩ v)
    exact ⟨h2.os, h2.tape, h2.output, Nat.le_trans (by simp) h2.size, fun k hk hne => by
      rw [World.setCells, h2.block k (by simpa using hk) hne]
      exact heap_setCell_other w ⟨g, o, none⟩ k v (fun e => hne (by simp [e]))⟩
theorem own_bk {w : World} {base g cap n m sz : Nat} {e : TypeId} {xs : List Value} (h : w.ownsRow base e sz (.slice (some ⟨g, 0, none⟩) n cap) m xs) : ∃ cur, Bk w g e cur := by
  rcases h.2 with ⟨h1, _⟩ | ⟨g', c', cur, h1, h2, h3, _⟩
  · cases h1
  · cases h1
    exact ⟨cur, h3⟩
theorem kp_own {w : World} {base g cap n m sz : Nat} {e T : TypeId} {xs : List Value} (h : w.ownsRow base e sz (.slice (some ⟨g, 0, none⟩) n cap) m xs) (hne : T ≠ e) (o : Nat) (vs : List Value) : Kp w (w.setCells g o vs) T := by
  obtain ⟨cur, k⟩ := own_bk h
  exact kp_sets hne vs o k
/-- A row is appended to, its head is stored in a block: types apart from both are as they were. -/
theorem kp_push {w w1 : World} {base G sz n i : Nat} {e TW T : TypeId} {v v' : Value} {xs : List Value} {cs : Array Value} (h : w.ownsRow base e sz v n xs) (hg : w.grownBy w1 v.ownBlock) (k : Bk w G TW cs) (h1 : T ≠ e) (h2 : T ≠ TW) (h3 : TW ≠ e) : Kp w (w1.setCell ⟨G, i, none⟩ v') T :=
  (kp_oth hg (Oth.own h h1)).trans (kp_set (k.oth hg (Oth.own h h3)) h2 i v')
section
variable {w w1 : World} {base G : Nat} {TW : TypeId} {h : Hd} {st : St}
theorem WdH.kps (H : WdH w base G TW h st) (ki : Kp w w1 3) (ku : Kp w w1 42) : Cf w1 h.A h.n st.l ∧ TyA w1 h.A h.n 3 ∧ IsI .u64 w1 h.MA h.mn st.ws ∧ TyA w1 h.MA h.mn 42 ∧ All2 (FrA w1) h.fs st.qs ∧ All2 (Pm w1) h.ps st.pa :=
  ⟨H.cf.kp H.cty ki, H.cty.kp ki, H.mi.kp H.mty ku, H.mty.kp ku, H.fr.weaken fun a b k => Fr.kp k ku ki, H.pa.weaken fun a b k => Pm.kp k ku⟩
theorem WdH.pushT (H : WdH w base G TW h st) (it : It) (v' : Value) (hown : w1.ownsRow base 58 8 v' (st.tr.length + 1) (st.tr.flatMap It.cells ++ It.cells it)) (hg : w.grownBy w1 h.vT.ownBlock) :
    WdH (w1.setCell ⟨G, 7, none⟩ v') base G TW { h with vT := v' } { st with tr := st.tr ++ [it] } := by
  obtain ⟨t1, t2, t3, t4, t5, t6⟩ := H.tw
  have kk : ∀ T, T ≠ 58 → T ≠ TW → Kp w (w1.setCell ⟨G, 7, none⟩ v') T := fun T a b => kp_push H.rT hg H.bk a b t4
  obtain ⟨p1, p2, p3, p4, p5, p6⟩ := H.kps (kk _ (by decide) (Ne.symm t1)) (kk _ (by decide) (Ne.symm t2))
  have b1 := H.bk.oth hg (Oth.own H.rT t4)
  refine ⟨H.tw, b1.set_ 7 v', H.hG, p1, p2, p3, p4, H.mn, own_kp H.rL (kk _ (by decide) (Ne.symm t3)), ?_, own_kp H.rP (kk _ (by decide) (Ne.symm t5)), own_kp H.rF (kk _ (by decide) (Ne.symm t6)), p5, p6, fun hx x hm => kk _ (by decide) (Ne.symm hx) _ _ (H.ex hx x hm)⟩
  have := own_kp hown (kp_set b1 (Ne.symm t4) 7 v')
  simpa using this
theorem WdH.pushP (H : WdH w base G TW h st) (cs : Array Value) (ws : List Int) (hp : Pm w cs ws) (v' : Value) (hown : w1.ownsRow base 33 3 v' (h.ps.length + 1) (h.ps.flatMap Array.toList ++ cs.toList)) (hg : w.grownBy w1 h.vP.ownBlock) :
    WdH (w1.setCell ⟨G, 8, none⟩ v') base G TW { h with vP := v', ps := h.ps ++ [cs] } { st with pa := st.pa ++ [ws] } := by
  obtain ⟨t1, t2, t3, t4, t5, t6⟩ := H.tw
  have kk : ∀ T, T ≠ 33 → T ≠ TW → Kp w (w1.setCell ⟨G, 8, none⟩ v') T := fun T a b => kp_push H.rP hg H.bk a b t5
  have ku := kk _ (by decide) (Ne.symm t2)
  obtain ⟨p1, p2, p3, p4, p5, p6⟩ := H.kps (kk _ (by decide) (Ne.symm t1)) ku
  have b1 := H.bk.oth hg (Oth.own H.rP t5)
  refine ⟨H.tw, b1.set_ 8 v', H.hG, p1, p2, p3, p4, H.mn, own_kp H.rL (kk _ (by decide) (Ne.symm t3)), own_kp H.rT (kk _ (by decide) (Ne.symm t4)), ?_, own_kp H.rF (kk _ (by decide) (Ne.symm t6)), p5, p6.snoc (hp.kp ku), fun hx x hm => kk _ (by decide) (Ne.symm hx) _ _ (H.ex hx x hm)⟩
  have := own_kp hown (kp_set b1 (Ne.symm t5) 8 v')
  simpa using this
theorem WdH.pushL (H : WdH w base G TW h st) (x : Mc) (v' : Value) (hown : w1.ownsRow base 81 14 v' (st.ms.length + 1) (st.ms.flatMap (h.mcs st) ++ h.mcs st x)) (hg : w.grownBy w1 h.vL.ownBlock) :
    WdH (w1.setCell ⟨G, 6, none⟩ v') base G TW { h with vL := v' } { st with ms := st.ms ++ [x] } := by
  obtain ⟨t1, t2, t3, t4, t5, t6⟩ := H.tw
  have kk : ∀ T, T ≠ 81 → T ≠ TW → Kp w (w1.setCell ⟨G, 6, none⟩ v') T := fun T a b => kp_push H.rL hg H.bk a b t3
  obtain ⟨p1, p2, p3, p4, p5, p6⟩ := H.kps (kk _ (by decide) (Ne.symm t1)) (kk _ (by decide) (Ne.symm t2))
  have b1 := H.bk.oth hg (Oth.own H.rL t3)
  refine ⟨H.tw, b1.set_ 6 v', H.hG, p1, p2, p3, p4, H.mn, ?_, own_kp H.rT (kk _ (by decide) (Ne.symm t4)), own_kp H.rP (kk _ (by decide) (Ne.symm t5)), own_kp H.rF (kk _ (by decide) (Ne.symm t6)), p5, p6, fun hx x hm => kk _ (by decide) (Ne.symm hx) _ _ (H.ex hx x hm)⟩
  have := own_kp hown (kp_set b1 (Ne.symm t3) 6 v')
  have e : (st.ms ++ [x]).flatMap (h.mcs st) = st.ms.flatMap (h.mcs st) ++ h.mcs st x := by simp
  rw [← e] at this
  exact cast (by simp; rfl) this
theorem WdH.pushF (H : WdH w base G TW h st) (cs : Array Value) (q : Fa) (hp : FrA w cs q) (v' : Value) (hown : w1.ownsRow base 51 5 v' (h.fs.length + 1) (h.fs.flatMap Array.toList ++ cs.toList)) (hg : w.grownBy w1 h.vF.ownBlock) :
    WdH (w1.setCell ⟨G, 9, none⟩ v') base G TW { h with vF := v', fs := h.fs ++ [cs] } { st with qs := st.qs ++ [q] } := by
  obtain ⟨t1, t2, t3, t4, t5, t6⟩ := H.tw
  have kk : ∀ T, T ≠ 51 → T ≠ TW → Kp w (w1.setCell ⟨G, 9, none⟩ v') T := fun T a b => kp_push H.rF hg H.bk a b t6
  have ku := kk _ (by decide) (Ne.symm t2)
  have ki := kk _ (by decide) (Ne.symm t1)
  obtain ⟨p1, p2, p3, p4, p5, p6⟩ := H.kps ki ku
  have b1 := H.bk.oth hg (Oth.own H.rF t6)
  refine ⟨H.tw, b1.set_ 9 v', H.hG, p1, p2, p3, p4, H.mn, own_kp H.rL (kk _ (by decide) (Ne.symm t3)), own_kp H.rT (kk _ (by decide) (Ne.symm t4)), own_kp H.rP (kk _ (by decide) (Ne.symm t5)), ?_, p5.snoc (Fr.kp hp ku ki), p6, fun hx x hm => kk _ (by decide) (Ne.symm hx) _ _ (H.ex hx x hm)⟩
  have := own_kp hown (kp_set b1 (Ne.symm t6) 9 v')
  simpa using this
/-- The world's memory is another one. -/
theorem WdH.setM (H : WdH w base G TW h st) (MA : Option Addr) (mc : Nat) (ws : List Int) (hi : IsI .u64 w MA h.mn ws) (ht : TyA w MA h.mn 42) :
    WdH (w.setCells G 3 [.slice MA h.mn mc, .slice h.LA h.ln h.lc, .int .i64 h.tk]) base G TW { h with MA := MA, mc := mc } { st with ws := ws } := by
  obtain ⟨t1, t2, t3, t4, t5, t6⟩ := H.tw
  have kk : ∀ T, T ≠ TW → Kp w (w.setCells G 3 [.slice MA h.mn mc, .slice h.LA h.ln h.lc, .int .i64 h.tk]) T := fun T a => kp_sets a _ 3 H.bk
  have ku := kk _ (Ne.symm t2)
  obtain ⟨p1, p2, p3, p4, p5, p6⟩ := H.kps (kk _ (Ne.symm t1)) ku
  refine ⟨H.tw, ((H.bk.set_ 3 _).set_ 4 _).set_ 5 _, H.hG, p1, p2, hi.kp ht ku, ht.kp ku, H.mn, own_kp H.rL (kk _ (Ne.symm t3)), own_kp H.rT (kk _ (Ne.symm t4)), own_kp H.rP (kk _ (Ne.symm t5)), own_kp H.rF (kk _ (Ne.symm t6)), p5, p6, fun hx x hm => kk _ (Ne.symm hx) _ _ (H.ex hx x hm)⟩
/-- A machine is another one. -/
theorem WdH.setX (H : WdH w base G TW h st) {g c : Nat} (hv : h.vL = .slice (some ⟨g, 0, none⟩) st.ms.length c) (i : Nat) (hi : i < st.ms.length) (x : Mc) :
    WdH (w.setCells g (i * 14) (h.mcs st x)) base G TW h { st with ms := st.ms.set i x } := by
  obtain ⟨t1, t2, t3, t4, t5, t6⟩ := H.tw
  have r := H.rL
  rw [hv] at r
  have kk : ∀ T, T ≠ 81 → Kp w (w.setCells g (i * 14) (h.mcs st x)) T := fun T a => kp_own r a _ _
  obtain ⟨p1, p2, p3, p4, p5, p6⟩ := H.kps (kk _ (by decide)) (kk _ (by decide))
  refine ⟨H.tw, kk _ t3 _ _ H.bk, H.hG, p1, p2, p3, p4, H.mn, ?_, own_kp H.rT (kk _ (by decide)), own_kp H.rP (kk _ (by decide)), own_kp H.rF (kk _ (by decide)), p5, p6, fun hx x hm => kk _ (by decide) _ _ (H.ex hx x hm)⟩
  have := own_sets (h.mcs st x) (i * 14) r
  rw [flat_set (f := h.mcs st) (sz := 14) x rfl st.ms (fun x hx => rfl) i hi, ← hv] at this
  exact cast (by simp; rfl) this
/-- A frame is another one. -/
theorem WdH.setQ (H : WdH w base G TW h st) {g c : Nat} (hv : h.vF = .slice (some ⟨g, 0, none⟩) h.fs.length c) (i : Nat) (hi : i < h.fs.length) (cs : Array Value) (q : Fa) (hp : FrA w cs q) (hsz : ∀ x ∈ h.fs, x.toList.length = 5) :
    WdH (w.setCells g (i * 5) cs.toList) base G TW { h with fs := h.fs.set i cs } { st with qs := st.qs.set i q } := by
  obtain ⟨t1, t2, t3, t4, t5, t6⟩ := H.tw
  have r := H.rF
  rw [hv] at r
  have kk : ∀ T, T ≠ 51 → Kp w (w.setCells g (i * 5) cs.toList) T := fun T a => kp_own r a _ _
  have ku : Kp w (w.setCells g (i * 5) cs.toList) 42 := kk _ (by decide)
  have ki : Kp w (w.setCells g (i * 5) cs.toList) 3 := kk _ (by decide)
  obtain ⟨p1, p2, p3, p4, p5, p6⟩ := H.kps ki ku
  refine ⟨H.tw, kk _ t6 _ _ H.bk, H.hG, p1, p2, p3, p4, H.mn, own_kp H.rL (kk _ (by decide)), own_kp H.rT (kk _ (by decide)), own_kp H.rP (kk _ (by decide)), ?_, p5.set_ i (Fr.kp hp ku ki), p6, fun hx x hm => kk _ (by decide) _ _ (H.ex hx x hm)⟩
  have h5 : cs.toList.length = 5 := by
    obtain ⟨A, n, c, B, m, d, rfl, -⟩ := hp
    rfl
  have := own_sets cs.toList (i * 5) r
  rw [flat_set (f := Array.toList) (sz := 5) cs h5 h.fs hsz i hi] at this
  simpa [hv] using this
end
end Go.Proofs.YtepngbdjobckbaaGreat
end
