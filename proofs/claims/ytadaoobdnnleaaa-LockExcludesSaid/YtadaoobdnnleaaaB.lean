/- The machines' world on the heap: its block, its rows, its frames, kept apart by the types of their blocks. -/
import Derived.Test.YtadaoobdnnleaaaM
import Derived.Test.YtadaoobdnnleaaaF
import Derived.Test.YtadaoobdnnleaaaW
namespace Go.Proofs.Ytadaoobdnnleaaa
open Go.RowKit
set_option linter.unusedVariables false

/-- What is written is of another type than T. -/
def Oth (w : World) (r : Option Nat) (T : TypeId) : Prop := ∀ g, r = some g → ∃ t' xs, Bk w g t' xs ∧ T ≠ t'
theorem Oth.bk {w : World} {g : Nat} {t T : TypeId} {xs : Array Value} (h : Bk w g t xs) (hne : T ≠ t) : Oth w (some g) T := fun g' e => by
  injection e with e
  subst e
  exact ⟨_, _, h, hne⟩
theorem Oth.own {w : World} {base : Nat} {e T : TypeId} {sz n : Nat} {v : Value} {xs : List Value} (h : w.ownsRow base e sz v n xs) (hne : T ≠ e) : Oth w v.ownBlock T := fun g' e' => by
  rcases h.2 with ⟨rfl, _⟩ | ⟨g, cap, cur, rfl, h2, h3, h4⟩
  · simp [Value.ownBlock] at e'
  · simp only [Value.ownBlock, Option.some.injEq] at e'
    subst e'
    exact ⟨_, _, h3, hne⟩
section
variable {w w' : World} {r : Option Nat}
theorem own_oth {base : Nat} {e : TypeId} {sz n : Nat} {v : Value} {xs : List Value} (h : w.ownsRow base e sz v n xs) (hg : w.grownBy w' r) (ho : Oth w r e) : w'.ownsRow base e sz v n xs := by
  refine h.kept hg ?_
  rcases h.2 with ⟨rfl, _⟩ | ⟨g, cap, cur, rfl, h2, h3, h4⟩
  · left; rfl
  · right
    intro e2
    obtain ⟨t', ys, k, hne⟩ := ho g e2.symm
    unfold Bk at k
    rw [h3] at k
    simp at k
    exact hne k.2
theorem Bk.oth {g : Nat} {t : TypeId} {xs : Array Value} (h : Bk w g t xs) (hg : w.grownBy w' r) (ho : Oth w r t) : Bk w' g t xs := by
  refine h.grown hg fun e => ?_
  obtain ⟨t', ys, k, hne⟩ := ho g e.symm
  unfold Bk at k h
  rw [h] at k
  simp at k
  exact hne k.2
theorem TyA.oth {A : Option Addr} {n : Nat} {t : TypeId} (h : TyA w A n t) (hg : w.grownBy w' r) (ho : Oth w r t) : TyA w' A n t := h.grown hg ho
theorem IsI.oth {k : IntKind} {A : Option Addr} {n : Nat} {l : List Int} {t : TypeId} (h : IsI k w A n l) (ht : TyA w A n t) (hg : w.grownBy w' r) (ho : Oth w r t) : IsI k w' A n l := by
  by_cases hn : 0 < n
  · refine Rds.grown h hg ?_
    intro ad e e2
    obtain ⟨ad', xs, e3, k'⟩ := ht hn
    rw [e] at e3
    cases e3
    obtain ⟨t', ys, k'', hne⟩ := ho _ e2.symm
    unfold Bk at k' k''
    rw [k'] at k''
    simp at k''
    exact hne k''.2
  · exact ⟨h.1, fun h => absurd h hn⟩
theorem Cf.oth {A : Option Addr} {n : Nat} {l : List Int} {t : TypeId} (h : Cf w A n l) (ht : TyA w A n t) (hg : w.grownBy w' r) (ho : Oth w r t) : Cf w' A n l := ⟨h.1.oth ht hg ho, h.2⟩
theorem Fr.oth {cs : Array Value} {code pc : Int} {ws ls : List Int} (h : Fr w cs code pc ws ls) (hg : w.grownBy w' r) (h1 : Oth w r 46) (h2 : Oth w r 3) : Fr w' cs code pc ws ls := by
  obtain ⟨A, n, c, B, m, d, e, a1, a2, a3, a4, a5, a6⟩ := h
  exact ⟨A, n, c, B, m, d, e, a1.oth a5 hg h1, a2.oth a6 hg h2, a3, a4, a5.oth hg h1, a6.oth hg h2⟩
end

/-- Two lists, element by element. -/
def All2 {α β : Type} (R : α → β → Prop) (l : List α) (l' : List β) : Prop := l.length = l'.length ∧ ∀ (i : Nat) a b, l[i]? = some a → l'[i]? = some b → R a b
theorem All2.weaken {α β : Type} {R S : α → β → Prop} {l : List α} {l' : List β} (h : All2 R l l') (hi : ∀ a b, R a b → S a b) : All2 S l l' := ⟨h.1, fun i a b h1 h2 => hi _ _ (h.2 i a b h1 h2)⟩
theorem All2.nil {α β : Type} {R : α → β → Prop} : All2 R [] [] := ⟨rfl, fun i a b h => by simp at h⟩
theorem All2.snoc {α β : Type} {R : α → β → Prop} {l : List α} {l' : List β} (h : All2 R l l') {a : α} {b : β} (hab : R a b) : All2 R (l ++ [a]) (l' ++ [b]) := by
  refine ⟨by simp [h.1], fun i x y h1 h2 => ?_⟩
  by_cases hi : i < l.length
  · rw [List.getElem?_append_left hi] at h1
    rw [List.getElem?_append_left (by rw [← h.1]; exact hi)] at h2
    exact h.2 i x y h1 h2
  · rw [List.getElem?_append_right (by omega)] at h1
    rw [List.getElem?_append_right (by rw [← h.1]; omega)] at h2
    rw [← h.1] at h2
    cases e : i - l.length with
    | zero =>
      rw [e] at h1 h2
      simp at h1 h2
      subst h1 h2
      exact hab
    | succ k =>
      rw [e] at h1
      simp at h1
theorem All2.set_ {α β : Type} {R : α → β → Prop} {l : List α} {l' : List β} (h : All2 R l l') (i : Nat) {a : α} {b : β} (hab : R a b) : All2 R (l.set i a) (l'.set i b) := by
  refine ⟨by simp [h.1], fun j x y h1 h2 => ?_⟩
  by_cases hij : i = j
  · subst hij
    by_cases hi : i < l.length
    · have hi' : i < l'.length := by rw [← h.1]; exact hi
      rw [List.getElem?_set_self hi] at h1
      rw [List.getElem?_set_self hi'] at h2
      cases h1
      cases h2
      exact hab
    · rw [List.getElem?_eq_none (by simp; omega)] at h1
      cases h1
  · rw [List.getElem?_set_ne hij] at h1 h2
    exact h.2 j x y h1 h2
/-- A frame, in the plain. -/
structure Fa where
  code : Int
  pc : Int
  ws : List Int
  ls : List Int
/-- An item of a trace. -/
structure It where
  th : Int
  acc : Acc
  v : Int
  y : Bool
def It.cells (x : It) : List Value := [.int .i64 x.th, .int .i64 x.acc.k, .int .i64 x.acc.a, .int .u64 x.acc.o, .int .u64 x.acc.n, .int .i64 0, .int .u64 x.v, .bool x.y]
/-- A world of machines, in the plain: capacities, threads, words, machines, trace, past, frames. -/
structure St where
  l : List Int
  th : Int
  ws : List Int
  ms : List Mc
  tr : List It
  pa : List (List Int)
  qs : List Fa
/-- Where its parts lie. -/
structure Hd where
  A : Option Addr
  n : Nat
  c : Nat
  B : Option Addr
  m : Nat
  d : Nat
  MA : Option Addr
  mn : Nat
  mc : Nat
  LA : Option Addr
  ln : Nat
  lc : Nat
  tk : Int
  vL : Value
  vT : Value
  vP : Value
  vF : Value
  fs : List (Array Value)
  ps : List (Array Value)
def FrA (w : World) (cs : Array Value) (q : Fa) : Prop := Fr w cs q.code q.pc q.ws q.ls
/-- A memory of the past. -/
def Pm (w : World) (cs : Array Value) (ws : List Int) : Prop := ∃ A n c B m d tk, cs = #[.slice A n c, .slice B m d, .int .i64 tk] ∧ IsI .u64 w A n ws ∧ TyA w A n 46 ∧ n ≤ 1000000
def Hd.mcs (h : Hd) (st : St) (x : Mc) : List Value := (Mc.cells h.A h.n h.c h.B h.m h.d st.th x).toList
def TWok (T : TypeId) : Prop := T ≠ 3 ∧ T ≠ 46 ∧ T ≠ 52 ∧ T ≠ 112 ∧ T ≠ 33 ∧ T ≠ 55
def Hd.cells (h : Hd) (st : St) : Array Value := #[.slice h.A h.n h.c, .slice h.B h.m h.d, .int .i64 st.th, .slice h.MA h.mn h.mc, .slice h.LA h.ln h.lc, .int .i64 h.tk, h.vL, h.vT, h.vP, h.vF]
structure WdH (w : World) (base G : Nat) (TW : TypeId) (h : Hd) (st : St) : Prop where
  tw : TWok TW
  bk : Bk w G TW (h.cells st)
  hG : base ≤ G
  cf : Cf w h.A h.n st.l
  cty : TyA w h.A h.n 3
  mi : IsI .u64 w h.MA h.mn st.ws
  mty : TyA w h.MA h.mn 46
  mn : h.mn ≤ 1000000
  rL : w.ownsRow base 52 14 h.vL st.ms.length (st.ms.flatMap (h.mcs st))
  rT : w.ownsRow base 112 8 h.vT st.tr.length (st.tr.flatMap It.cells)
  rP : w.ownsRow base 33 3 h.vP h.ps.length (h.ps.flatMap Array.toList)
  rF : w.ownsRow base 55 5 h.vF h.fs.length (h.fs.flatMap Array.toList)
  fr : All2 (FrA w) h.fs st.qs
  pa : All2 (Pm w) h.ps st.pa
def Wd (w : World) (base G : Nat) (TW : TypeId) (st : St) : Prop := ∃ h, WdH w base G TW h st
theorem Pm.below {w w' : World} {cs : Array Value} {ws : List Int} (h : Pm w cs ws) (hb : Below w.heap.size w w') : Pm w' cs ws := by
  obtain ⟨A, n, c, B, m, d, tk, e, h1, h2, h3⟩ := h
  exact ⟨A, n, c, B, m, d, tk, e, h1.below hb, h2.below hb, h3⟩
theorem Pm.oth {w w' : World} {r : Option Nat} {cs : Array Value} {ws : List Int} (h : Pm w cs ws) (hg : w.grownBy w' r) (h1 : Oth w r 46) : Pm w' cs ws := by
  obtain ⟨A, n, c, B, m, d, tk, e, a1, a2, a3⟩ := h
  exact ⟨A, n, c, B, m, d, tk, e, a1.oth a2 hg h1, a2.oth hg h1, a3⟩
section
variable {w w' : World} {base G : Nat} {TW : TypeId} {h : Hd} {st : St}
theorem WdH.below (H : WdH w base G TW h st) (hb : Below w.heap.size w w') : WdH w' base G TW h st :=
  ⟨H.tw, H.bk.below hb H.bk.lt, H.hG, H.cf.below hb, H.cty.below hb, H.mi.below hb, H.mty.below hb, H.mn, own_bel H.rL hb, own_bel H.rT hb, own_bel H.rP hb, own_bel H.rF hb,
    H.fr.weaken fun a b k => Fr.below k hb, H.pa.weaken fun a b k => Pm.below k hb⟩
theorem WdH.alloc (H : WdH w base G TW h st) (o : Obj) : WdH (w.alloc o) base G TW h st := H.below (below_new w o)
theorem Wd.below (H : Wd w base G TW st) (hb : Below w.heap.size w w') : Wd w' base G TW st := by
  obtain ⟨h, H⟩ := H
  exact ⟨h, H.below hb⟩
theorem WdH.base_le (H : WdH w base G TW h st) : base ≤ w.heap.size := Nat.le_trans H.hG (Nat.le_of_lt H.bk.lt)
end
end Go.Proofs.Ytadaoobdnnleaaa
