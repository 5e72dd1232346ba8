/- The type of the block that a row lies in. No program in sight. -/
import Derived.Test.YtadaoobdnnleaaaU
namespace Go.Proofs.Ytadaoobdnnleaaa
open Go.RowKit

/-- The block that a row's address shows has this element type. -/
def TyA (w : World) (A : Option Addr) (n : Nat) (t : TypeId) : Prop := 0 < n → ∃ ad xs, A = some ad ∧ Bk w ad.block t xs
theorem TyA.nil (w : World) (A : Option Addr) (t : TypeId) : TyA w A 0 t := fun h => absurd h (by omega)
theorem TyA.bk {w : World} {g : Nat} {t : TypeId} {xs : Array Value} (h : Bk w g t xs) (o n : Nat) : TyA w (some ⟨g, o, none⟩) n t := fun _ => ⟨_, _, rfl, h⟩
theorem TyA.below {w w' : World} {A : Option Addr} {n : Nat} {t : TypeId} (h : TyA w A n t) (hb : Below w.heap.size w w') : TyA w' A n t := fun hn => by
  obtain ⟨ad, xs, e, k⟩ := h hn
  exact ⟨ad, xs, e, k.below hb k.lt⟩
theorem TyA.alloc {w : World} {A : Option Addr} {n : Nat} {t : TypeId} (h : TyA w A n t) (o : Obj) : TyA (w.alloc o) A n t := h.below ((Below.refl _ _).alloc (Nat.le_refl _) o)
theorem TyA.ne {w : World} {A : Option Addr} {n g : Nat} {t t' : TypeId} {xs : Array Value} (h : TyA w A n t) (k : Bk w g t' xs) (ht : t ≠ t') (hn : 0 < n) : ∀ ad, A = some ad → ad.block ≠ g := by
  intro ad e hg
  obtain ⟨ad', ys, e', k'⟩ := h hn
  rw [e] at e'
  cases e'
  subst hg
  unfold Bk at k k'
  rw [k] at k'
  simp at k'
  exact ht k'.2.symm
theorem Bk.setAny {w : World} {g : Nat} {t : TypeId} {xs : Array Value} (h : Bk w g t xs) (p : Addr) (u : Value) : ∃ ys, Bk (w.setCell p u) g t ys := by
  by_cases e : g = p.block
  · unfold Bk at h ⊢
    unfold World.setCell
    simp only [Array.getElem?_modify, h, ← e, if_true]
    exact ⟨_, rfl⟩
  · exact ⟨xs, h.far e u⟩
theorem TyA.setCell {w : World} {A : Option Addr} {n : Nat} {t : TypeId} (h : TyA w A n t) (p : Addr) (u : Value) : TyA (w.setCell p u) A n t := fun hn => by
  obtain ⟨ad, xs, e, k⟩ := h hn
  obtain ⟨ys, k'⟩ := k.setAny p u
  exact ⟨ad, ys, e, k'⟩
theorem TyA.of_own {w : World} {base : Nat} {e : TypeId} {sz n m c : Nat} {A : Option Addr} {xs : List Value} (h : w.ownsRow base e sz (.slice A n c) m xs) : TyA w A n e := fun hn => by
  rcases h.2 with ⟨h1, h2⟩ | ⟨g, cap, cur, h1, h2, h3, h4⟩
  · injection h1 with _ h _
    omega
  · injection h1 with h _ _
    subst h
    exact ⟨_, _, rfl, h3⟩
theorem TyA.grown {w w' : World} {A : Option Addr} {n : Nat} {t : TypeId} {r : Option Nat} (h : TyA w A n t) (hg : w.grownBy w' r) (hr : ∀ g, r = some g → ∃ t' xs, Bk w g t' xs ∧ t ≠ t') : TyA w' A n t := fun hn => by
  obtain ⟨ad, xs, e, k⟩ := h hn
  refine ⟨ad, xs, e, k.grown hg ?_⟩
  intro e2
  obtain ⟨t', ys, k', ht⟩ := hr _ e2.symm
  exact h.ne k' ht hn ad e rfl
end Go.Proofs.Ytadaoobdnnleaaa
