/- Variables of the call's own that hold structs: stored when they are made, kept behind calls. No program in sight. -/
import Derived.Test.YtadaoobdnnleaaaR
namespace Go.Proofs.Ytadaoobdnnleaaa
open Go.RowKit

def setAll (z : Array Value) : Nat → List Value → Array Value
  | _, [] => z
  | o, v :: r => setAll (z.setIfInBounds o v) (o + 1) r
theorem setAll_get (vs : List Value) : ∀ (z : Array Value) (o i : Nat), o + vs.length ≤ z.size → (setAll z o vs)[i]? = if o ≤ i ∧ i < o + vs.length then vs[i - o]? else z[i]? := by
  induction vs with
  | nil => intro z o i h; rw [if_neg (by simp)]; rfl
  | cons v r ih =>
    intro z o i h
    simp only [List.length_cons] at h ⊢
    rw [setAll, ih (z.setIfInBounds o v) (o + 1) i (by simp; omega)]
    by_cases h1 : o + 1 ≤ i ∧ i < o + 1 + r.length
    · rw [if_pos h1, if_pos (by omega), show i - o = (i - (o + 1)) + 1 by omega]
      rfl
    · rw [if_neg h1]
      by_cases h2 : i = o
      · subst h2
        rw [if_pos (by omega)]
        simp [show i < z.size by omega]
      · rw [if_neg (by omega), Array.getElem?_setIfInBounds_ne (by omega)]
theorem setAll_all (z cells : Array Value) (h : z.size = cells.size) : setAll z 0 cells.toList = cells := by
  apply Array.ext_getElem?
  intro i
  rw [setAll_get _ _ _ _ (by simp; omega)]
  by_cases hi : i < cells.size
  · rw [if_pos (by simp; omega)]; simp
  · rw [if_neg (by simp; omega), Array.getElem?_eq_none (by omega), Array.getElem?_eq_none (by omega)]
theorem setCell_new (w : World) (z : Array Value) (T : TypeId) (o : Nat) (v : Value) : (w.alloc (.cells z T)).setCell ⟨w.heap.size, o, none⟩ v = w.alloc (.cells (z.setIfInBounds o v) T) := by
  unfold World.setCell World.alloc
  congr 1
  apply Array.ext
  · simp
  · intro i h1 h2
    simp only [Array.getElem_modify, Array.getElem_push]
    by_cases e : w.heap.size = i
    · subst e; simp
    · rw [if_neg e]
      have h3 : i < w.heap.size := by simp at h2; omega
      rw [dif_pos h3, dif_pos h3]
theorem setCells_new (w : World) (T : TypeId) (vs : List Value) : ∀ (o : Nat) (z : Array Value), (w.alloc (.cells z T)).setCells w.heap.size o vs = w.alloc (.cells (setAll z o vs) T) := by
  induction vs with
  | nil => intro o z; rfl
  | cons v r ih =>
    intro o z
    rw [World.setCells, setAll, ← ih (o + 1), setCell_new]
/-- A struct stored whole into the variable that was just made. -/
theorem wpList_store_new {P : Program} {ops : Array Oper} {rest : List Oper} {op : Oper} {a : Act} {w : World} {Q : Exit → Act → World → Prop} (hgd : op.guard = none) (ty : TypeId) (x y : Operand) (ho : op.op = .store ty x y)
    (z cells : Array Value) (T : TypeId) (hx : a.eval x = .pointer (some ⟨w.heap.size, 0, none⟩)) (hy : a.eval y = .agg cells)
    (hz : z.size = cells.size) (hi : (P.info? ty).map (·.size) = some cells.size) (h1 : cells.all (·.oneCell') = true)
    (h : wpList P ops Q rest (a.put op.dst undef) (w.alloc (.cells cells T))) : wpList P ops Q (op :: rest) a (w.alloc (.cells z T)) := by
  refine wpList_store_mid hgd ty x y ho w.heap.size 0 cells hx hy ?_ hi h1 ?_
  · have := (Bk.new w T z).there (n := cells.size) hz
    exact this
  · rw [setCells_new, setAll_all z cells hz]
    exact h
/-- The variables of a call: their blocks, their types, what they hold. -/
def Env (w : World) (L : List (Nat × TypeId × Array Value)) : Prop := ∀ x ∈ L, Bk w x.1 x.2.1 x.2.2
theorem Env.nil (w : World) : Env w [] := fun _ h => by simp at h
theorem Env.new {w : World} {L : List (Nat × TypeId × Array Value)} (h : Env w L) (T : TypeId) (cs : Array Value) : Env (w.alloc (.cells cs T)) ((w.heap.size, T, cs) :: L) := by
  intro x hx
  rcases List.mem_cons.1 hx with rfl | hx
  · exact Bk.new _ _ _
  · exact (h x hx).alloc _
theorem Env.alloc {w : World} {L : List (Nat × TypeId × Array Value)} (h : Env w L) (o : Obj) : Env (w.alloc o) L := fun x hx => (h x hx).alloc o
theorem Env.below {w w' : World} {L : List (Nat × TypeId × Array Value)} (h : Env w L) (hb : Below w.heap.size w w') : Env w' L := fun x hx => (h x hx).below hb (h x hx).lt
theorem Env.far {w w' : World} {L : List (Nat × TypeId × Array Value)} {g : Nat} {vs : List Value} (hw : Hid (w' = w.setCells g 0 vs)) (h : Env w L) (hg : ∀ x ∈ L, x.1 ≠ g) : Env w' L := by
  have hw := hw.out
  subst hw
  intro x hx
  have key : ∀ (vs : List Value) (o : Nat) (w : World), Bk w x.1 x.2.1 x.2.2 → Bk (w.setCells g o vs) x.1 x.2.1 x.2.2 := by
    intro vs
    induction vs with
    | nil => intro o w h; exact h
    | cons v r ih =>
      intro o w h
      exact ih (o + 1) _ (h.far (p := ⟨g, o, none⟩) (hg x hx) v)
  exact key vs 0 w (h x hx)
/-- The block stored into. -/
theorem Bk.stored {w w' : World} {g : Nat} {t : TypeId} {z cells : Array Value} (hw : Hid (w' = w.setCells g 0 cells.toList)) (h : Bk w g t z) (hz : z.size = cells.size) : Bk w' g t cells := by
  have hw := hw.out
  subst hw
  have key : ∀ (vs : List Value) (o : Nat) (w : World) (z : Array Value), Bk w g t z → Bk (w.setCells g o vs) g t (setAll z o vs) := by
    intro vs
    induction vs with
    | nil => intro o w z h; exact h
    | cons v r ih =>
      intro o w z h
      exact ih (o + 1) _ _ (h.set_ o v)
  have := key cells.toList 0 w z h
  rwa [setAll_all z cells hz] at this
theorem Bk.apart {w w' : World} {g g' : Nat} {t : TypeId} {z : Array Value} {vs : List Value} (hw : Hid (w' = w.setCells g' 0 vs)) (h : Bk w g t z) (hne : g ≠ g') : Bk w' g t z :=
  Env.far (L := [(g, t, z)]) hw (fun x hx => by rw [List.mem_singleton.1 hx]; exact h) (fun x hx => by rw [List.mem_singleton.1 hx]; exact hne) _ (List.mem_singleton.2 rfl)
theorem bk2 {w : World} {g : Nat} {t : TypeId} {a0 a1 : Value} (h : Bk w g t #[a0, a1]) : w.cell? ⟨g, 0, none⟩ = some a0 ∧ w.cell? ⟨g, 1, none⟩ = some a1 ∧ ∀ i, w.frozen? ⟨g, i, none⟩ = false :=
  ⟨h.cell 0, h.cell 1, h.frozen⟩
end Go.Proofs.Ytadaoobdnnleaaa
