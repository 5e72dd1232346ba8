/- Words on results that lie in memory: a whole struct stored, and read at the return. No program in sight. -/
import Derived.Test.YtadaoobdnnleaaaU
import Derived.Deep.MidRow
namespace Go.Proofs.Ytadaoobdnnleaaa
open Go.RowKit

theorem Bk.there {w : World} {g n : Nat} {t : TypeId} {cs : Array Value} (h : Bk w g t cs) (hn : cs.size = n) : w.there g 0 n := by
  intro j hj
  rw [Nat.zero_add]
  refine ⟨?_, h.frozen j⟩
  rw [h.cell j, Array.getElem?_eq_getElem (by omega)]
  rfl
theorem below_setCells {B g : Nat} {a : World} (vs : List Value) : ∀ (o : Nat) {w : World}, Below B a w → B ≤ g → Below B a (w.setCells g o vs) := by
  induction vs with
  | nil => intro o w h _; exact h
  | cons v r ih =>
    intro o w h hg
    exact ih (o + 1) (h.setCell (p := ⟨g, o, none⟩) hg v) hg
/-- The block made second (third), behind a call that made memory. -/
theorem at_second {w w2 : World} {o1 : Obj} {cs : Array Value} {t : TypeId} (hb : Below ((w.alloc o1).alloc (.cells cs t)).heap.size ((w.alloc o1).alloc (.cells cs t)) w2) :
    Bk w2 (w.heap.size + 1) t cs ∧ Below w.heap.size w w2 := by
  have h1 : Bk ((w.alloc o1).alloc (.cells cs t)) (w.heap.size + 1) t cs := by simpa using Bk.new (w.alloc o1) t cs
  exact ⟨h1.below hb h1.lt, (((Below.refl _ _).alloc (Nat.le_refl _) o1).alloc (by simp) _).trans (hb.mono (by simp; omega))⟩
theorem at_third {w w2 : World} {o1 o2 : Obj} {cs : Array Value} {t : TypeId} (hb : Below (((w.alloc o1).alloc o2).alloc (.cells cs t)).heap.size (((w.alloc o1).alloc o2).alloc (.cells cs t)) w2) :
    Bk w2 (w.heap.size + 1 + 1) t cs ∧ Below w.heap.size w w2 := by
  have h1 : Bk (((w.alloc o1).alloc o2).alloc (.cells cs t)) (w.heap.size + 1 + 1) t cs := by simpa using Bk.new ((w.alloc o1).alloc o2) t cs
  exact ⟨h1.below hb h1.lt, ((((Below.refl _ _).alloc (Nat.le_refl _) o1).alloc (by simp) o2).alloc (by simp; omega) _).trans (hb.mono (by simp; omega))⟩
/-- The return of a struct that was just stored. -/
theorem ret_struct {P : Program} {fn : Func} {R : Ending → World → Prop} {a : Act} {w : World} {g : Nat} {cells : Array Value} {t : Tmp} {ty : TypeId} {d : TypeDesc} (hf : fn.results = #[.cell t ty]) (ht : a.tmps.getD t undef = .pointer (some ⟨g, 0, none⟩))
    (hth : w.there g 0 cells.size) (hu : P.underlying ty = some d) (hd : d.isRow = true) (hi : (P.info? ty).map (·.size) = some cells.size) (hda : a.defers = []) (hR : R (.returned (.agg cells)) (w.setCells g 0 cells.toList)) :
    bodyPost P fn R .ret a (w.setCells g 0 cells.toList) := by
  refine bodyPost_ret (v := .agg cells) ?_ hda hR
  have h1 : (w.setCells g 0 cells.toList).rangeAt g 0 cells.toList := World.rangeAt_setCells_same w g 0 cells.toList (by simpa using hth)
  have h2 := run_loadVar_mid (P := P) (w.setCells g 0 cells.toList) g 0 ty cells.toList d h1 hu hd (by simpa using hi)
  have ht2 : a.tmps[t]?.getD undef = .pointer (some ⟨g, 0, none⟩) := by simpa using ht
  simp [results, hf, ht2, asAddr, h2]
/-- A struct stored whole; the world behind it stays behind a name. -/
theorem wpList_store_res {P : Program} {ops : Array Oper} {rest : List Oper} {op : Oper} {a : Act} {w : World} {Q : Exit → Act → World → Prop} (hgd : op.guard = none) (ty : TypeId) (x y : Operand) (ho : op.op = .store ty x y)
    (g : Nat) (cells : Array Value) (hx : a.eval x = .pointer (some ⟨g, 0, none⟩)) (hy : a.eval y = .agg cells)
    (ht : w.there g 0 cells.size) (hi : (P.info? ty).map (·.size) = some cells.size) (h1 : cells.all (·.oneCell') = true)
    (h : ∀ w', Hid (w' = w.setCells g 0 cells.toList) → wpList P ops Q rest (a.put op.dst undef) w') : wpList P ops Q (op :: rest) a w :=
  wpList_store_mid hgd ty x y ho g 0 cells hx hy ht hi h1 (h _ rfl)
theorem ret_stored {P : Program} {fn : Func} {R : Ending → World → Prop} {a : Act} {w w' : World} {g : Nat} {cells : Array Value} {t : Tmp} {ty : TypeId} {d : TypeDesc} (hw : Hid (w' = w.setCells g 0 cells.toList)) (hf : fn.results = #[.cell t ty]) (ht : a.tmps.getD t undef = .pointer (some ⟨g, 0, none⟩))
    (hth : w.there g 0 cells.size) (hu : P.underlying ty = some d) (hd : d.isRow = true) (hi : (P.info? ty).map (·.size) = some cells.size) (hda : a.defers = []) (hR : R (.returned (.agg cells)) w') :
    bodyPost P fn R .ret a w' := by
  have hw := hw.out
  subst hw
  exact ret_struct hf ht hth hu hd hi hda hR
theorem below_stored {B g : Nat} {a w w' : World} {vs : List Value} (hw : Hid (w' = w.setCells g 0 vs)) (h : Below B a w) (hg : B ≤ g) : Below B a w' := by
  have hw := hw.out
  subst hw
  exact below_setCells vs 0 h hg
end Go.Proofs.Ytadaoobdnnleaaa
