/- Loads from the world's rows. -/
import Derived.Test.YtadaoobdnnleaaaB
import Derived.Test.YtadaoobdnnleaaaO
import Derived.Test.YtadaoobdnnleaaaE5
import Derived.Test.YtadaoobdnnleaaaI
import Derived.Test.YtadaoobdnnleaaaJ
import Derived.Deep.MidRow
namespace Go.Proofs.Ytadaoobdnnleaaa
open Go.RowKit
set_option linter.unusedVariables false

theorem flat_range {α : Type} {f : α → List Value} {sz : Nat} (hf : ∀ x, (f x).length = sz) (l : List α) : ∀ (i : Nat) (x : α), l[i]? = some x → ∀ j, j < sz → (l.flatMap f)[i * sz + j]? = (f x)[j]? := by
  induction l with
  | nil => intro i x h; simp at h
  | cons a r ih =>
    intro i x h j hj
    rw [List.flatMap_cons]
    cases i with
    | zero =>
      simp at h
      subst h
      rw [Nat.zero_mul, Nat.zero_add, List.getElem?_append_left (by rw [hf]; exact hj)]
    | succ k =>
      simp at h
      rw [List.getElem?_append_right (by rw [hf]; rw [Nat.succ_mul]; omega), hf, show (k + 1) * sz + j - sz = k * sz + j by rw [Nat.succ_mul]; omega]
      exact ih k x h j hj
/-- A row's element, as a range of cells. -/
theorem own_range {α : Type} {f : α → List Value} {sz : Nat} (hf : ∀ x, (f x).length = sz) {w : World} {base g : Nat} {e : TypeId} {cap : Nat} {l : List α} (h : w.ownsRow base e sz (.slice (some ⟨g, 0, none⟩) l.length cap) l.length (l.flatMap f)) {i : Nat} {x : α} (hx : l[i]? = some x) : w.rangeAt g (i * sz) (f x) := by
  intro j v hv
  have hj : j < sz := by
    have := (List.getElem?_eq_some_iff.1 hv).1
    rwa [hf] at this
  have hlt : i * sz + j < l.length * sz := by
    have hi : i < l.length := (List.getElem?_eq_some_iff.1 hx).1
    have : (i + 1) * sz ≤ l.length * sz := Nat.mul_le_mul_right sz hi
    rw [Nat.succ_mul] at this
    omega
  rw [h.cellAt (i * sz + j) hlt, flat_range hf l i x hx j hj]
  exact hv
theorem mcs_len (h : Hd) (st : St) (x : Mc) : (h.mcs st x).length = 14 := rfl
theorem bk10 {w : World} {g : Nat} {t : TypeId} {a0 a1 a2 a3 a4 a5 a6 a7 a8 a9 : Value} (h : Bk w g t #[a0, a1, a2, a3, a4, a5, a6, a7, a8, a9]) :
    w.cell? ⟨g, 0, none⟩ = some a0 ∧ w.cell? ⟨g, 1, none⟩ = some a1 ∧ w.cell? ⟨g, 2, none⟩ = some a2 ∧ w.cell? ⟨g, 3, none⟩ = some a3 ∧ w.cell? ⟨g, 4, none⟩ = some a4 ∧ w.cell? ⟨g, 5, none⟩ = some a5 ∧ w.cell? ⟨g, 6, none⟩ = some a6 ∧ w.cell? ⟨g, 7, none⟩ = some a7 ∧ w.cell? ⟨g, 8, none⟩ = some a8 ∧ w.cell? ⟨g, 9, none⟩ = some a9 ∧ ∀ i, w.frozen? ⟨g, i, none⟩ = false :=
  ⟨h.cell 0, h.cell 1, h.cell 2, h.cell 3, h.cell 4, h.cell 5, h.cell 6, h.cell 7, h.cell 8, h.cell 9, h.frozen⟩
theorem rg14 {w : World} {g o : Nat} {a0 a1 a2 a3 a4 a5 a6 a7 a8 a9 a10 a11 a12 a13 : Value} (h : w.rangeAt g o [a0, a1, a2, a3, a4, a5, a6, a7, a8, a9, a10, a11, a12, a13]) :
    w.cell? ⟨g, o, none⟩ = some a0 ∧ w.cell? ⟨g, o + 1, none⟩ = some a1 ∧ w.cell? ⟨g, o + 2, none⟩ = some a2 ∧ w.cell? ⟨g, o + 3, none⟩ = some a3 ∧ w.cell? ⟨g, o + 4, none⟩ = some a4 ∧ w.cell? ⟨g, o + 5, none⟩ = some a5 ∧ w.cell? ⟨g, o + 6, none⟩ = some a6 ∧ w.cell? ⟨g, o + 7, none⟩ = some a7 ∧ w.cell? ⟨g, o + 8, none⟩ = some a8 ∧ w.cell? ⟨g, o + 9, none⟩ = some a9 ∧ w.cell? ⟨g, o + 10, none⟩ = some a10 ∧ w.cell? ⟨g, o + 11, none⟩ = some a11 ∧ w.cell? ⟨g, o + 12, none⟩ = some a12 ∧ w.cell? ⟨g, o + 13, none⟩ = some a13 :=
  ⟨h 0 _ rfl, h 1 _ rfl, h 2 _ rfl, h 3 _ rfl, h 4 _ rfl, h 5 _ rfl, h 6 _ rfl, h 7 _ rfl, h 8 _ rfl, h 9 _ rfl, h 10 _ rfl, h 11 _ rfl, h 12 _ rfl, h 13 _ rfl⟩
theorem rg5 {w : World} {g o : Nat} {a0 a1 a2 a3 a4 : Value} (h : w.rangeAt g o [a0, a1, a2, a3, a4]) :
    w.cell? ⟨g, o, none⟩ = some a0 ∧ w.cell? ⟨g, o + 1, none⟩ = some a1 ∧ w.cell? ⟨g, o + 2, none⟩ = some a2 ∧ w.cell? ⟨g, o + 3, none⟩ = some a3 ∧ w.cell? ⟨g, o + 4, none⟩ = some a4 :=
  ⟨h 0 _ rfl, h 1 _ rfl, h 2 _ rfl, h 3 _ rfl, h 4 _ rfl⟩
/-- The machines' row where there is a machine. -/
theorem WdH.rowL {w : World} {base G : Nat} {TW : TypeId} {h : Hd} {st : St} (H : WdH w base G TW h st) {i : Nat} (hi : i < st.ms.length) : ∃ g c, h.vL = .slice (some ⟨g, 0, none⟩) st.ms.length c ∧ base ≤ g := by
  rcases H.rL.2 with ⟨_, h0⟩ | ⟨g, cap, cur, h1, h2, _⟩
  · omega
  · exact ⟨g, cap, h1, h2⟩
theorem WdH.rowF {w : World} {base G : Nat} {TW : TypeId} {h : Hd} {st : St} (H : WdH w base G TW h st) {i : Nat} (hi : i < h.fs.length) : ∃ g c, h.vF = .slice (some ⟨g, 0, none⟩) h.fs.length c ∧ base ≤ g := by
  rcases H.rF.2 with ⟨_, h0⟩ | ⟨g, cap, cur, h1, h2, _⟩
  · omega
  · exact ⟨g, cap, h1, h2⟩
theorem fr_size {w : World} {cs : Array Value} {q : Fa} (h : FrA w cs q) : cs.toList.length = 5 := by
  obtain ⟨A, n, c, B, m, d, rfl, -⟩ := h
  rfl
/-- A row of arrays that are all of one size. -/
theorem flat_rangeA {sz : Nat} (l : List (Array Value)) (hf : ∀ x ∈ l, x.toList.length = sz) : ∀ (i : Nat) (x : Array Value), l[i]? = some x → ∀ j, j < sz → (l.flatMap Array.toList)[i * sz + j]? = x.toList[j]? := by
  induction l with
  | nil => intro i x h; simp at h
  | cons a r ih =>
    intro i x h j hj
    have ha := hf a List.mem_cons_self
    rw [List.flatMap_cons]
    cases i with
    | zero =>
      simp at h
      subst h
      rw [Nat.zero_mul, Nat.zero_add, List.getElem?_append_left (by rw [ha]; exact hj)]
    | succ k =>
      simp at h
      rw [List.getElem?_append_right (by rw [ha, Nat.succ_mul]; omega), ha, show (k + 1) * sz + j - sz = k * sz + j by rw [Nat.succ_mul]; omega]
      exact ih (fun x hx => hf x (List.mem_cons_of_mem _ hx)) k x h j hj
theorem own_rangeA {sz : Nat} {w : World} {base g : Nat} {e : TypeId} {cap : Nat} {l : List (Array Value)} (hf : ∀ x ∈ l, x.toList.length = sz) (h : w.ownsRow base e sz (.slice (some ⟨g, 0, none⟩) l.length cap) l.length (l.flatMap Array.toList)) {i : Nat} {x : Array Value} (hx : l[i]? = some x) : w.rangeAt g (i * sz) x.toList := by
  intro j v hv
  have hi : i < l.length := (List.getElem?_eq_some_iff.1 hx).1
  have hj : j < sz := by
    have := (List.getElem?_eq_some_iff.1 hv).1
    rwa [hf x (by obtain ⟨h1, h2⟩ := List.getElem?_eq_some_iff.1 hx; exact h2 ▸ List.getElem_mem h1)] at this
  have hlt : i * sz + j < l.length * sz := by
    have : (i + 1) * sz ≤ l.length * sz := Nat.mul_le_mul_right sz hi
    rw [Nat.succ_mul] at this
    omega
  rw [h.cellAt (i * sz + j) hlt, flat_rangeA l hf i x hx j hj]
  exact hv
theorem WdH.fsz {w : World} {base G : Nat} {TW : TypeId} {h : Hd} {st : St} (H : WdH w base G TW h st) : ∀ x ∈ h.fs, x.toList.length = 5 := by
  intro x hx
  obtain ⟨i, hi, rfl⟩ := List.mem_iff_getElem.1 hx
  have hi' : i < st.qs.length := by rw [← H.fr.1]; exact hi
  exact fr_size (H.fr.2 i _ _ (List.getElem?_eq_getElem hi) (List.getElem?_eq_getElem hi'))
theorem rangeAt_below {w w' : World} {b o : Nat} {cs : List Value} (h : w.rangeAt b o cs) (hb : Below w.heap.size w w') : w'.rangeAt b o cs := fun j v hv => by
  have := h j v hv
  rw [hb.cell (World.block_lt_of_cell? w _ this)]
  exact this
/-- The frame of a machine. -/
theorem WdH.frame {w : World} {base G : Nat} {TW : TypeId} {h : Hd} {st : St} (H : WdH w base G TW h st) {i : Nat} {q : Fa} (hq : st.qs[i]? = some q) :
    ∃ A n c B m d g cp, FrA w #[.int .i64 q.code, .int .i64 q.pc, .slice A n c, .slice B m d, .slice none 0 0] q ∧ h.fs[i]? = some #[.int .i64 q.code, .int .i64 q.pc, .slice A n c, .slice B m d, .slice none 0 0] ∧
      h.vF = .slice (some ⟨g, 0, none⟩) h.fs.length cp ∧ i < h.fs.length ∧ w.rangeAt g (i * 5) [.int .i64 q.code, .int .i64 q.pc, .slice A n c, .slice B m d, .slice none 0 0] := by
  have hi : i < h.fs.length := by rw [H.fr.1]; exact (List.getElem?_eq_some_iff.1 hq).1
  have hc := List.getElem?_eq_getElem hi
  have hf := H.fr.2 i _ _ hc hq
  obtain ⟨A, n, c, B, m, d, e, -⟩ := id hf
  obtain ⟨g, cp, ev, hg⟩ := H.rowF hi
  have hr := H.rF
  rw [ev] at hr
  have hrg := own_rangeA H.fsz hr hc
  rw [e] at hf hc hrg
  exact ⟨A, n, c, B, m, d, g, cp, hf, hc, ev, hi, hrg⟩
end Go.Proofs.Ytadaoobdnnleaaa
