/- A row of answers that came in: its cells. -/
import Derived.Test.YtepngbdjobckbaaG3
import Derived.Test.YtepngbdjobckbaaRows
import Derived.Deep.Slices
import Derived.ProofKit
import Derived.OpenShut
namespace Go.Proofs.Ytepngbdjobckbaa
open Go.ChangeShapes Go.WideShapes Go.RowKit
set_option linter.unusedVariables false
theorem len4 {α : Type} : ∀ (l : List α), l.length = 4 → ∃ a b c d, l = [a, b, c, d]
  | [a, b, c, d], _ => ⟨a, b, c, d, rfl⟩
set_option maxRecDepth 100000 in
theorem ansRow_of {H : Type} {enc : TypeId × Value → H} {W : World} {spare : Nat → Bool} {held : Bool} {a : Option Addr} {n c : Nat} {d : DataW H} {p : List MemPlace} (h : DataW.Trod enc Try.prog W 0 spare held 30 (.slice a n c) d p) : AnsRow W a n := by
  obtain ⟨fuel, hf⟩ := h
  rcases Go.Deep.open_slice Try.underlying30 hf with ⟨hcs, -⟩ | ⟨ad, len, cap, m, n', D, Pl, hcs, -, hl, hm, hmm, -, hi⟩
  · simp [Value.cells] at hcs
    obtain ⟨rfl, rfl, rfl⟩ := hcs
    exact ⟨by omega, fun i hi => by omega⟩
  · simp [Value.cells] at hcs
    obtain ⟨rfl, rfl, rfl⟩ := hcs
    refine ⟨by have : maxLen = 9223372036854775807 := rfl
               omega, fun i hin => ?_⟩
    obtain ⟨cs', hc, ht⟩ := hi i (by rw [hmm]; split <;> omega)
    have e4 : Try.prog.cellsOf 53 = 4 := by kernel_rfl
    have e1 : Try.prog.cellsOf 27 = 1 := by kernel_rfl
    have e2 : Try.prog.cellsOf 4 = 1 := by kernel_rfl
    have e3 : Try.prog.cellsOf 33 = 1 := by kernel_rfl
    obtain ⟨-, hlen, hat⟩ := World.cells?_some hc
    obtain ⟨xs, k, -, -, -, hxl, hfs⟩ := DataW.trod_struct Try.underlying53 ht
    have hxl4 : xs.length = 4 := hxl
    obtain ⟨c0, c1, c2, c3, rfl⟩ := len4 cs' (by rw [hlen, e4])
    have f0 : DataW.trod enc Try.prog W 0 spare held k 27 (List.take (Try.prog.cellsOf 27) (List.drop 0 [c0, c1, c2, c3])) = xs[0]? := hfs 0 _ rfl
    have f1 : DataW.trod enc Try.prog W 0 spare held k 4 (List.take (Try.prog.cellsOf 4) (List.drop 1 [c0, c1, c2, c3])) = xs[1]? := hfs 1 _ rfl
    have f2 : DataW.trod enc Try.prog W 0 spare held k 4 (List.take (Try.prog.cellsOf 4) (List.drop 2 [c0, c1, c2, c3])) = xs[2]? := hfs 2 _ rfl
    have f3 : DataW.trod enc Try.prog W 0 spare held k 33 (List.take (Try.prog.cellsOf 33) (List.drop 3 [c0, c1, c2, c3])) = xs[3]? := hfs 3 _ rfl
    rw [e1] at f0
    rw [e2] at f1 f2
    rw [e3] at f3
    obtain ⟨v, hv, -, hw⟩ := DataW.trod_int Try.underlying27 (f0.trans (List.getElem?_eq_getElem (by omega)))
    obtain ⟨y, hy, -⟩ := DataW.trod_bool Try.underlying4 (f1.trans (List.getElem?_eq_getElem (by omega)))
    obtain ⟨z, hz, -⟩ := DataW.trod_bool Try.underlying4 (f2.trans (List.getElem?_eq_getElem (by omega)))
    obtain ⟨LA, ln, lc, hL⟩ : ∃ LA ln lc, [c3] = [Value.slice LA ln lc] := by
      rcases DataW.trod_slice Try.underlying33 (f3.trans (List.getElem?_eq_getElem (by omega))) with ⟨e, -⟩ | ⟨a, l, c, _, _, _, _, e, -⟩
      · exact ⟨_, _, _, e⟩
      · exact ⟨_, _, _, e⟩
    have g0 : c0 = .int .u64 v := by simpa using hv
    have g1 : c1 = .bool y := by simpa using hy
    have g2 : c2 = .bool z := by simpa using hz
    have g3 : c3 = .slice LA ln lc := by simpa using hL
    subst g0 g1 g2 g3
    have b := bounds_u64 hw
    have hat' : ∀ j, j < 4 → W.cell? (ad.add (i * 4 + j)) = [Value.int .u64 v, .bool y, .bool z, .slice LA ln lc][j]? := fun j hj => by
      have := hat j (by rw [e4]; exact hj)
      rw [e4, Go.Deep.add_add] at this
      exact this
    exact ⟨ad, v, y, z, LA, ln, lc, rfl, b, hat' 0 (by omega), hat' 1 (by omega), hat' 2 (by omega), hat' 3 (by omega)⟩
end Go.Proofs.Ytepngbdjobckbaa
