/- A configuration that came in: its parts. -/
import Derived.Test.YtcaencocmfkfaaaK
import Derived.Test.YtcaencocmfkfaaaRows
import Derived.Deep.Slices
import Derived.Deep.Strs
import Derived.ProofKit
import Derived.OpenShut
namespace Go.Proofs.Ytcaencocmfkfaaa
open Go.ChangeShapes Go.WideShapes Go.RowKit
set_option linter.unusedVariables false
theorem len3V {α : Type} : ∀ (l : List α), l.length = 3 → ∃ a b c, l = [a, b, c]
  | [a, b, c], _ => ⟨a, b, c, rfl⟩
section
variable {H : Type} {enc : TypeId × Value → H} {W : World}
theorem row_of {t e : TypeId} {k : IntKind} {fuel : Nat} {c0 : Value} {x : DataW H × List MemPlace} (ht : Try.prog.underlying t = some (.slice e)) (he : Try.prog.underlying e = some (.int k)) (hc : Try.prog.cellsOf e = 1)
    (h : DataW.trod enc Try.prog W 0 (fun _ => true) true fuel t [c0] = some x) : ∃ A n c zs, c0 = .slice A n c ∧ Row k W A n c zs := by
  rcases open_ints ht he hc h with ⟨hcs, _⟩ | ⟨y, l, c, zs, hcs, _, hl, hm, hz, _, hcell, hwz⟩
  · simp at hcs
    exact ⟨_, _, _, [], hcs, .inl ⟨rfl, rfl, rfl, rfl⟩⟩
  · simp at hcs
    exact ⟨_, _, _, zs, hcs, .inr ⟨_, rfl, hl, hm, by simpa using hz, hcell, hwz⟩⟩
set_option maxRecDepth 100000 in
theorem cfg_of {r : Reach} {b : Nat} {v : Value} {d : DataW H} {p : List MemPlace} (hok : Value.okWide Try.prog W r b 25 v) (h : DataW.Trod enc Try.prog W 0 (fun _ => true) true 25 v d p) :
    ∃ A n c zs B m d' ss t, v = .agg #[.slice A n c, .slice B m d', .int .i64 t] ∧ Row .i64 W A n c zs ∧ Row .u64 W B m d' ss ∧ (Lit.int .i64 t).wf = true := by
  obtain ⟨cs, rfl, hcs⟩ := okWide_struct Try.underlying25 hok
  obtain ⟨fuel, hf⟩ := h
  have e3 : Try.prog.cellsOf 25 = 3 := by kernel_rfl
  have e1 : Try.prog.cellsOf 22 = 1 := by kernel_rfl
  have e2 : Try.prog.cellsOf 23 = 1 := by kernel_rfl
  have e4 : Try.prog.cellsOf 3 = 1 := by kernel_rfl
  obtain ⟨y0, y1, y2, n, -, hl, f0, f1, f2⟩ := Go.Deep.trod_struct3 Try.underlying25 hf
  rw [e3] at hl hcs
  obtain ⟨c0, c1, c2, hc⟩ := len3V _ hl
  rw [hc] at f0 f1 f2
  have g0 : DataW.trod enc Try.prog W 0 (fun _ => true) true n 22 (List.take (Try.prog.cellsOf 22) (List.drop 0 [c0, c1, c2])) = some y0 := f0
  have g1 : DataW.trod enc Try.prog W 0 (fun _ => true) true n 23 (List.take (Try.prog.cellsOf 23) (List.drop 1 [c0, c1, c2])) = some y1 := f1
  have g2 : DataW.trod enc Try.prog W 0 (fun _ => true) true n 3 (List.take (Try.prog.cellsOf 3) (List.drop 2 [c0, c1, c2])) = some y2 := f2
  rw [e1] at g0
  rw [e2] at g1
  rw [e4] at g2
  obtain ⟨A, n0, cc, zs, h0, r0⟩ := row_of Try.underlying22 Try.underlying3 (by kernel_rfl) g0
  obtain ⟨B, m0, dd, ss, h1, r1⟩ := row_of Try.underlying23 Try.underlying33 (by kernel_rfl) g1
  obtain ⟨t, h2, -, hw⟩ := DataW.trod_int Try.underlying3 g2
  have h2' : c2 = .int .i64 t := by simpa using h2
  subst h0 h1 h2'
  have hcl : cs = #[.slice A n0 cc, .slice B m0 dd, .int .i64 t] := by
    apply Array.ext'
    have : cs.toList = [.slice A n0 cc, .slice B m0 dd, .int .i64 t] := by simpa [Value.cells] using hc
    rw [this]
  exact ⟨A, n0, cc, zs, B, m0, dd, ss, t, by rw [hcl], r0, r1, hw⟩
end
end Go.Proofs.Ytcaencocmfkfaaa
