/- Contracts: the document's machines, their small parts (chanfabricref7). -/
import Derived.Test.YtadaoobdnnleaaaM
import Derived.Test.YtadaoobdnnleaaaF
namespace Go.Proofs.Ytadaoobdnnleaaa
open Go.RowKit
set_option linter.unusedVariables false
attribute [local irreducible] Go.bits

theorem access_any (w : World) (k a o n : Int) :
    Calls Try.prog 98 #[.int .i64 k, .int .i64 a, .int .u64 o, .int .u64 n] w fun e w' => e = .returned (.agg (Acc.cells ⟨k, a, o, n⟩)) ∧ Below w.heap.size w w' := by
  go_enter Try.func98, Try.ntmps98
  go_wp2
  exact bodyPost_ret (v := .agg (Acc.cells ⟨k, a, o, n⟩)) (by simp [results, Try.results98, go_sem, Acc.cells]) rfl ⟨rfl, below_new _ _⟩
theorem mnew_any (w : World) (A : Option Addr) (n c : Nat) (B : Option Addr) (m d : Nat) (t : Int) (what ch th : Nat) :
    Calls Try.prog 22 #[.agg #[.slice A n c, .slice B m d, .int .i64 t], .int .i64 what, .int .i64 ch, .int .i64 th] w fun e w' => e = .returned (.agg (Mc.cells A n c B m d t ⟨what, 1, ch, th, 0, 0, 0, 0, 0, 0, 0⟩)) ∧ Below w.heap.size w w' := by
  go_enter Try.func22, Try.ntmps22
  go_wp2
  exact bodyPost_ret (v := .agg (Mc.cells A n c B m d t ⟨what, 1, ch, th, 0, 0, 0, 0, 0, 0, 0⟩)) (by simp [results, Try.results22, go_sem, Mc.cells]) rfl ⟨rfl, (below_new _ _).alloc (by simp) _⟩
theorem mseq_any (w : World) (A : Option Addr) (n c : Nat) (B : Option Addr) (m d : Nat) (t : Int) (x : Mc) :
    Calls Try.prog 100 #[.agg (Mc.cells A n c B m d t x)] w fun e w' => e = .returned (.int .u64 (x.t / 2)) ∧ Below w.heap.size w w' := by
  unfold Mc.cells
  go_enter Try.func100, Try.ntmps100
  go_wp2_with (go_at_call 120; refine (rseq_any _ _).mono ?_; rintro e w' ⟨rfl, rfl⟩)
  go_ret
  exact ⟨rfl, below_new _ _⟩
theorem mcap_any (w : World) (A : Option Addr) (n c : Nat) (B : Option Addr) (m d : Nat) (t : Int) (x : Mc) (l : List Int) (h : Cf w A n l) (hk : x.ch < n) :
    Calls Try.prog 104 #[.agg (Mc.cells A n c B m d t x)] w fun e w' => e = .returned (.int .u64 (l.getD x.ch 0)) ∧ Below w.heap.size w w' := by
  obtain ⟨ad, rfl, hc, h1, h2⟩ := h.at_ hk
  have hb := block_lt hc
  have hu := hide (show IntKind.u64.wrap (l.getD x.ch 0) = l.getD x.ch 0 by rw [wrap_u64]; omega)
  generalize l.getD x.ch 0 = y at *
  clear h
  unfold Mc.cells
  go_enter Try.func104, Try.ntmps104
  go_wp2
  go_ret
  exact ⟨ret_eq (by first | rfl | simp [hu.out]), below_new _ _⟩
set_option maxRecDepth 100000 in
theorem mend_any (w : World) (A : Option Addr) (n c : Nat) (B : Option Addr) (m d : Nat) (t : Int) (x : Mc) (k v : Int) :
    Calls Try.prog 66 #[.agg (Mc.cells A n c B m d t x), .int .i64 k, .int .u64 v] w fun e w' => e = .returned (.agg (Mc.cells A n c B m d t (mend x k v))) ∧ Below w.heap.size w w' := by
  unfold Mc.cells mend
  go_enter Try.func66, Try.ntmps66
  go_wp2
  exact bodyPost_ret (v := .agg (Mc.cells A n c B m d t (mend x k v))) (by simp [results, Try.results66, go_sem, Mc.cells, mend]) rfl ⟨rfl, (below_new _ _).alloc (by simp) _⟩
set_option maxRecDepth 100000 in
theorem mto_any (w : World) (A : Option Addr) (n c : Nat) (B : Option Addr) (m d : Nat) (t : Int) (x : Mc) (i : Nat) :
    Calls Try.prog 71 #[.agg (Mc.cells A n c B m d t x), .int .i64 i] w fun e w' => e = .returned (.agg (Mc.cells A n c B m d t (mto x i))) ∧ Below w.heap.size w w' := by
  unfold Mc.cells mto
  go_enter Try.func71, Try.ntmps71
  go_wp2
  exact bodyPost_ret (v := .agg (Mc.cells A n c B m d t (mto x i))) (by simp [results, Try.results71, go_sem, Mc.cells, mto]) rfl ⟨rfl, (below_new _ _).alloc (by simp) _⟩
end Go.Proofs.Ytadaoobdnnleaaa
