/- Contracts: the numbers of the words of slots, by their public names. -/
import Derived.Test.YtadaoobdnnleaaaL3
namespace Go.Proofs.Ytadaoobdnnleaaa
open Go.RowKit
set_option linter.unusedVariables false

theorem lslotseq_any (w : World) (A : Option Addr) (n c : Nat) (l : List Int) (B : Option Addr) (m d : Nat) (t : Int) (h : Cf w A n l) (k : Nat) (hk : k < n) (s : Int) (h0 : 0 ≤ s) (h1 : s ≤ 18446744073709551615) :
    Calls Try.prog 130 #[.agg #[.slice A n c, .slice B m d, .int .i64 t], .int .i64 k, .int .u64 s] w fun e w' => e = .returned (.int .i64 (tlN l k + 5 + 2 * sl s (sz (l.getD k 0)) + 0)) ∧ Below w.heap.size w w' := by
  have hn := h.2.1
  have b1 := h.tl k (by omega)
  obtain ⟨x1, x2⟩ := h.in_ hk
  have b2 := sz_bd _ x1 x2
  have b3 := sl_bd s _ b2.1
  have hs := fun o => lslot_any (w.alloc o) A n c l B m d t (h.alloc o) k hk s h0 h1
  generalize sl s (sz (l.getD k 0)) = z at *
  generalize sz (l.getD k 0) = y at *
  generalize tlN l k = p at *
  have HS := hide hs
  clear h hs x1 x2
  go_enter Try.func130, Try.ntmps130
  go_wp2_with (go_at_call 133; refine (HS.out _).mono ?_; rintro e w' ⟨rfl, hb2⟩)
  go_ret
  exact ⟨ret_int (by omega), below_next (below_new _ _) hb2⟩
theorem rslotvalue_any (w : World) (A : Option Addr) (n c : Nat) (l : List Int) (B : Option Addr) (m d : Nat) (t : Int) (h : Cf w A n l) (k : Nat) (hk : k < n) (s : Int) (h0 : 0 ≤ s) (h1 : s ≤ 18446744073709551615) :
    Calls Try.prog 101 #[.agg #[.slice A n c, .slice B m d, .int .i64 t], .int .i64 k, .int .u64 s] w fun e w' => e = .returned (.int .i64 (tlN l k + 5 + 2 * sl s (sz (l.getD k 0)) + 1)) ∧ Below w.heap.size w w' := by
  have hn := h.2.1
  have b1 := h.tl k (by omega)
  obtain ⟨x1, x2⟩ := h.in_ hk
  have b2 := sz_bd _ x1 x2
  have b3 := sl_bd s _ b2.1
  have hs := fun o => rslotseq_any (w.alloc o) A n c l B m d t (h.alloc o) k hk s h0 h1
  generalize sl s (sz (l.getD k 0)) = z at *
  generalize sz (l.getD k 0) = y at *
  generalize tlN l k = p at *
  have HS := hide hs
  clear h hs x1 x2
  go_enter Try.func101, Try.ntmps101
  go_wp2_with (go_at_call 86; refine (HS.out _).mono ?_; rintro e w' ⟨rfl, hb2⟩)
  go_ret
  exact ⟨ret_int (by omega), below_next (below_new _ _) hb2⟩
end Go.Proofs.Ytadaoobdnnleaaa
