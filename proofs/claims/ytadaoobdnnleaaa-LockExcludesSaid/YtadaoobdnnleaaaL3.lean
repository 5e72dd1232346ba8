/- Contracts: the numbers of the words of slots. -/
import Derived.Test.YtadaoobdnnleaaaL2
namespace Go.Proofs.Ytadaoobdnnleaaa
open Go.RowKit
set_option linter.unusedVariables false

theorem sl_bd (s n : Int) (h1 : 1 ≤ n) : 0 ≤ sl s n ∧ sl s n < n := by
  unfold sl
  rw [if_neg (by omega)]
  exact ⟨Int.emod_nonneg _ (by omega), Int.emod_lt_of_pos _ (by omega)⟩
set_option maxHeartbeats 1000000 in
theorem lslot_any (w : World) (A : Option Addr) (n c : Nat) (l : List Int) (B : Option Addr) (m d : Nat) (t : Int) (h : Cf w A n l) (k : Nat) (hk : k < n) (s : Int) (h0 : 0 ≤ s) (h1 : s ≤ 18446744073709551615) :
    Calls Try.prog 133 #[.agg #[.slice A n c, .slice B m d, .int .i64 t], .int .i64 k, .int .u64 s] w fun e w' => e = .returned (.int .i64 (tlN l k + 5 + 2 * sl s (sz (l.getD k 0)))) ∧ Below w.heap.size w w' := by
  have hn := h.2.1
  have b1 := h.tl k (by omega)
  obtain ⟨x1, x2⟩ := h.in_ hk
  have b2 := sz_bd _ x1 x2
  have b3 := sl_bd s _ b2.1
  have q1 := fun (u : Up (w.alloc (.cells #[.slice A n c, .slice B m d, .int .i64 t] 30))) => base_any u.1 A n c l B m d t ((h.alloc _).up u) k (by omega)
  have q2 := fun (u : Up (w.alloc (.cells #[.slice A n c, .slice B m d, .int .i64 t] 30))) => lsz_any u.1 A n c l B m d t ((h.alloc _).up u) k hk
  have q3 := fun W => slot_any s (sz (l.getD k 0)) W h0 h1 (by omega)
  have nb := Bk.new w 30 #[.slice A n c, .slice B m d, .int .i64 t]
  have c0 := fun u => up_cell (nb.cell 0) u
  have c1 := fun u => up_cell (nb.cell 1) u
  have c2 := fun u => up_cell (nb.cell 2) u
  generalize sl s (sz (l.getD k 0)) = z at *
  generalize sz (l.getD k 0) = y at *
  generalize tlN l k = p at *
  have Q1 := hide q1
  have Q2 := hide q2
  have Q3 := hide q3
  have C0 := hide c0
  have C1 := hide c1
  have C2 := hide c2
  have hkl : decide ((k : Int) < 0) = false := by simp
  clear h q1 q2 q3 nb c0 c1 c2 x1 x2
  go_enter Try.func133, Try.ntmps133
  go_wp2
  have c0 := C0.out
  have c1 := C1.out
  have c2 := C2.out
  refine wp_region_up (by kernel_rfl) (by kernel_rfl) ?_
  repeat (go_big_quiet_step (first
    | (go_at_call 112; exact up_call (Q1.out _))
    | (go_at_call 122; exact up_call (Q2.out _))
    | (go_at_call 134; exact up_same (Q3.out _))))
  refine wpQuiet_nil ?_
  rintro _ ⟨u, rfl⟩
  clear c0 c1 c2
  go_wp2
  go_ret
  exact ⟨ret_int (by omega), below_next (below_new _ _) u.2⟩
set_option maxHeartbeats 1000000 in
theorem rslotseq_any (w : World) (A : Option Addr) (n c : Nat) (l : List Int) (B : Option Addr) (m d : Nat) (t : Int) (h : Cf w A n l) (k : Nat) (hk : k < n) (s : Int) (h0 : 0 ≤ s) (h1 : s ≤ 18446744073709551615) :
    Calls Try.prog 86 #[.agg #[.slice A n c, .slice B m d, .int .i64 t], .int .i64 k, .int .u64 s] w fun e w' => e = .returned (.int .i64 (tlN l k + 5 + 2 * sl s (sz (l.getD k 0)))) ∧ Below w.heap.size w w' := by
  have hn := h.2.1
  have b1 := h.tl k (by omega)
  obtain ⟨x1, x2⟩ := h.in_ hk
  have b2 := sz_bd _ x1 x2
  have b3 := sl_bd s _ b2.1
  have q1 := fun (u : Up (w.alloc (.cells #[.slice A n c, .slice B m d, .int .i64 t] 30))) => rtl_any u.1 A n c l B m d t ((h.alloc _).up u) k (by omega)
  have q2 := fun (u : Up (w.alloc (.cells #[.slice A n c, .slice B m d, .int .i64 t] 30))) => rsz_any u.1 A n c l B m d t ((h.alloc _).up u) k hk
  have q3 := fun W => rslot_any s (sz (l.getD k 0)) W h0 h1 (by omega)
  have nb := Bk.new w 30 #[.slice A n c, .slice B m d, .int .i64 t]
  have c0 := fun u => up_cell (nb.cell 0) u
  have c1 := fun u => up_cell (nb.cell 1) u
  have c2 := fun u => up_cell (nb.cell 2) u
  generalize sl s (sz (l.getD k 0)) = z at *
  generalize sz (l.getD k 0) = y at *
  generalize tlN l k = p at *
  have Q1 := hide q1
  have Q2 := hide q2
  have Q3 := hide q3
  have C0 := hide c0
  have C1 := hide c1
  have C2 := hide c2
  have hkl : decide ((k : Int) < 0) = false := by simp
  clear h q1 q2 q3 nb c0 c1 c2 x1 x2
  go_enter Try.func86, Try.ntmps86
  go_wp2
  have c0 := C0.out
  have c1 := C1.out
  have c2 := C2.out
  refine wp_region_up (by kernel_rfl) (by kernel_rfl) ?_
  repeat (go_big_quiet_step (first
    | (go_at_call 61; exact up_call (Q1.out _))
    | (go_at_call 84; exact up_call (Q2.out _))
    | (go_at_call 111; exact up_same (Q3.out _))))
  refine wpQuiet_nil ?_
  rintro _ ⟨u, rfl⟩
  clear c0 c1 c2
  go_wp2
  go_ret
  exact ⟨ret_int (by omega), below_next (below_new _ _) u.2⟩
end Go.Proofs.Ytadaoobdnnleaaa
