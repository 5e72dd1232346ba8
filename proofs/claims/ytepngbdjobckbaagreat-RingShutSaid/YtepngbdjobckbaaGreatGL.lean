/- Several texts in one. -/
import Derived.Test.YtepngbdjobckbaaGreatGU
import Derived.Test.YtepngbdjobckbaaGreatGA
section
namespace Go.Proofs.YtepngbdjobckbaaGreat
open Go.RowKit
set_option linter.unusedVariables false

/-- The first word of a channel. -/
def tlN (l : List Int) : Nat → Int
  | 0 => 0
  | n + 1 => tlN l n + (5 + 2 * sz (l.getD n 0))
theorem sz_bd (x : Int) (h0 : 0 ≤ x) (h1 : x ≤ 16) : 1 ≤ sz x ∧ sz x ≤ 16 := by
  obtain ⟨k, rfl⟩ := Int.eq_ofNat_of_zero_le h0
  have key : ∀ k : Nat, k < 17 → 1 ≤ sz (k : Int) ∧ sz (k : Int) ≤ 16 := by decide
  exact key k (by omega)
/-- The capacities of a configuration. -/
def Cf (w : World) (A : Option Addr) (n : Nat) (l : List Int) : Prop := IsI .i64 w A n l ∧ n ≤ 8 ∧ ∀ x ∈ l, 0 ≤ x ∧ x ≤ 16
section
variable {w w' : World} {A : Option Addr} {n : Nat} {l : List Int}
theorem Cf.below (h : Cf w A n l) (hb : Below w.heap.size w w') : Cf w' A n l := ⟨h.1.below hb, h.2⟩
theorem Cf.alloc (h : Cf w A n l) (o : Obj) : Cf (w.alloc o) A n l := h.below (below_new w o)
theorem Cf.up (h : Cf w A n l) (u : Up w) : Cf u.1 A n l := h.below u.2
theorem Cf.len (h : Cf w A n l) : l.length = n := h.1.len
theorem Cf.at_ (h : Cf w A n l) {k : Nat} (hk : k < n) : ∃ ad, A = some ad ∧ w.cell? (ad.add k) = some (.int .i64 (l.getD k 0)) ∧ 0 ≤ l.getD k 0 ∧ l.getD k 0 ≤ 16 := by
  obtain ⟨ad, e, _, hc⟩ := h.1.at_ hk
  have hl := h.len
  have hm : l.getD k 0 ∈ l := by
    rw [List.getD, List.getElem?_eq_getElem (by omega)]
    exact List.getElem_mem _
  exact ⟨ad, e, hc, h.2.2 _ hm⟩
theorem Cf.in_ (h : Cf w A n l) {k : Nat} (hk : k < n) : 0 ≤ l.getD k 0 ∧ l.getD k 0 ≤ 16 := by
  obtain ⟨_, _, _, h1⟩ := h.at_ hk
  exact h1
theorem Cf.tl (h : Cf w A n l) : ∀ k, k ≤ n → 0 ≤ tlN l k ∧ tlN l k ≤ 37 * k := by
  intro k
  induction k with
  | zero => intro _; simp [tlN]
  | succ k ih =>
    intro hk
    obtain ⟨_, _, _, h1, h2⟩ := h.at_ (show k < n by omega)
    have h3 := sz_bd _ h1 h2
    have h4 := ih (by omega)
    rw [tlN]
    omega
end
theorem rsz_any (w : World) (A : Option Addr) (n c : Nat) (l : List Int) (B : Option Addr) (m d : Nat) (t : Int) (h : Cf w A n l) (k : Nat) (hk : k < n) :
    Calls Tryz.prog 26 #[.agg #[.slice A n c, .slice B m d, .int .i64 t], .int .i64 k] w fun e w' => e = .returned (.int .i64 (sz (l.getD k 0))) ∧ Below w.heap.size w w' := by
  obtain ⟨ad, rfl, hc, h1, h2⟩ := h.at_ hk
  have hb := block_lt hc
  generalize l.getD k 0 = x at *
  go_enter Tryz.func26, Tryz.ntmps26
  go_wp2_with (go_at_call 51; refine (rsize_any _ _).mono ?_; rintro e w' ⟨rfl, rfl⟩)
  go_ret
  exact ⟨rfl, below_new _ _⟩
theorem lsz_any (w : World) (A : Option Addr) (n c : Nat) (l : List Int) (B : Option Addr) (m d : Nat) (t : Int) (h : Cf w A n l) (k : Nat) (hk : k < n) :
    Calls Tryz.prog 108 #[.agg #[.slice A n c, .slice B m d, .int .i64 t], .int .i64 k] w fun e w' => e = .returned (.int .i64 (sz (l.getD k 0))) ∧ Below w.heap.size w w' := by
  obtain ⟨ad, rfl, hc, h1, h2⟩ := h.at_ hk
  have hb := block_lt hc
  generalize l.getD k 0 = x at *
  go_enter Tryz.func108, Tryz.ntmps108
  go_wp2_with (go_at_call 96; refine (size_any _ _).mono ?_; rintro e w' ⟨rfl, rfl⟩)
  go_ret
  exact ⟨rfl, below_new _ _⟩
set_option maxHeartbeats 1000000 in
theorem rtl_any (w : World) (A : Option Addr) (n c : Nat) (l : List Int) (B : Option Addr) (m d : Nat) (t : Int) (h : Cf w A n l) (k : Nat) (hk : k ≤ n) :
    Calls Tryz.prog 7 #[.agg #[.slice A n c, .slice B m d, .int .i64 t], .int .i64 k] w fun e w' => e = .returned (.int .i64 (tlN l k)) ∧ Below w.heap.size w w' := by
  have H := hide h
  have hn8 := h.2.1
  clear h
  go_enter Tryz.func7, Tryz.ntmps7
  go_wp2
  have HBK := hide (Bk.new w 30 #[.slice A n c, .slice B m d, .int .i64 t])
  go_loopg [5, 6] k (fun g s i wr => ∃ j : Nat, g + j = k ∧ i = .int .i64 j ∧ s = .int .i64 (tlN l j) ∧ Below w.heap.size w wr ∧ Bk wr w.heap.size 30 #[.slice A n c, .slice B m d, .int .i64 t])
  case atStart => exact ⟨0, by omega, rfl, rfl, below_new _ _, HBK.out⟩
  case round =>
    obtain ⟨j, hj, rfl, rfl, hb, hk2⟩ := hrel
    have c0 := hk2.cell 0
    have c1 := hk2.cell 1
    have c2 := hk2.cell 2
    simp only [List.getElem?_toArray, List.getElem?_cons_zero, List.getElem?_cons_succ] at c0 c1 c2
    have HB := hide hb
    have HK := hide hk2
    have HC := hide (H.out.below hb)
    clear hb hk2 HBK
    by_cases hlt : j < k
    · have hjn : j < n := by omega
      obtain ⟨x1, x2⟩ := HC.out.in_ hjn
      have x3 := sz_bd _ x1 x2
      have x4 := HC.out.tl j (by omega)
      have hst := hide (show tlN l (j + 1) = tlN l j + (5 + 2 * sz (l.getD j 0)) from rfl)
      have hs := rsz_any wr A n c l B m d t HC.out j hjn
      generalize sz (l.getD j 0) = s at hst x3 hs
      generalize tlN l j = p at hst x4
      have HS := hide hs
      clear hs x1 x2
      go_wp2_with (go_at_call 26; refine HS.out.mono ?_; rintro e w' ⟨rfl, hb2⟩)
      go_roundg (gk - 1)
      case rel => exact ⟨j + 1, by omega, by go_num, by rw [hst.out], below_next HB.out hb2, HK.out.below hb2 HK.out.lt⟩
      case measure => omega
    · obtain rfl : j = k := by omega
      go_wp2
      go_ret
      exact ⟨rfl, HB.out⟩
set_option maxHeartbeats 1000000 in
theorem base_any (w : World) (A : Option Addr) (n c : Nat) (l : List Int) (B : Option Addr) (m d : Nat) (t : Int) (h : Cf w A n l) (k : Nat) (hk : k ≤ n) :
    Calls Tryz.prog 105 #[.agg #[.slice A n c, .slice B m d, .int .i64 t], .int .i64 k] w fun e w' => e = .returned (.int .i64 (tlN l k)) ∧ Below w.heap.size w w' := by
  have H := hide h
  have hn8 := h.2.1
  clear h
  go_enter Tryz.func105, Tryz.ntmps105
  go_wp2
  have HBK := hide (Bk.new w 30 #[.slice A n c, .slice B m d, .int .i64 t])
  go_loopg [5, 6] k (fun g s i wr => ∃ j : Nat, g + j = k ∧ i = .int .i64 j ∧ s = .int .i64 (tlN l j) ∧ Below w.heap.size w wr ∧ Bk wr w.heap.size 30 #[.slice A n c, .slice B m d, .int .i64 t])
  case atStart => exact ⟨0, by omega, rfl, rfl, below_new _ _, HBK.out⟩
  case round =>
    obtain ⟨j, hj, rfl, rfl, hb, hk2⟩ := hrel
    have c0 := hk2.cell 0
    have c1 := hk2.cell 1
    have c2 := hk2.cell 2
    simp only [List.getElem?_toArray, List.getElem?_cons_zero, List.getElem?_cons_succ] at c0 c1 c2
    have HB := hide hb
    have HK := hide hk2
    have HC := hide (H.out.below hb)
    clear hb hk2 HBK
    by_cases hlt : j < k
    · have hjn : j < n := by omega
      obtain ⟨x1, x2⟩ := HC.out.in_ hjn
      have x3 := sz_bd _ x1 x2
      have x4 := HC.out.tl j (by omega)
      have hst := hide (show tlN l (j + 1) = tlN l j + (5 + 2 * sz (l.getD j 0)) from rfl)
      have hs := lsz_any wr A n c l B m d t HC.out j hjn
      generalize sz (l.getD j 0) = s at hst x3 hs
      generalize tlN l j = p at hst x4
      have HS := hide hs
      clear hs x1 x2
      go_wp2_with (go_at_call 108; refine HS.out.mono ?_; rintro e w' ⟨rfl, hb2⟩)
      go_roundg (gk - 1)
      case rel => exact ⟨j + 1, by omega, by go_num, by rw [hst.out], below_next HB.out hb2, HK.out.below hb2 HK.out.lt⟩
      case measure => omega
    · obtain rfl : j = k := by omega
      go_wp2
      go_ret
      exact ⟨rfl, HB.out⟩
/-! ### A word of a channel -/
theorem ltail_any (w : World) (A : Option Addr) (n c : Nat) (l : List Int) (B : Option Addr) (m d : Nat) (t : Int) (h : Cf w A n l) (k : Nat) (hk : k ≤ n) :
    Calls Tryz.prog 93 #[.agg #[.slice A n c, .slice B m d, .int .i64 t], .int .i64 k] w fun e w' => e = .returned (.int .i64 (tlN l k + 0)) ∧ Below w.heap.size w w' := by
  have hb := h.tl k hk
  have hn := h.2.1
  have hs := fun o => base_any (w.alloc o) A n c l B m d t (h.alloc o) k hk
  generalize tlN l k = p at *
  have HS := hide hs
  clear h hs
  go_enter Tryz.func93, Tryz.ntmps93
  go_wp2_with (go_at_call 105; refine (HS.out _).mono ?_; rintro e w' ⟨rfl, hb2⟩)
  go_ret
  exact ⟨ret_int (by omega), below_next (below_new _ _) hb2⟩
theorem lhead_any (w : World) (A : Option Addr) (n c : Nat) (l : List Int) (B : Option Addr) (m d : Nat) (t : Int) (h : Cf w A n l) (k : Nat) (hk : k ≤ n) :
    Calls Tryz.prog 94 #[.agg #[.slice A n c, .slice B m d, .int .i64 t], .int .i64 k] w fun e w' => e = .returned (.int .i64 (tlN l k + 1)) ∧ Below w.heap.size w w' := by
  have hb := h.tl k hk
  have hn := h.2.1
  have hs := fun o => base_any (w.alloc o) A n c l B m d t (h.alloc o) k hk
  generalize tlN l k = p at *
  have HS := hide hs
  clear h hs
  go_enter Tryz.func94, Tryz.ntmps94
  go_wp2_with (go_at_call 105; refine (HS.out _).mono ?_; rintro e w' ⟨rfl, hb2⟩)
  go_ret
  exact ⟨ret_int (by omega), below_next (below_new _ _) hb2⟩
theorem rhead_any (w : World) (A : Option Addr) (n c : Nat) (l : List Int) (B : Option Addr) (m d : Nat) (t : Int) (h : Cf w A n l) (k : Nat) (hk : k ≤ n) :
    Calls Tryz.prog 8 #[.agg #[.slice A n c, .slice B m d, .int .i64 t], .int .i64 k] w fun e w' => e = .returned (.int .i64 (tlN l k + 1)) ∧ Below w.heap.size w w' := by
  have hb := h.tl k hk
  have hn := h.2.1
  have hs := fun o => rtl_any (w.alloc o) A n c l B m d t (h.alloc o) k hk
  generalize tlN l k = p at *
  have HS := hide hs
  clear h hs
  go_enter Tryz.func8, Tryz.ntmps8
  go_wp2_with (go_at_call 7; refine (HS.out _).mono ?_; rintro e w' ⟨rfl, hb2⟩)
  go_ret
  exact ⟨ret_int (by omega), below_next (below_new _ _) hb2⟩
theorem rlock_any (w : World) (A : Option Addr) (n c : Nat) (l : List Int) (B : Option Addr) (m d : Nat) (t : Int) (h : Cf w A n l) (k : Nat) (hk : k ≤ n) :
    Calls Tryz.prog 79 #[.agg #[.slice A n c, .slice B m d, .int .i64 t], .int .i64 k] w fun e w' => e = .returned (.int .i64 (tlN l k + 2)) ∧ Below w.heap.size w w' := by
  have hb := h.tl k hk
  have hn := h.2.1
  have hs := fun o => rtl_any (w.alloc o) A n c l B m d t (h.alloc o) k hk
  generalize tlN l k = p at *
  have HS := hide hs
  clear h hs
  go_enter Tryz.func79, Tryz.ntmps79
  go_wp2_with (go_at_call 7; refine (HS.out _).mono ?_; rintro e w' ⟨rfl, hb2⟩)
  go_ret
  exact ⟨ret_int (by omega), below_next (below_new _ _) hb2⟩
/-! ### A word of a thread -/
theorem rclaim_any (w : World) (A : Option Addr) (n c : Nat) (l : List Int) (B : Option Addr) (m d : Nat) (t : Int) (h : Cf w A n l) (k : Nat) (hk : k ≤ 8) :
    Calls Tryz.prog 60 #[.agg #[.slice A n c, .slice B m d, .int .i64 t], .int .i64 k] w fun e w' => e = .returned (.int .i64 (tlN l n + k * 11)) ∧ Below w.heap.size w w' := by
  have hb := h.tl n (Nat.le_refl _)
  have hn := h.2.1
  have hs := fun o => rtl_any (w.alloc o) A n c l B m d t (h.alloc o) n (Nat.le_refl _)
  generalize tlN l n = p at *
  have HS := hide hs
  clear h hs
  go_enter Tryz.func60, Tryz.ntmps60
  go_wp2_with (go_at_call 7; refine (HS.out _).mono ?_; rintro e w' ⟨rfl, hb2⟩)
  go_ret
  exact ⟨rfl, below_next (below_new _ _) hb2⟩
theorem rflag_any (w : World) (A : Option Addr) (n c : Nat) (l : List Int) (B : Option Addr) (m d : Nat) (t : Int) (h : Cf w A n l) (k : Nat) (hk : k ≤ 8) :
    Calls Tryz.prog 85 #[.agg #[.slice A n c, .slice B m d, .int .i64 t], .int .i64 k] w fun e w' => e = .returned (.int .i64 (tlN l n + k * 11 + 1)) ∧ Below w.heap.size w w' := by
  have hb := h.tl n (Nat.le_refl _)
  have hn := h.2.1
  have hs := fun o => rclaim_any (w.alloc o) A n c l B m d t (h.alloc o) k hk
  generalize tlN l n = p at *
  have HS := hide hs
  clear h hs
  go_enter Tryz.func85, Tryz.ntmps85
  go_wp2_with (go_at_call 60; refine (HS.out _).mono ?_; rintro e w' ⟨rfl, hb2⟩)
  go_ret
  exact ⟨ret_int (by omega), below_next (below_new _ _) hb2⟩
theorem rkind_any (w : World) (A : Option Addr) (n c : Nat) (l : List Int) (B : Option Addr) (m d : Nat) (t : Int) (h : Cf w A n l) (k : Nat) (hk : k ≤ 8) :
    Calls Tryz.prog 83 #[.agg #[.slice A n c, .slice B m d, .int .i64 t], .int .i64 k] w fun e w' => e = .returned (.int .i64 (tlN l n + k * 11 + 2)) ∧ Below w.heap.size w w' := by
  have hb := h.tl n (Nat.le_refl _)
  have hn := h.2.1
  have hs := fun o => rclaim_any (w.alloc o) A n c l B m d t (h.alloc o) k hk
  generalize tlN l n = p at *
  have HS := hide hs
  clear h hs
  go_enter Tryz.func83, Tryz.ntmps83
  go_wp2_with (go_at_call 60; refine (HS.out _).mono ?_; rintro e w' ⟨rfl, hb2⟩)
  go_ret
  exact ⟨ret_int (by omega), below_next (below_new _ _) hb2⟩
theorem rcase_any (w : World) (A : Option Addr) (n c : Nat) (l : List Int) (B : Option Addr) (m d : Nat) (t : Int) (h : Cf w A n l) (k : Nat) (hk : k ≤ 8) :
    Calls Tryz.prog 82 #[.agg #[.slice A n c, .slice B m d, .int .i64 t], .int .i64 k] w fun e w' => e = .returned (.int .i64 (tlN l n + k * 11 + 3)) ∧ Below w.heap.size w w' := by
  have hb := h.tl n (Nat.le_refl _)
  have hn := h.2.1
  have hs := fun o => rclaim_any (w.alloc o) A n c l B m d t (h.alloc o) k hk
  generalize tlN l n = p at *
  have HS := hide hs
  clear h hs
  go_enter Tryz.func82, Tryz.ntmps82
  go_wp2_with (go_at_call 60; refine (HS.out _).mono ?_; rintro e w' ⟨rfl, hb2⟩)
  go_ret
  exact ⟨ret_int (by omega), below_next (below_new _ _) hb2⟩
theorem rvalue_any (w : World) (A : Option Addr) (n c : Nat) (l : List Int) (B : Option Addr) (m d : Nat) (t : Int) (h : Cf w A n l) (k : Nat) (hk : k ≤ 8) :
    Calls Tryz.prog 84 #[.agg #[.slice A n c, .slice B m d, .int .i64 t], .int .i64 k] w fun e w' => e = .returned (.int .i64 (tlN l n + k * 11 + 4)) ∧ Below w.heap.size w w' := by
  have hb := h.tl n (Nat.le_refl _)
  have hn := h.2.1
  have hs := fun o => rclaim_any (w.alloc o) A n c l B m d t (h.alloc o) k hk
  generalize tlN l n = p at *
  have HS := hide hs
  clear h hs
  go_enter Tryz.func84, Tryz.ntmps84
  go_wp2_with (go_at_call 60; refine (HS.out _).mono ?_; rintro e w' ⟨rfl, hb2⟩)
  go_ret
  exact ⟨ret_int (by omega), below_next (below_new _ _) hb2⟩
theorem rwords_any (w : World) (A : Option Addr) (n c : Nat) (l : List Int) (B : Option Addr) (m d : Nat) (h : Cf w A n l) (k : Nat) (hk : k ≤ 8) :
    Calls Tryz.prog 39 #[.agg #[.slice A n c, .slice B m d, .int .i64 k]] w fun e w' => e = .returned (.int .i64 (tlN l n + k * 11)) ∧ Below w.heap.size w w' := by
  have hs := fun o => rclaim_any (w.alloc o) A n c l B m d k (h.alloc o) k hk
  generalize tlN l n = p at *
  have HS := hide hs
  clear h hs
  go_enter Tryz.func39, Tryz.ntmps39
  go_wp2_with (go_at_call 60; refine (HS.out _).mono ?_; rintro e w' ⟨rfl, hb2⟩)
  go_ret
  exact ⟨rfl, below_next (below_new _ _) hb2⟩
end Go.Proofs.YtepngbdjobckbaaGreat
end
section
namespace Go.Proofs.YtepngbdjobckbaaGreat
open Go.RowKit
set_option linter.unusedVariables false

theorem sl_bd (s n : Int) (h1 : 1 ≤ n) : 0 ≤ sl s n ∧ sl s n < n := by
  unfold sl
  rw [if_neg (by omega)]
  exact ⟨Int.emod_nonneg _ (by omega), Int.emod_lt_of_pos _ (by omega)⟩
set_option maxHeartbeats 1000000 in
theorem lslot_any (w : World) (A : Option Addr) (n c : Nat) (l : List Int) (B : Option Addr) (m d : Nat) (t : Int) (h : Cf w A n l) (k : Nat) (hk : k < n) (s : Int) (h0 : 0 ≤ s) (h1 : s ≤ 18446744073709551615) :
    Calls Tryz.prog 106 #[.agg #[.slice A n c, .slice B m d, .int .i64 t], .int .i64 k, .int .u64 s] w fun e w' => e = .returned (.int .i64 (tlN l k + 5 + 2 * sl s (sz (l.getD k 0)))) ∧ Below w.heap.size w w' := by
  have hn := h.2.1
  have b1 := h.tl k (by omega)
  obtain ⟨x1, x2⟩ := h.in_ hk
  have b2 := sz_bd _ x1 x2
  have b3 := sl_bd s _ b2.1
  have q1 := fun (u : Up (w.alloc (.cells #[.slice A n c, .slice B m d, .int .i64 t] 30))) => base_any u.1 A n c l B m d t ((h.alloc _).up u) k (by omega)
  have q2 := fun (u : Up (w.alloc (.cells #[.slice A n c, .slice B m d, .int .i64 t] 30))) => lsz_any u.1 A n c l B m d t ((h.alloc _).up u) k hk
  have q3 := fun W => slot_any s (sz (l.getD k 0)) W h0 h1 (by omega)
  have nb := Bk.new w 30 #[.slice A n c, .slice B m d, .int .i64 t]
  have c0 := fun u => up_cell (nb.cell 0) u
  have c1 := fun u => up_cell (nb.cell 1) u
  have c2 := fun u => up_cell (nb.cell 2) u
  generalize sl s (sz (l.getD k 0)) = z at *
  generalize sz (l.getD k 0) = y at *
  generalize tlN l k = p at *
  have Q1 := hide q1
  have Q2 := hide q2
  have Q3 := hide q3
  have C0 := hide c0
  have C1 := hide c1
  have C2 := hide c2
  have hkl : decide ((k : Int) < 0) = false := by simp
  clear h q1 q2 q3 nb c0 c1 c2 x1 x2
  go_enter Tryz.func106, Tryz.ntmps106
  go_wp2
  have c0 := C0.out
  have c1 := C1.out
  have c2 := C2.out
  refine wp_region_up (by kernel_rfl) (by kernel_rfl) ?_
  repeat (go_big_quiet_step (first
    | (go_at_call 105; exact up_call (Q1.out _))
    | (go_at_call 108; exact up_call (Q2.out _))
    | (go_at_call 107; exact up_same (Q3.out _))))
  refine wpQuiet_nil ?_
  rintro _ ⟨u, rfl⟩
  clear c0 c1 c2
  go_wp2
  go_ret
  exact ⟨ret_int (by omega), below_next (below_new _ _) u.2⟩
set_option maxHeartbeats 1000000 in
theorem rslotseq_any (w : World) (A : Option Addr) (n c : Nat) (l : List Int) (B : Option Addr) (m d : Nat) (t : Int) (h : Cf w A n l) (k : Nat) (hk : k < n) (s : Int) (h0 : 0 ≤ s) (h1 : s ≤ 18446744073709551615) :
    Calls Tryz.prog 42 #[.agg #[.slice A n c, .slice B m d, .int .i64 t], .int .i64 k, .int .u64 s] w fun e w' => e = .returned (.int .i64 (tlN l k + 5 + 2 * sl s (sz (l.getD k 0)))) ∧ Below w.heap.size w w' := by
  have hn := h.2.1
  have b1 := h.tl k (by omega)
  obtain ⟨x1, x2⟩ := h.in_ hk
  have b2 := sz_bd _ x1 x2
  have b3 := sl_bd s _ b2.1
  have q1 := fun (u : Up (w.alloc (.cells #[.slice A n c, .slice B m d, .int .i64 t] 30))) => rtl_any u.1 A n c l B m d t ((h.alloc _).up u) k (by omega)
  have q2 := fun (u : Up (w.alloc (.cells #[.slice A n c, .slice B m d, .int .i64 t] 30))) => rsz_any u.1 A n c l B m d t ((h.alloc _).up u) k hk
  have q3 := fun W => rslot_any s (sz (l.getD k 0)) W h0 h1 (by omega)
  have nb := Bk.new w 30 #[.slice A n c, .slice B m d, .int .i64 t]
  have c0 := fun u => up_cell (nb.cell 0) u
  have c1 := fun u => up_cell (nb.cell 1) u
  have c2 := fun u => up_cell (nb.cell 2) u
  generalize sl s (sz (l.getD k 0)) = z at *
  generalize sz (l.getD k 0) = y at *
  generalize tlN l k = p at *
  have Q1 := hide q1
  have Q2 := hide q2
  have Q3 := hide q3
  have C0 := hide c0
  have C1 := hide c1
  have C2 := hide c2
  have hkl : decide ((k : Int) < 0) = false := by simp
  clear h q1 q2 q3 nb c0 c1 c2 x1 x2
  go_enter Tryz.func42, Tryz.ntmps42
  go_wp2
  have c0 := C0.out
  have c1 := C1.out
  have c2 := C2.out
  refine wp_region_up (by kernel_rfl) (by kernel_rfl) ?_
  repeat (go_big_quiet_step (first
    | (go_at_call 7; exact up_call (Q1.out _))
    | (go_at_call 26; exact up_call (Q2.out _))
    | (go_at_call 61; exact up_same (Q3.out _))))
  refine wpQuiet_nil ?_
  rintro _ ⟨u, rfl⟩
  clear c0 c1 c2
  go_wp2
  go_ret
  exact ⟨ret_int (by omega), below_next (below_new _ _) u.2⟩
end Go.Proofs.YtepngbdjobckbaaGreat
end
section
namespace Go.Proofs.YtepngbdjobckbaaGreat
open Go.RowKit
set_option linter.unusedVariables false

theorem lslotseq_any (w : World) (A : Option Addr) (n c : Nat) (l : List Int) (B : Option Addr) (m d : Nat) (t : Int) (h : Cf w A n l) (k : Nat) (hk : k < n) (s : Int) (h0 : 0 ≤ s) (h1 : s ≤ 18446744073709551615) :
    Calls Tryz.prog 95 #[.agg #[.slice A n c, .slice B m d, .int .i64 t], .int .i64 k, .int .u64 s] w fun e w' => e = .returned (.int .i64 (tlN l k + 5 + 2 * sl s (sz (l.getD k 0)) + 0)) ∧ Below w.heap.size w w' := by
  have hn := h.2.1
  have b1 := h.tl k (by omega)
  obtain ⟨x1, x2⟩ := h.in_ hk
  have b2 := sz_bd _ x1 x2
  have b3 := sl_bd s _ b2.1
  have hs := fun o => lslot_any (w.alloc o) A n c l B m d t (h.alloc o) k hk s h0 h1
  generalize sl s (sz (l.getD k 0)) = z at *
  generalize sz (l.getD k 0) = y at *
  generalize tlN l k = p at *
  have HS := hide hs
  clear h hs x1 x2
  go_enter Tryz.func95, Tryz.ntmps95
  go_wp2_with (go_at_call 106; refine (HS.out _).mono ?_; rintro e w' ⟨rfl, hb2⟩)
  go_ret
  exact ⟨ret_int (by omega), below_next (below_new _ _) hb2⟩
theorem rslotvalue_any (w : World) (A : Option Addr) (n c : Nat) (l : List Int) (B : Option Addr) (m d : Nat) (t : Int) (h : Cf w A n l) (k : Nat) (hk : k < n) (s : Int) (h0 : 0 ≤ s) (h1 : s ≤ 18446744073709551615) :
    Calls Tryz.prog 81 #[.agg #[.slice A n c, .slice B m d, .int .i64 t], .int .i64 k, .int .u64 s] w fun e w' => e = .returned (.int .i64 (tlN l k + 5 + 2 * sl s (sz (l.getD k 0)) + 1)) ∧ Below w.heap.size w w' := by
  have hn := h.2.1
  have b1 := h.tl k (by omega)
  obtain ⟨x1, x2⟩ := h.in_ hk
  have b2 := sz_bd _ x1 x2
  have b3 := sl_bd s _ b2.1
  have hs := fun o => rslotseq_any (w.alloc o) A n c l B m d t (h.alloc o) k hk s h0 h1
  generalize sl s (sz (l.getD k 0)) = z at *
  generalize sz (l.getD k 0) = y at *
  generalize tlN l k = p at *
  have HS := hide hs
  clear h hs x1 x2
  go_enter Tryz.func81, Tryz.ntmps81
  go_wp2_with (go_at_call 42; refine (HS.out _).mono ?_; rintro e w' ⟨rfl, hb2⟩)
  go_ret
  exact ⟨ret_int (by omega), below_next (below_new _ _) hb2⟩
end Go.Proofs.YtepngbdjobckbaaGreat
end
