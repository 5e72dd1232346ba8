/- Chapter 5: what its laws share. -/
import Derived.Test.YtcaencocmfkfaaaWd
import Derived.Test.YtcaencocmfkfaaaGL
import Derived.Test.YtcaencocmfkfaaaL1
import Derived.BigQuiet
namespace Go.Proofs.Ytcaencocmfkfaaa
open Go.RowKit
set_option linter.unusedVariables false
set_option linter.unusedSimpArgs false
theorem bk6V {w : World} {g : Nat} {t : TypeId} {k : IntKind} {l : List Int} (h : Bk w g t ((l.map (Value.int k)).toArray)) (j : Nat) (hj : j < l.length) : w.cell? ⟨g, j, none⟩ = some (.int k (l.getD j 0)) := by
  rw [h.cell j]
  simp [List.getD, List.getElem?_eq_getElem hj]
theorem wide_cf (w : World) (g : Nat) (r : List Int) (v : Int) (h : Cd w g r v) :
    Calls Try.prog 9 #[.pointer (some ⟨g, 0, none⟩)] w fun e w' => ∃ (A : Option Addr) (n c : Nat) (B : Option Addr) (d tn : Nat) (l s r' : List Int), e = .returned (.agg #[.slice A n c, .slice B n d, .int .i64 tn]) ∧ Cf w' A n l ∧ IsI .u64 w' B n s ∧ (∀ x ∈ s, 0 ≤ x ∧ x < 9223372036854775808) ∧ 1 ≤ tn ∧ tn ≤ 8 ∧ Cd w' g r' v ∧ w.grownBy w' (some g) := by
  refine (wide_any w g r v h).mono ?_
  rintro e w' ⟨u1, u2, t, l, s, r', rfl, hr, h2, h3, h4, h5, h6, h7, h8, h9⟩
  have o1 := hr.at_ 0 (Nat.succ_pos _)
  have o2 := hr.at_ 1 (by show 1 < 2; omega)
  obtain ⟨A, C, e1, -⟩ := own_form o1
  obtain ⟨B, D, e2, -⟩ := own_form o2
  have e1' : u1 = .slice A l.length C := e1
  have e2' : u2 = .slice B s.length D := e2
  subst e1' e2'
  obtain ⟨tn, rfl⟩ := Int.eq_ofNat_of_zero_le (show 0 ≤ t by omega)
  exact ⟨A, l.length, C, B, D, tn, l, s, r', by rw [h3], ⟨IsI.of_own o1, by omega, fun x hx => h4 x hx⟩, by have := IsI.of_own o2; rwa [h3] at this, fun x hx => h5 x hx, by omega, by omega, h8, h9⟩
theorem lout_any (w : World) (A : Option Addr) (n c : Nat) (l : List Int) (B : Option Addr) (m d : Nat) (t : Int) (h : Cf w A n l) (k : Nat) (hk : k ≤ 8) (j : Nat) (hj : j ≤ 8) :
    Calls Try.prog 29 #[.agg #[.slice A n c, .slice B m d, .int .i64 t], .int .i64 k, .int .i64 j] w fun e w' => e = .returned (.int .i64 (tlN l n + k * 11 + 5 + j)) ∧ Below w.heap.size w w' := by
  have hb := h.tl n (Nat.le_refl _)
  have hn := h.2.1
  have hs := fun o => thread_any (w.alloc o) A n c l B m d t (h.alloc o) k hk
  generalize tlN l n = p at *
  have HS := hide hs
  clear h hs
  go_enter Try.func29, Try.ntmps29
  go_wp2_with (go_at_call 51; refine (HS.out _).mono ?_; rintro e w' ⟨rfl, hb2⟩)
  go_ret
  exact ⟨ret_int (by omega), below_next (below_new _ _) hb2⟩
theorem rout_any (w : World) (A : Option Addr) (n c : Nat) (l : List Int) (B : Option Addr) (m d : Nat) (t : Int) (h : Cf w A n l) (k : Nat) (hk : k ≤ 8) (j : Nat) (hj : j ≤ 8) :
    Calls Try.prog 44 #[.agg #[.slice A n c, .slice B m d, .int .i64 t], .int .i64 k, .int .i64 j] w fun e w' => e = .returned (.int .i64 (tlN l n + k * 11 + 5 + j)) ∧ Below w.heap.size w w' := by
  have hb := h.tl n (Nat.le_refl _)
  have hn := h.2.1
  have hs := fun o => rclaim_any (w.alloc o) A n c l B m d t (h.alloc o) k hk
  generalize tlN l n = p at *
  have HS := hide hs
  clear h hs
  go_enter Try.func44, Try.ntmps44
  go_wp2_with (go_at_call 39; refine (HS.out _).mono ?_; rintro e w' ⟨rfl, hb2⟩)
  go_ret
  exact ⟨ret_int (by omega), below_next (below_new _ _) hb2⟩
theorem rlist_any (w : World) (A : Option Addr) (n c : Nat) (B : Option Addr) (m d : Nat) (t : Int) (k : Nat) (hk : k ≤ 100) :
    Calls Try.prog 37 #[.agg #[.slice A n c, .slice B m d, .int .i64 t], .int .i64 k] w fun e w' => e = .returned (.int .i64 (2 * k)) ∧ Below w.heap.size w w' := by
  go_enter Try.func37, Try.ntmps37
  go_wp2
  go_ret
  exact ⟨ret_int (by omega), below_new _ _⟩
theorem slist_any (w : World) (A : Option Addr) (n c : Nat) (B : Option Addr) (m d : Nat) (t : Int) (k : Nat) (hk : k ≤ 100) :
    Calls Try.prog 38 #[.agg #[.slice A n c, .slice B m d, .int .i64 t], .int .i64 k] w fun e w' => e = .returned (.int .i64 (2 * k + 1)) ∧ Below w.heap.size w w' := by
  go_enter Try.func38, Try.ntmps38
  go_wp2
  go_ret
  exact ⟨ret_int (by omega), below_new _ _⟩
theorem addr_add (g i : Nat) : (⟨g, 0, none⟩ : Addr).add i = ⟨g, i, none⟩ := by
  unfold Addr.add
  split
  · next h => rw [h]
  · simp
set_option maxHeartbeats 4000000 in
set_option maxRecDepth 100000 in
theorem awake5_any (w : World) :
    Calls Try.prog 7 #[] w fun e w' => e = .returned (.bool true) ∧ Below w.heap.size w w' := by
  go_enter Try.func7, Try.ntmps7
  go_upto_region 2 with fail
  have HB := hide (show Below w.heap.size w (((w.alloc (.cells #[.int .i64 2, .int .i64 0] 3)).alloc (.cells #[.int .u64 0, .int .u64 0] 33)).alloc (.cells #[.slice (some ⟨w.heap.size, 0, none⟩) 2 2, .slice (some ⟨w.heap.size + 1, 0, none⟩) 2 2, .int .i64 1] 25)) from below_next (below_next (below_new _ _) (below_new _ _)) (below_new _ _))
  have KC := hide (show Bk (((w.alloc (.cells #[.int .i64 2, .int .i64 0] 3)).alloc (.cells #[.int .u64 0, .int .u64 0] 33)).alloc (.cells #[.slice (some ⟨w.heap.size, 0, none⟩) 2 2, .slice (some ⟨w.heap.size + 1, 0, none⟩) 2 2, .int .i64 1] 25)) w.heap.size 3 #[.int .i64 2, .int .i64 0] from ((Bk.new w 3 #[.int .i64 2, .int .i64 0]).alloc _).alloc _)
  have KS := hide (show Bk (((w.alloc (.cells #[.int .i64 2, .int .i64 0] 3)).alloc (.cells #[.int .u64 0, .int .u64 0] 33)).alloc (.cells #[.slice (some ⟨w.heap.size, 0, none⟩) 2 2, .slice (some ⟨w.heap.size + 1, 0, none⟩) 2 2, .int .i64 1] 25)) (w.heap.size + 1) 33 #[.int .u64 0, .int .u64 0] from by simpa using (Bk.new (w.alloc (.cells #[.int .i64 2, .int .i64 0] 3)) 33 #[.int .u64 0, .int .u64 0]).alloc (.cells #[.slice (some ⟨w.heap.size, 0, none⟩) 2 2, .slice (some ⟨w.heap.size + 1, 0, none⟩) 2 2, .int .i64 1] 25))
  have KF := hide (show Bk (((w.alloc (.cells #[.int .i64 2, .int .i64 0] 3)).alloc (.cells #[.int .u64 0, .int .u64 0] 33)).alloc (.cells #[.slice (some ⟨w.heap.size, 0, none⟩) 2 2, .slice (some ⟨w.heap.size + 1, 0, none⟩) 2 2, .int .i64 1] 25)) (w.heap.size + 1 + 1) 25 #[.slice (some ⟨w.heap.size, 0, none⟩) 2 2, .slice (some ⟨w.heap.size + 1, 0, none⟩) 2 2, .int .i64 1] from by simpa using Bk.new ((w.alloc (.cells #[.int .i64 2, .int .i64 0] 3)).alloc (.cells #[.int .u64 0, .int .u64 0] 33)) 25 #[.slice (some ⟨w.heap.size, 0, none⟩) 2 2, .slice (some ⟨w.heap.size + 1, 0, none⟩) 2 2, .int .i64 1])
  generalize (((w.alloc (.cells #[.int .i64 2, .int .i64 0] 3)).alloc (.cells #[.int .u64 0, .int .u64 0] 33)).alloc (.cells #[.slice (some ⟨w.heap.size, 0, none⟩) 2 2, .slice (some ⟨w.heap.size + 1, 0, none⟩) 2 2, .int .i64 1] 25)) = W3 at *
  have CFW : Hid (Cf W3 (some ⟨w.heap.size, 0, none⟩) 2 [2, 0]) := hide ⟨IsI.of_cells (m := 2) (zs := [2, 0]) (Nat.le_refl _) rfl (fun _ => KC.out.lt) (fun i hi => by
    have := bk6V (k := .i64) (l := [2, 0]) KC.out i hi
    rwa [addr_add]), by omega, fun x hx => by simp at hx; omega⟩
  have SIW : Hid (IsI .u64 W3 (some ⟨w.heap.size + 1, 0, none⟩) 2 [0, 0]) := hide (IsI.of_cells (m := 2) (zs := [0, 0]) (Nat.le_refl _) rfl (fun _ => KS.out.lt) (fun i hi => by
    have := bk6V (k := .u64) (l := [0, 0]) KS.out i hi
    rwa [addr_add]))
  clear KC KS
  obtain ⟨c0, c1, c2, cfz⟩ := bkm3V KF.out
  have T1 := hide (show Calls Try.prog 16 #[.agg #[.slice (some ⟨w.heap.size, 0, none⟩) 2 2, .slice (some ⟨w.heap.size + 1, 0, none⟩) 2 2, .int .i64 1], .int .i64 1] W3 fun e w' => e = .returned (.int .i64 9) ∧ Below W3.heap.size W3 w' from by
    have := ltail_any W3 _ 2 2 _ (some ⟨w.heap.size + 1, 0, none⟩) 2 2 1 CFW.out 1 (by omega)
    rwa [show tlN [2, 0] 1 + 0 = 9 by decide +kernel] at this)
  have T2 := hide (fun W (hW : Below W3.heap.size W3 W) => show Calls Try.prog 24 #[.agg #[.slice (some ⟨w.heap.size, 0, none⟩) 2 2, .slice (some ⟨w.heap.size + 1, 0, none⟩) 2 2, .int .i64 1], .int .i64 0] W fun e w' => e = .returned (.int .i64 16) ∧ Below W.heap.size W w' from by
    have := lclaim_any W _ 2 2 _ (some ⟨w.heap.size + 1, 0, none⟩) 2 2 1 (CFW.out.below hW) 0 (by omega)
    rwa [show tlN [2, 0] 2 + ((0 : Nat) : Int) * 11 + 0 = 16 by decide +kernel] at this)
  have T3 := hide (fun W (hW : Below W3.heap.size W3 W) => show Calls Try.prog 12 #[.agg #[.slice (some ⟨w.heap.size, 0, none⟩) 2 2, .slice (some ⟨w.heap.size + 1, 0, none⟩) 2 2, .int .i64 1]] W fun e w' => e = .returned (.int .i64 0) ∧ Below W.heap.size W w' from by
    have := check_any W _ 2 2 _ (some ⟨w.heap.size + 1, 0, none⟩) 2 2 _ 1 (CFW.out.below hW).1 (SIW.out.below hW) (by omega) (by omega)
    rwa [show chk [2, 0] [0, 0] 1 = 0 by decide +kernel] at this)
  clear CFW SIW
  go_wp2_with fail
  refine T1.out.mono ?_
  rintro e v1 ⟨rfl, hb1⟩
  obtain ⟨c0, c1, c2, cfz⟩ := bkm3V (KF.out.below hb1 KF.out.lt)
  go_wp2_with fail
  refine (T2.out v1 hb1).mono ?_
  rintro e v2 ⟨rfl, hb2⟩
  have hb12 := hb1.trans (hb2.mono hb1.size)
  obtain ⟨c0, c1, c2, cfz⟩ := bkm3V (KF.out.below hb12 KF.out.lt)
  go_wp2_with fail
  refine (T3.out v2 hb12).mono ?_
  rintro e v3 ⟨rfl, hb3⟩
  go_wp2
  go_ret
  exact ⟨rfl, HB.out.trans ((hb12.trans (hb3.mono hb12.size)).mono HB.out.size)⟩
end Go.Proofs.Ytcaencocmfkfaaa
