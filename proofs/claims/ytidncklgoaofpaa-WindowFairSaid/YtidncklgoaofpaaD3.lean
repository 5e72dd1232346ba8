/- Contracts: the drawn lists of draws (Codes.Draws), the example of chapter 2, Index. -/
import Derived.Test.YtidncklgoaofpaaD2
import Derived.Test.YtidncklgoaofpaaC
import Derived.Test.YtidncklgoaofpaaS
namespace Go.Proofs.Ytidncklgoaofpaa
open Go.RowKit
set_option linter.unusedVariables false

def drawsL (r : List Int) (n : Nat) : List Int := (List.range n).map fun (i : Nat) => codeV (r.drop i) ((i : Int) + 1)
theorem drawsL_len (r : List Int) (n : Nat) : (drawsL r n).length = n := by unfold drawsL; simp
theorem drawsL_step (r : List Int) (n : Nat) : drawsL r (n + 1) = drawsL r n ++ [codeV (r.drop n) ((n : Int) + 1)] := by
  unfold drawsL
  rw [List.range_succ, List.map_append]
  rfl
set_option maxHeartbeats 1000000 in
theorem draws_any (w : World) (g : Nat) (r : List Int) (v : Int) (n : Nat) (h : Cd w g r v) (hn : n ≤ 200) :
    Calls Try.prog 23 #[.pointer (some ⟨g, 0, none⟩), .int .i64 n] w fun e w' =>
      ∃ u, e = .returned u ∧ w'.ownsRow w.heap.size 3 1 u (drawsL r n).length ((drawsL r n).map (Value.int .i64)) ∧ Cd w' g (r.drop n) v ∧ w.grownBy w' (some g) := by
  obtain ⟨i0, hi, hz0, hz1, hz2⟩ := info_parts Try.int_inf
  have hgl := h.lt
  have H := hide h
  clear h
  go_enter Try.func23, Try.ntmps23
  go_wp2
  go_loopg [5, 6] n (fun m u i wr => ∃ k : Nat, m + k = n ∧ i = .int .i64 k ∧ Cd wr g (r.drop k) v ∧ wr.ownsRow w.heap.size 3 1 u (drawsL r k).length ((drawsL r k).map (Value.int .i64)) ∧ w.grownBy wr (some g))
  case atStart => exact ⟨0, by omega, rfl, H.out, World.ownsRow_nil _ _ _ _, World.grownBy.refl w _⟩
  case round =>
    obtain ⟨k, hk, rfl, hcd, hown, hg⟩ := hrel
    have hsz := hg.size
    have OW := hide hown
    have CD := hide hcd
    have hlen : (drawsL r k).length ≤ 200 := by rw [drawsL_len]; omega
    clear hown hcd
    by_cases hlt : k < n
    · have hst := hide (drawsL_step r k)
      have hdd := hide (show (r.drop k).tail = r.drop (k + 1) by rw [List.tail_drop])
      have hnx := codeNext wr g (r.drop k) v ((k : Int) + 1) CD.out (by omega) (by omega)
      rw [hdd.out] at hnx
      generalize codeV (r.drop k) ((k : Int) + 1) = x at hst hnx
      have HN := hide hnx
      clear hnx
      go_wp2_with (first
        | (go_at_call 22; refine HN.out.mono ?_; rintro e w2 ⟨rfl, hc2, hg2⟩; have O2 := hide (own_far OW.out hg2 hgl); have C2 := hide hc2; have hsz2 := hg2.size; clear hc2)
        | (at_builtin; refine wpList_pushI w2 (by rfl) _ _ _ (by rfl) w.heap.size 3 i0 .i64 8 Try.underlying22 hi hz0 hz1 hz2 _ _ (by rfl) O2.out _ (by rfl) ?_ ?_ ?_ ?_))
      · omega
      · omega
      · omega
      intro v' w3 hown3 hg3 _
      have hb3 : Below w.heap.size w2 w3 := own_below O2.out hg3 (Nat.le_refl _) (by omega)
      have C3 := hide (C2.out.belowB hb3 hgl)
      have O3 := hide hown3
      have hg4 : w.grownBy w3 (some g) := grownBy_bel (grownBy_trans hg hg2) hb3
      clear hown3 hg3 hg2
      go_wp2
      go_roundg (gk - 1)
      case rel => exact ⟨k + 1, by omega, by go_num, C3.out, by rw [hst.out]; simpa using O3.out, hg4⟩
      case measure => omega
    · go_wp2
      go_ret
      obtain rfl : k = n := by omega
      exact ⟨_, rfl, OW.out, CD.out, hg⟩

theorem draws_int (w : World) (g : Nat) (r : List Int) (v m : Int) (h : Cd w g r v) (hm : m ≤ 200) :
    Calls Try.prog 23 #[.pointer (some ⟨g, 0, none⟩), .int .i64 m] w fun e w' =>
      ∃ u, e = .returned u ∧ w'.ownsRow w.heap.size 3 1 u (drawsL r m.toNat).length ((drawsL r m.toNat).map (Value.int .i64)) ∧ Cd w' g (r.drop m.toNat) v ∧ w.grownBy w' (some g) := by
  by_cases h0 : m < 0
  · have e : m.toNat = 0 := by omega
    rw [e]
    have key : Calls Try.prog 23 #[.pointer (some ⟨g, 0, none⟩), .int .i64 m] w fun e w' => e = .returned (.slice none 0 0) ∧ w = w' := by
      clear e
      go_enter Try.func23, Try.ntmps23
      go_wp2
      refine wp_loop_rounds 1 ?_
      rw [rounds_succ]
      go_wp2
      go_ret
      exact ⟨rfl, rfl⟩
    refine key.mono fun e' w' hh => ?_
    obtain ⟨he, rfl⟩ := hh
    exact ⟨_, he, World.ownsRow_nil _ _ _ _, h, World.grownBy.refl w _⟩
  · obtain ⟨n, rfl⟩ := Int.eq_ofNat_of_zero_le (show 0 ≤ m by omega)
    rw [Int.toNat_natCast]
    exact draws_any w g r v n h (by omega)
theorem awake2_any (w : World) :
    Calls Try.prog 20 #[] w fun e w' => e = .returned (.bool true) ∧ Below w.heap.size w w' := by
  have t1 : (cnt 4 == 24) = true := by decide
  have t2 : ordr 3 [0, 0, 0] = [1, 2, 0] := by decide
  have hI : IsI .i64 (w.alloc (.cells #[.int .i64 0, .int .i64 0, .int .i64 0] 3)) (some ⟨w.heap.size, 0, none⟩) 3 [0, 0, 0] :=
    ⟨rfl, fun _ => ⟨_, rfl, by simp, cells_new w _ _⟩⟩
  have c1 := order_any _ 3 _ 3 3 [0, 0, 0] hI (by omega)
  rw [t2] at c1
  have C1 := hide c1
  have t3 : decide (([1, 2, 0] : List Int) = [1, 2, 0]) = true := by decide
  clear hI t2 c1
  go_enter Try.func20, Try.ntmps20
  go_wp2_with fail
  refine C1.out.mono ?_
  rintro e w1 ⟨A, c, rfl, hI1, hc1, hc2, hb1⟩
  have J1 := hide (hI1.alloc (.cells #[.int .i64 1, .int .i64 2, .int .i64 0] 3))
  have J2 : IsI .i64 (w1.alloc (.cells #[.int .i64 1, .int .i64 2, .int .i64 0] 3)) (some ⟨w1.heap.size, 0, none⟩) 3 [1, 2, 0] :=
    ⟨rfl, fun _ => ⟨_, rfl, by simp, cells_new w1 _ _⟩⟩
  have K2 := hide J2
  have hsz := hb1.size
  simp only [World.size_alloc] at hsz
  clear hI1 J2
  go_wp2_with fail
  refine (same_any _ _ _ _ _ _ _ _ _ J1.out K2.out (by simp)).mono ?_
  rintro e w2 ⟨rfl, q, rfl⟩
  go_wp2_with (go_at_call 29; refine (count_any _ _).mono ?_; rintro e w' ⟨rfl, rfl⟩)
  go_ret
  exact ⟨rfl, below_drewN ((((Below.refl _ _).alloc (Nat.le_refl _) _).trans (hb1.mono (by simp))).alloc (by omega) _) _⟩
end Go.Proofs.Ytidncklgoaofpaa
