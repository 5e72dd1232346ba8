/- The walk of DrawNumbers. -/
import Derived.Test.YtidncklgoaofpaaD4
import Derived.Test.YtidncklgoaofpaaT
namespace Go.Proofs.Ytidncklgoaofpaa
open Go.RowKit
set_option linter.unusedVariables false

theorem nthGo_app (m k : Nat) (l t : List Int) (h : m ≤ l.length) : nthGo m k (l ++ t) = nthGo m k l ++ t := by
  induction m generalizing k l with
  | zero => rfl
  | succ m ih => rw [nthGo, nthGo, List.set_append_left _ _ (by omega), ih _ _ (by simp; omega)]
theorem nthL_succ (n k : Nat) : nthL (n + 1) k = nthL n (k / (n + 1)) ++ [((k % (n + 1) : Nat) : Int)] := by
  unfold nthL
  rw [nthGo, List.replicate_succ', List.set_append_right _ _ (by simp)]
  simp only [List.length_replicate, Nat.sub_self, List.set_cons_zero]
  rw [nthGo_app _ _ _ _ (by simp)]
theorem ixGo_app (l : List Int) (i out : Nat) (d : Int) : ixGo i out (l ++ [d]) = (ixGo i out l).bind fun o => if d < 0 ∨ ((i + l.length : Nat) : Int) < d then none else some (o * (i + l.length + 1) + d.toNat) := by
  induction l generalizing i out with
  | nil => simp [ixGo]
  | cons x l ih =>
    rw [List.cons_append, ixGo, ixGo]
    split
    · rfl
    · rw [ih]
      have e : i + 1 + l.length = i + (x :: l).length := by simp; omega
      rw [e]
theorem ix_nth (n k : Nat) (h : k < fac n) : ixGo 0 0 (nthL n k) = some k := by
  induction n generalizing k with
  | zero =>
    have : fac 0 = 1 := rfl
    obtain rfl : k = 0 := by omega
    rfl
  | succ n ih =>
    have h1 : k / (n + 1) < fac n := by
      rw [Nat.div_lt_iff_lt_mul (by omega)]
      rw [fac] at h
      rwa [Nat.mul_comm]
    have h2 := Nat.mod_lt k (show 0 < n + 1 by omega)
    rw [nthL_succ, ixGo_app, ih _ h1, nthL_len]
    simp only [Option.bind_some, Nat.zero_add]
    rw [if_neg (by omega)]
    have h3 := Nat.div_add_mod k (n + 1)
    rw [Int.toNat_natCast, Nat.mul_comm]
    congr 1
theorem ixV_nth (n k : Nat) (hn : n ≤ 20) (h : (k : Int) < cnt n) : ixV (nthL n k) = some k := by
  unfold ixV
  rw [if_neg (by rw [nthL_len]; omega)]
  apply ix_nth
  unfold cnt at h
  rw [if_neg (by omega)] at h
  simpa using h
theorem draws_some (w : World) (g : Nat) (r : List Int) (v m : Int) (h : Cd w g r v) (hm : m ≤ 200) :
    Calls Try.prog 23 #[.pointer (some ⟨g, 0, none⟩), .int .i64 m] w fun e w' =>
      ∃ A n c L r', e = .returned (.slice A n c) ∧ IsI .i64 w' A n L ∧ n ≤ 200 ∧ n ≤ c ∧ Cd w' g r' v ∧ w.grownBy w' (some g) := by
  refine (draws_int w g r v m h hm).mono fun e w' hh => ?_
  obtain ⟨u, he, hown, hcd, hg⟩ := hh
  obtain ⟨A, c, rfl, h1, -⟩ := own_form hown
  exact ⟨A, _, c, _, _, he, IsI.of_own hown, by rw [drawsL_len]; omega, h1, hcd, hg⟩
theorem nth_val (n k : Int) (w : World) (h0 : 0 ≤ k) (h : k < cnt n) :
    Calls Try.prog 30 #[.int .i64 n, .int .i64 k] w fun e w' => ∃ m A c, e = .returned (.tuple #[.slice A m c, .bool true]) ∧ IsI .i64 w' A m (nthL n.toNat k.toNat) ∧ m ≤ 20 ∧ Below w.heap.size w w' := by
  obtain ⟨i, rfl⟩ := Int.eq_ofNat_of_zero_le h0
  obtain ⟨h1, h2⟩ := cnt_in _ _ h0 h
  obtain ⟨j, rfl⟩ := Int.eq_ofNat_of_zero_le h1
  refine (nth_yes j i w (by omega) h).mono fun e w' hh => ?_
  obtain ⟨he, hb, hbel⟩ := hh
  exact ⟨j, _, _, he, bkI_isI hb (nthL_len _ _), by omega, hbel⟩
theorem rnth_val (n k : Int) (w : World) (h0 : 0 ≤ k) (h : k < cnt n) :
    Calls Try.prog 28 #[.int .i64 n, .int .i64 k] w fun e w' => ∃ m A c, e = .returned (.tuple #[.slice A m c, .bool true]) ∧ IsI .i64 w' A m (nthL n.toNat k.toNat) ∧ m ≤ 20 ∧ Below w.heap.size w w' := by
  obtain ⟨i, rfl⟩ := Int.eq_ofNat_of_zero_le h0
  obtain ⟨h1, h2⟩ := cnt_in _ _ h0 h
  obtain ⟨j, rfl⟩ := Int.eq_ofNat_of_zero_le h1
  refine (rnth_yes j i w (by omega) h).mono fun e w' hh => ?_
  obtain ⟨he, hb, hbel⟩ := hh
  exact ⟨j, _, _, he, bkI_isI hb (nthL_len _ _), by omega, hbel⟩
theorem ixV_val (n k : Int) (h0 : 0 ≤ k) (h : k < cnt n) : ixV (nthL n.toNat k.toNat) = some k.toNat := by
  obtain ⟨h1, h2⟩ := cnt_in _ _ h0 h
  refine ixV_nth _ _ (by omega) ?_
  rwa [Int.toNat_of_nonneg h0, Int.toNat_of_nonneg h1]
theorem index_val (w : World) (A : Option Addr) (n c : Nat) (x y : Int) (h : IsI .i64 w A n (nthL x.toNat y.toNat)) (hn : n ≤ 20) (h0 : 0 ≤ y) (h1 : y < cnt x) :
    Calls Try.prog 31 #[.slice A n c] w fun e w' => e = .returned (.tuple #[.int .i64 y, .bool true]) ∧ w = w' := by
  have hh := index_any w A n c _ h (by omega)
  rw [ixV_val x y h0 h1] at hh
  have e : (((some y.toNat).getD 0 : Nat) : Int) = y := by simp; omega
  rw [e] at hh
  exact hh
set_option maxHeartbeats 4000000 in
set_option maxRecDepth 100000 in
theorem numbers_walk (a0 : Int) (a1 : Int) (a2 : Option Addr) (len2 cap2 : Nat) (z2 : List Int) (a3 : Option Addr) (len3 cap3 : Nat) (z3 : List Int) (w : World) (w0 : (Lit.int .i64 a0).wf = true) (w1 : (Lit.int .i64 a1).wf = true) (w2 : Row .i64 w a2 len2 cap2 z2) (w3 : Row .u8 w a3 len3 cap3 z3) :
    Calls Try.prog 8 #[.int .i64 a0, .int .i64 a1, .slice a2 len2 cap2, .slice a3 len3 cap3] w fun e w' => e = .returned (.bool true) ∧ Below w.heap.size w w' := by
  obtain ⟨hI1, hc1, hm1, hwf1⟩ := w2.isI
  obtain ⟨hI2, hc2, hm2, hwf2⟩ := w3.isI
  have b0 := bounds_i64 w0
  have b1 := bounds_i64 w1
  have hbd2 : ∀ x ∈ z3.take len3, 0 ≤ x ∧ x ≤ 255 := fun x hx => bounds_u8 (hwf2 x hx)
  have HB2 := hide hbd2
  have H1 := hide hI1
  have H2 := hide hI2
  clear hwf1 hwf2 w0 w1 w2 w3 hbd2 hI1 hI2
  generalize z2.take len2 = l1 at H1
  generalize z3.take len3 = l2 at H2 HB2
  by_cases h40 : 40 < len2
  · go_enter Try.func8, Try.ntmps8
    go_wp2_with (go_at_call 20; refine (awake2_any _).mono ?_; rintro e y ⟨rfl, hb⟩)
    go_ret
    exact ⟨rfl, hb⟩
  go_enter Try.func8, Try.ntmps8
  go_wp2_with fail
  refine (awake2_any _).mono ?_
  rintro e y1 ⟨rfl, hb1⟩
  have hs1 := hb1.size
  go_wp2_with fail
  refine (new_any _ _ _ _ _ 30 (H2.out.below hb1) HB2.out (by omega) hc2 hm2).mono ?_
  rintro e y2 ⟨rfl, hcd2, hb2'⟩
  have hb2 : Below w.heap.size w y2 := hb1.trans (hb2'.mono hs1)
  have C2 := hide hcd2
  clear hcd2 hb2'
  generalize l2.take 30 = r at C2
  have hkb := codeV_bd r 23 (by omega)
  go_wp2_with fail
  refine (codeNext _ _ _ _ _ C2.out (by omega) (by omega)).mono ?_
  rintro e y3 ⟨rfl, hcd3, hg3⟩
  generalize hk : codeV r 23 = kk at hkb
  clear hk
  have hb3 := below_grownBy hb2 hg3 (Nat.le_refl _) hs1
  have C3 := hide hcd3
  clear hcd3 hg3
  go_wp2_with fail
  all_goals
    refine (draws_some _ _ _ _ _ C3.out (by omega)).mono ?_
    rintro e y4 ⟨UA, un, UC, L, r', rfl, hL, hun, hunc, -, hg4⟩
    have hb4 := below_grownBy hb3 hg4 (Nat.le_refl _) hs1
    have hs4 := hb4.size
    have LL := hide hL
    have HB4 := hide hb4
    have H1' := hide (H1.out.below hb4)
    clear hL hb1 hb2 hb3 hb4 hg4 C2 C3
    go_wp2_with fail
    go_loopg [46] 2 (fun m i wr => ∃ k : Nat, m + k = 2 ∧ i = .int .i64 k ∧ Below w.heap.size w wr ∧ NI wr y4.heap.size 2 ∧ IsI .i64 wr UA un L)
    case atStart => exact ⟨0, by omega, rfl, HB4.out.alloc hs4 _, NI.new2 _ _ _ _ b0 (by omega), LL.out.alloc _⟩
    case round =>
      obtain ⟨k, hk, rfl, hbel, hni, hlr⟩ := hrel
      obtain ⟨gko, hgo⟩ : ∃ g, g = gk := ⟨_, rfl⟩
      subst hgo
      have hsr := hbel.size
      have HBr := hide hbel
      have NIr := hide hni
      have LR := hide hlr
      clear hlr hbel
      by_cases hlt : k < 2
      · obtain ⟨x, cx, hx1, hx2⟩ := hni.2 k hlt
        clear hni
        have hcb := cnt_bd x
        go_wp2_with (first
          | (go_at_call 29; refine (count_any _ _).mono ?_; rintro e w' ⟨rfl, rfl⟩)
          | (go_at_call 27; refine (rcount_any _ _).mono ?_; rintro e w' ⟨rfl, rfl⟩)
          | (go_at_call 15; refine (mod_any _ _ _ (by omega) (by omega) (by omega) (by omega)).mono ?_; rintro e w' ⟨rfl, rfl⟩))
        go_loopg [63] 3 (fun m i wq => ∃ j : Nat, m + j = 3 ∧ i = .int .i64 j ∧ Below w.heap.size w wq ∧ NI wq wr.heap.size 3 ∧ NI wq y4.heap.size 2 ∧ IsI .i64 wq UA un L)
        case atStart => exact ⟨0, by omega, rfl, HBr.out.alloc hsr _, NI.new3 _ _ _ _ _ (by omega) (by omega) (by omega), NIr.out.below ((Below.refl _ _).alloc (Nat.le_refl _) _), LR.out.alloc _⟩
        case round =>
          obtain ⟨j, hj, rfl, hbq, hniq, hnir, hlq⟩ := hrel
          have hsq := hbq.size
          have HBq := hide hbq
          have NIq := hide hniq
          have NIr := hide hnir
          have LQ := hide hlq
          clear hlq hbq hnir LR HBr
          by_cases hjt : j < 3
          · obtain ⟨y, cy, hy1, hy2⟩ := hniq.2 j hjt
            clear hniq
            by_cases hy : 0 ≤ y ∧ y < cnt x
            · go_wp2_with fail
              refine (nth_val _ _ _ hy.1 hy.2).mono ?_
              rintro e v1 ⟨p, PA, PC, rfl, hP, hp, hbv1⟩
              have P1 := hide hP
              clear hP
              go_wp2_with fail
              refine (rnth_val _ _ _ hy.1 hy.2).mono ?_
              rintro e v2 ⟨p2, PA2, PC2, rfl, hP2, hp2, hbv2⟩
              have P2 := hide hP2
              have P1' := hide (P1.out.below hbv2)
              have hb2 := hide (Below.trans hbv1 (hbv2.mono hbv1.size))
              clear hP2 P1 hbv1 hbv2
              have hb2' := hide (HBq.out.trans (hb2.out.mono hsq))
              have sm := same_any v2 PA p PC _ PA2 p2 PC2 _ P1'.out P2.out (by omega)
              rw [show decide (nthL x.toNat y.toNat = nthL x.toNat y.toNat) = true by simp] at sm
              have SM := hide sm
              have ix := fun q => index_val (v2.drewN q) PA p PC x y (P1'.out.drewN q) hp hy.1 hy.2
              have IX := hide ix
              clear sm ix
              go_wp2_with (first
                | (go_at_call 24; refine SM.out.mono ?_; rintro e w' ⟨rfl, q, rfl⟩)
                | (go_at_call 31; refine (IX.out _).mono ?_; rintro e w' ⟨rfl, rfl⟩))
              go_roundg (gk - 1)
              case rel => exact ⟨j + 1, by omega, by go_num, below_drewN hb2'.out _, (NIq.out.below hb2.out).drewN _, (NIr.out.below hb2.out).drewN _, (LQ.out.below hb2.out).drewN _⟩
              case measure => omega
            · go_wp2_with fail
              refine (nth_no _ _ _ (by omega)).mono ?_
              rintro e v1 ⟨rfl, rfl⟩
              go_wp2_with fail
              refine (rnth_no _ _ _ (by omega)).mono ?_
              rintro e v2 ⟨rfl, rfl⟩
              have sm := same_any wr none 0 0 [] none 0 0 [] (IsI.nil _ _ _) (IsI.nil _ _ _) (by omega)
              rw [show decide (([] : List Int) = []) = true by simp] at sm
              have SM := hide sm
              clear sm
              go_wp2_with (first
                | (go_at_call 24; refine SM.out.mono ?_; rintro e w' ⟨rfl, q, rfl⟩))
              go_roundg (gk - 1)
              case rel => exact ⟨j + 1, by omega, by go_num, below_drewN HBq.out _, NIq.out.drewN _, NIr.out.drewN _, LQ.out.drewN _⟩
              case measure => omega
          · go_wp2
            go_roundg (gko - 1)
            case rel => exact ⟨k + 1, by omega, by go_num, HBq.out, NIr.out, LQ.out⟩
            case measure => omega
      · go_wp2
        have HR1 := hide (H1.out.below HBr.out)
        have hns := NS.new2 (w := wr) 22 (c := cap2) (d := UC) (lim := 1000) HR1.out LR.out (by omega) (by omega)
        have HNS := hide hns
        clear hns
        go_loopg [107] 2 (fun m i wq => ∃ j : Nat, m + j = 2 ∧ i = .int .i64 j ∧ Below w.heap.size w wq ∧ NS wq wr.heap.size 2 1000)
        case atStart => exact ⟨0, by omega, rfl, HBr.out.alloc hsr _, HNS.out⟩
        case round =>
          obtain ⟨j, hj, rfl, hbq, hnq⟩ := hrel
          have HBq := hide hbq
          have NSq := hide hnq
          clear hbq
          by_cases hjt : j < 2
          · obtain ⟨SA, sn, sc, sl, cs, hsl, hsn⟩ := hnq.2 j hjt
            clear hnq
            have i1 := index_any wr SA sn sc sl hsl (by omega)
            have i2 := rindex_any wr SA sn sc sl hsl (by omega)
            have hbx : 0 ≤ (((ixV sl).getD 0 : Nat) : Int) := by omega
            generalize (((ixV sl).getD 0 : Nat) : Int) = z at i1 i2
            generalize (ixV sl).isSome = b at i1 i2
            have hz : (z != z) = false := by simp
            have hbb : (b != b) = false := by simp
            have I1 := hide i1
            have I2 := hide i2
            clear i1 i2
            go_wp2_with (first
                | (go_at_call 31; refine I1.out.mono ?_; rintro e w' ⟨rfl, rfl⟩)
                | (go_at_call 32; refine I2.out.mono ?_; rintro e w' ⟨rfl, rfl⟩))
            go_roundg (gk - 1)
            case rel => exact ⟨j + 1, by omega, by go_num, HBq.out, NSq.out⟩
            case measure => omega
          · go_wp2
            go_ret
            exact ⟨rfl, HBq.out⟩
end Go.Proofs.Ytidncklgoaofpaa
