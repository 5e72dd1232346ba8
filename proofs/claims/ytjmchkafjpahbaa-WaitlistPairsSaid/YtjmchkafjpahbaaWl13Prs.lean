/- The walk of WaitlistPairs. -/
import Derived.Test.YtjmchkafjpahbaaW13c
import Derived.Test.YtjmchkafjpahbaaE2
import Derived.Test.YtjmchkafjpahbaaWl13Mat
import Derived.Deep.DeepCutAuto
namespace Go.Proofs.Ytjmchkafjpahbaa
open Go.RowKit
set_option linter.unusedVariables false

theorem cellsP_get (L : List (Int × Int)) (i : Nat) (hi : i < L.length) : (cellsP L)[i * 2]? = some (.int .i64 (L.getD i (0, 0)).1) ∧ (cellsP L)[i * 2 + 1]? = some (.int .i64 (L.getD i (0, 0)).2) := by
  induction L generalizing i with
  | nil => simp at hi
  | cons p L ih =>
    have e : cellsP (p :: L) = .int .i64 p.1 :: .int .i64 p.2 :: cellsP L := by unfold cellsP; simp
    cases i with
    | zero => rw [e]; exact ⟨rfl, rfl⟩
    | succ i =>
      have := ih i (by simpa using hi)
      rw [e, show (i + 1) * 2 = i * 2 + 1 + 1 by omega]
      simpa using this
theorem prs_in (R S : List Int) (p : Int × Int) (h : p ∈ prs R S) : p.1 ∈ R ∧ p.2 ∈ S ∧ th p.1 ≠ th p.2 := by
  have h := List.mem_of_mem_take h
  unfold allP at h
  simp only [List.mem_flatMap] at h
  obtain ⟨r, hr, h⟩ := h
  unfold rowP at h
  simp only [List.mem_map, List.mem_filter] at h
  obtain ⟨s, ⟨hs, hne⟩, rfl⟩ := h
  exact ⟨hr, hs, by simpa using hne⟩
/-- Block g holds two slices of numbers. -/
def TwoM (w : World) (g : Nat) : Prop :=
  g < w.heap.size ∧ ∀ k, k < 2 → ∃ A n c l, w.cell? ⟨g, k, none⟩ = some (.slice A n c) ∧ IsI .i64 w A n l ∧ n ≤ 80 ∧ ∀ x ∈ l, x ≤ 9223372036854775807
theorem TwoM.below {w w' : World} {g : Nat} (h : TwoM w g) (hb : Below w.heap.size w w') : TwoM w' g :=
  ⟨Nat.lt_of_lt_of_le h.1 hb.size, fun k hk => by
    obtain ⟨A, n, c, l, h1, h2, h3⟩ := h.2 k hk
    exact ⟨A, n, c, l, by rw [hb.cell (p := ⟨g, k, none⟩) h.1]; exact h1, h2.below hb, h3⟩⟩
def Big (X : List Int) : Prop := X.length ≤ 80 ∧ ∀ x ∈ X, x ≤ 9223372036854775807
/-- What the cut says of x and y. -/
def XY (w : World) (x y : Value) (wc : World) : Prop :=
  ∃ A1 D1 X A2 D2 Y, x = .slice A1 (List.length X) D1 ∧ y = .slice A2 (List.length Y) D2 ∧ IsI .i64 wc A1 X.length X ∧ IsI .i64 wc A2 Y.length Y ∧ Big X ∧ Big Y ∧ Below w.heap.size w wc
theorem own_len {w : World} {b : Nat} {e : TypeId} {size n : Nat} {v : Value} {xs : List Value} (h : w.ownsRow b e size v n xs) : xs.length = n * size := h.1
set_option maxHeartbeats 4000000 in
set_option maxRecDepth 100000 in
theorem pairs_walk (a0 : Option Addr) (len0 cap0 : Nat) (z0 : List Int) (a1 : Option Addr) (len1 cap1 : Nat) (z1 : List Int) (a2 : Option Addr) (len2 cap2 : Nat) (z2 : List Int) (a3 : Bool) (w : World)
    (w0 : Row .u8 w a0 len0 cap0 z0) (w1 : Row .u8 w a1 len1 cap1 z1) (w2 : Row .i64 w a2 len2 cap2 z2) :
    Calls Try.prog 5 #[.slice a0 len0 cap0, .slice a1 len1 cap1, .slice a2 len2 cap2, .bool a3] w fun e w' => e = .returned (.bool true) ∧ Below w.heap.size w w' := by
  obtain ⟨hI0, hc0, hm0, hwf0⟩ := w0.isI
  obtain ⟨hI1, hc1, hm1, hwf1⟩ := w1.isI
  obtain ⟨hI2, hc2, hm2, hwf2⟩ := w2.isI
  have hbd0 : ∀ x ∈ z0.take len0, 0 ≤ x ∧ x ≤ 255 := fun x hx => bounds_u8 (hwf0 x hx)
  have hbd1 : ∀ x ∈ z1.take len1, 0 ≤ x ∧ x ≤ 255 := fun x hx => bounds_u8 (hwf1 x hx)
  have hbd2 : ∀ x ∈ z2.take len2, x ≤ 9223372036854775807 := fun x hx => (bounds_i64 (hwf2 x hx)).2
  clear hwf0 hwf1 hwf2 w0 w1 w2
  by_cases h40 : 40 < len2
  · go_enter Try.func5, Try.ntmps5
    go_wp2_with (first | (go_at_call 8; refine (awake_any _).mono ?_; rintro e w' ⟨rfl, rfl⟩))
    go_ret
    exact ⟨rfl, Below.refl _ _⟩
  have rb : ∀ l : List Int, (recs l).length ≤ 24 ∧ ∀ x ∈ recs l, x ≤ 9223372036854775807 := by
    intro l
    unfold recs
    refine ⟨by simp; omega, fun x hx => ?_⟩
    simp only [List.mem_map] at hx
    obtain ⟨y, hy, rfl⟩ := hx
    have := Int.emod_lt_of_pos y (show (0 : Int) < 26 by decide)
    omega
  obtain ⟨r1, r2⟩ := rb (z0.take len0)
  obtain ⟨s1, s2⟩ := rb (z1.take len1)
  have HB0 := hide hbd0
  have HB1 := hide hbd1
  have HB2 := hide hbd2
  have H0 := hide hI0
  have H1 := hide hI1
  have H2 := hide hI2
  have R2 := hide r2
  have S2 := hide s2
  clear hbd0 hbd1 hbd2 hI0 hI1 hI2 r2 s2 rb
  generalize hR : recs (z0.take len0) = R at r1 R2
  generalize hS : recs (z1.take len1) = S at s1 S2
  have HR := hide hR
  have HS := hide hS
  clear hR hS
  have c1 := records_any w a0 len0 cap0 (z0.take len0) H0.out HB0.out hc0 hm0
  have c2 := fun (y : World) (hy : Below w.heap.size w y) => records_any y a1 len1 cap1 (z1.take len1) (H1.out.below hy) HB1.out hc1 hm1
  rw [HR.out] at c1
  rw [HS.out] at c2
  have C1 := hide c1
  have C2 := hide c2
  clear c1 c2
  obtain ⟨i0, hi, hz0, hz1, hz2⟩ := info_parts Try.int_info
  go_enter Try.func5, Try.ntmps5
  go_wp2_with fail
  refine (awake_any _).mono ?_
  rintro e w' ⟨rfl, rfl⟩
  go_wp2_with fail
  refine C1.out.mono ?_
  rintro e x1 ⟨v1, rfl, hown1, hb1⟩
  go_wp2_with fail
  refine (C2.out x1 hb1).mono ?_
  rintro e x2 ⟨v2, rfl, hown2, hb2⟩
  have hdis : Dis v2 v1 := by
    rcases hv : v2.ownBlock with _ | k
    · exact .inl hv
    · right
      rw [hv]
      intro e
      have h1 := (hown2.lt k hv).1
      have h2 := (hown1.lt k e.symm).2
      omega
  have hown1' := own_bel hown1 hb2
  have hb : Below w.heap.size w x2 := hb1.trans (hb2.mono hb1.size)
  have hszx := hb.size
  have hszy := hb2.size
  have hsz1 := hb1.size
  have O1 := hide (own_base hown1' (Nat.le_succ _))
  have O2 := hide (own_base hown2 (show w.heap.size ≤ x1.heap.size + 1 by omega))
  have HD := hide hdis
  clear hown1 hown2 hown1' hdis hb1 hb2
  go_upto_if 25 with (fail)
  go_cut [9, 10] (fun x y wc => XY w x y wc)
  case first =>
    cases a3
    · obtain ⟨A1, D1, rfl, -⟩ := own_form O1.out
      obtain ⟨A2, D2, rfl, -⟩ := own_form O2.out
      go_wp2
      go_meet
      exact ⟨A1, D1, R, A2, D2, S, rfl, rfl, IsI.of_own O1.out, IsI.of_own O2.out, ⟨by omega, R2.out⟩, ⟨by omega, S2.out⟩, hb⟩
    · go_wp2
      go_loopg [9] (80 - R.length) (fun m v wr => ∃ X : List Int, m + X.length = 80 ∧ X.length ≤ 78 ∧ Big X ∧ wr.ownsRow w.heap.size 3 1 v X.length (X.map (Value.int .i64)) ∧ wr.ownsRow w.heap.size 3 1 v2 S.length (S.map (Value.int .i64)) ∧ Dis v2 v ∧ Below w.heap.size w wr)
      case atStart => exact ⟨R, by omega, by omega, ⟨by omega, R2.out⟩, O1.out, O2.out, HD.out, hb⟩
      case round =>
        obtain ⟨X, hX, hX2, hX3, ho1, ho2, hd, hbel⟩ := hrel
        have hsz := hbel.size
        obtain ⟨A1, D1, rfl, -⟩ := own_form ho1
        have P1 := hide ho1
        have P2 := hide ho2
        have PB := hide hX3
        have PD := hide hd
        have P3 := hide (IsI.of_own ho1)
        clear ho1 ho2 hX3 hd
        by_cases hx0 : X.length < 40 ∧ 0 < X.length
        · obtain ⟨q1, q2⟩ := hx0
          go_wp2_with ((at_builtin; refine wpList_cat wr (by rfl) _ _ _ (by rfl) w.heap.size 3 i0 _ 1 8 Try.underlying27 hi hz0 hz1 hz2 (by rfl) (by decide) _ _ _ (by rfl) P1.out _ _ _ _ (by rfl) P3.out ?_ ?_ ?_ ?_ ?_))
          · simp [Value.oneCell']
          · omega
          · omega
          · omega
          intro v' w3 hown3 hg3 hp3
          have hb3 : Below w.heap.size w w3 := hbel.trans (own_below P1.out hg3 (Nat.le_refl _) hsz)
          have Q1 : w3.ownsRow w.heap.size 3 1 v' (X ++ X).length ((X ++ X).map (Value.int .i64)) := by simpa using hown3
          have Q2 := own_dis P2.out hg3 PD.out
          have Q3 := dis_next P2.out PD.out hp3
          have QB : Big (X ++ X) := ⟨by simp; omega, fun x hx => PB.out.2 x (by simpa using hx)⟩
          have Q4 := hide Q1
          have Q5 := hide Q2
          have Q6 := hide Q3
          have Q7 := hide QB
          clear hown3 hg3 hp3 Q1 Q2 Q3 QB
          go_wp2
          go_roundg (gk - X.length)
          case rel => exact ⟨X ++ X, by simp; omega, by simp; omega, Q7.out, Q4.out, Q5.out, Q6.out, hb3⟩
          case measure => omega
        · by_cases hx1 : X.length < 40
          · have hx2 : ¬ 0 < X.length := by omega
            clear hx0
            go_wp2
            obtain ⟨X0, hX0⟩ : ∃ X0 : List Int, X0 = X := ⟨_, rfl⟩
            obtain ⟨AX, hAX⟩ : ∃ AX, AX = A1 := ⟨_, rfl⟩
            obtain ⟨DX, hDX⟩ : ∃ DX, DX = D1 := ⟨_, rfl⟩
            subst hX0 hAX hDX
            have PB0 := PB
            have LX := hX2
            go_loopg [10] (80 - S.length) (fun m v wr => ∃ X : List Int, m + X.length = 80 ∧ X.length ≤ 78 ∧ Big X ∧ wr.ownsRow w.heap.size 3 1 v X.length (X.map (Value.int .i64)) ∧ wr.ownsRow w.heap.size 3 1 (Value.slice AX X0.length DX) X0.length (X0.map (Value.int .i64)) ∧ Dis (Value.slice AX X0.length DX) v ∧ Below w.heap.size w wr)
            case atStart => exact ⟨S, by omega, by omega, ⟨by omega, S2.out⟩, P2.out, P1.out, PD.out.symm, hbel⟩
            case round =>
              obtain ⟨X, hX, hX2, hX3, ho1, ho2, hd, hbel⟩ := hrel
              have hsz := hbel.size
              obtain ⟨A1, D1, rfl, -⟩ := own_form ho1
              have P1 := hide ho1
              have P2 := hide ho2
              have PB := hide hX3
              have PD := hide hd
              have P3 := hide (IsI.of_own ho1)
              clear ho1 ho2 hX3 hd
              by_cases hx0 : X.length < 40 ∧ 0 < X.length
              · obtain ⟨q1, q2⟩ := hx0
                go_wp2_with ((at_builtin; refine wpList_cat wr (by rfl) _ _ _ (by rfl) w.heap.size 3 i0 _ 1 8 Try.underlying27 hi hz0 hz1 hz2 (by rfl) (by decide) _ _ _ (by rfl) P1.out _ _ _ _ (by rfl) P3.out ?_ ?_ ?_ ?_ ?_))
                · simp [Value.oneCell']
                · omega
                · omega
                · omega
                intro v' w3 hown3 hg3 hp3
                have hb3 : Below w.heap.size w w3 := hbel.trans (own_below P1.out hg3 (Nat.le_refl _) hsz)
                have Q1 : w3.ownsRow w.heap.size 3 1 v' (X ++ X).length ((X ++ X).map (Value.int .i64)) := by simpa using hown3
                have Q2 := own_dis P2.out hg3 PD.out
                have Q3 := dis_next P2.out PD.out hp3
                have QB : Big (X ++ X) := ⟨by simp; omega, fun x hx => PB.out.2 x (by simpa using hx)⟩
                have Q4 := hide Q1
                have Q5 := hide Q2
                have Q6 := hide Q3
                have Q7 := hide QB
                clear hown3 hg3 hp3 Q1 Q2 Q3 QB
                go_wp2
                go_roundg (gk - X.length)
                case rel => exact ⟨X ++ X, by simp; omega, by simp; omega, Q7.out, Q4.out, Q5.out, Q6.out, hb3⟩
                case measure => omega
              · by_cases hx1 : X.length < 40
                · have hx2 : ¬ 0 < X.length := by omega
                  clear hx0
                  go_wp2
                  go_meet
                  obtain ⟨A2, D2, e2, -⟩ := own_form P1.out
                  exact ⟨AX, DX, X0, A1, D1, X, rfl, rfl, IsI.of_own P2.out, IsI.of_own P1.out, PB0.out, PB.out, hbel⟩
                · clear hx0
                  go_wp2
                  go_meet
                  obtain ⟨A2, D2, e2, -⟩ := own_form P1.out
                  exact ⟨AX, DX, X0, A1, D1, X, rfl, rfl, IsI.of_own P2.out, IsI.of_own P1.out, PB0.out, PB.out, hbel⟩
          · clear hx0
            go_wp2
            obtain ⟨X0, hX0⟩ : ∃ X0 : List Int, X0 = X := ⟨_, rfl⟩
            obtain ⟨AX, hAX⟩ : ∃ AX, AX = A1 := ⟨_, rfl⟩
            obtain ⟨DX, hDX⟩ : ∃ DX, DX = D1 := ⟨_, rfl⟩
            subst hX0 hAX hDX
            have PB0 := PB
            have LX := hX2
            go_loopg [10] (80 - S.length) (fun m v wr => ∃ X : List Int, m + X.length = 80 ∧ X.length ≤ 78 ∧ Big X ∧ wr.ownsRow w.heap.size 3 1 v X.length (X.map (Value.int .i64)) ∧ wr.ownsRow w.heap.size 3 1 (Value.slice AX X0.length DX) X0.length (X0.map (Value.int .i64)) ∧ Dis (Value.slice AX X0.length DX) v ∧ Below w.heap.size w wr)
            case atStart => exact ⟨S, by omega, by omega, ⟨by omega, S2.out⟩, P2.out, P1.out, PD.out.symm, hbel⟩
            case round =>
              obtain ⟨X, hX, hX2, hX3, ho1, ho2, hd, hbel⟩ := hrel
              have hsz := hbel.size
              obtain ⟨A1, D1, rfl, -⟩ := own_form ho1
              have P1 := hide ho1
              have P2 := hide ho2
              have PB := hide hX3
              have PD := hide hd
              have P3 := hide (IsI.of_own ho1)
              clear ho1 ho2 hX3 hd
              by_cases hx0 : X.length < 40 ∧ 0 < X.length
              · obtain ⟨q1, q2⟩ := hx0
                go_wp2_with ((at_builtin; refine wpList_cat wr (by rfl) _ _ _ (by rfl) w.heap.size 3 i0 _ 1 8 Try.underlying27 hi hz0 hz1 hz2 (by rfl) (by decide) _ _ _ (by rfl) P1.out _ _ _ _ (by rfl) P3.out ?_ ?_ ?_ ?_ ?_))
                · simp [Value.oneCell']
                · omega
                · omega
                · omega
                intro v' w3 hown3 hg3 hp3
                have hb3 : Below w.heap.size w w3 := hbel.trans (own_below P1.out hg3 (Nat.le_refl _) hsz)
                have Q1 : w3.ownsRow w.heap.size 3 1 v' (X ++ X).length ((X ++ X).map (Value.int .i64)) := by simpa using hown3
                have Q2 := own_dis P2.out hg3 PD.out
                have Q3 := dis_next P2.out PD.out hp3
                have QB : Big (X ++ X) := ⟨by simp; omega, fun x hx => PB.out.2 x (by simpa using hx)⟩
                have Q4 := hide Q1
                have Q5 := hide Q2
                have Q6 := hide Q3
                have Q7 := hide QB
                clear hown3 hg3 hp3 Q1 Q2 Q3 QB
                go_wp2
                go_roundg (gk - X.length)
                case rel => exact ⟨X ++ X, by simp; omega, by simp; omega, Q7.out, Q4.out, Q5.out, Q6.out, hb3⟩
                case measure => omega
              · by_cases hx1 : X.length < 40
                · have hx2 : ¬ 0 < X.length := by omega
                  clear hx0
                  go_wp2
                  go_meet
                  obtain ⟨A2, D2, e2, -⟩ := own_form P1.out
                  exact ⟨AX, DX, X0, A1, D1, X, rfl, rfl, IsI.of_own P2.out, IsI.of_own P1.out, PB0.out, PB.out, hbel⟩
                · clear hx0
                  go_wp2
                  go_meet
                  obtain ⟨A2, D2, e2, -⟩ := own_form P1.out
                  exact ⟨AX, DX, X0, A1, D1, X, rfl, rfl, IsI.of_own P2.out, IsI.of_own P1.out, PB0.out, PB.out, hbel⟩
  case rest =>
    obtain ⟨A1, D1, X, A2, D2, Y, rfl, rfl, hIX, hIY, hBX, hBY, hbc⟩ := hcut
    have eqp := eq_pair
    have hszc := hbc.size
    have hI2 := H2.out.below hbc
    obtain ⟨wo, hwo, two, hix, hbo⟩ : ∃ wo : World, wo = wc.alloc (.cells #[.slice A2 Y.length D2, .slice a2 len2 cap2] 27) ∧ TwoM wo wc.heap.size ∧ IsI .i64 wo A1 X.length X ∧ Below w.heap.size w wo := by
      refine ⟨_, rfl, ⟨by simp, fun k hk => ?_⟩, hIX.alloc _, hbc.alloc hszc _⟩
      have hk' : k = 0 ∨ k = 1 := by omega
      rcases hk' with rfl | rfl
      · exact ⟨A2, _, D2, Y, (Bk.new _ _ _).cell 0, hIY.alloc _, hBY.1, hBY.2⟩
      · exact ⟨a2, _, cap2, z2.take len2, (Bk.new _ _ _).cell 1, hI2.alloc _, by omega, HB2.out⟩
    have TW := hide two
    have HX := hide hix
    have BX := hide hBX
    have hX80 := hBX.1
    clear two hix hI2 hIX hIY hBX hBY hbc O1 O2 HD C1 C2 H0 H1 H2 HB0 HB1
    go_wp2_with fail
    rw [← hwo]
    clear hwo
    go_loopg [52] 2 (fun m i wr => ∃ k : Nat, m + k = 2 ∧ i = .int .i64 k ∧ Below w.heap.size w wr ∧ TwoM wr wc.heap.size ∧ IsI .i64 wr A1 X.length X)
    case atStart => exact ⟨0, rfl, rfl, hbo, TW.out, HX.out⟩
    case round =>
      obtain ⟨gko, hgo⟩ : ∃ g : Nat, g = gk := ⟨_, rfl⟩
      subst hgo
      obtain ⟨k, hk, rfl, hbel, htw, hix⟩ := hrel
      have hsz := hbel.size
      clear TW HX hbo
      by_cases hk2 : k < 2
      · obtain ⟨B, n, c, l, hcell, hI, hn, hbd⟩ := htw.2 k hk2
        have T1 := hide htw
        have I1 := hide hix
        have I2 := hide hI
        have HBD := hide hbd
        clear htw hix hI hbd
        go_wp2_with fail
        refine (pairs_any _ _ _ _ _ _ _ _ _ I1.out I2.out BX.out.2 HBD.out (by omega) (by omega)).mono ?_
        rintro e y1 ⟨v1, rfl, hown1, hb1⟩
        go_wp2_with fail
        refine (rpairs_any _ _ _ _ _ _ _ _ _ (I1.out.below hb1) (I2.out.below hb1) BX.out.2 HBD.out (by omega) (by omega)).mono ?_
        rintro e y2 ⟨v2, rfl, hown2, hb2⟩
        have hbe : Below wr.heap.size wr y2 := hb1.trans (hb2.mono hb1.size)
        have hown1' := own_bel hown1 hb2
        have hin := prs_in X l
        have HIN := hide hin
        generalize hL : prs X l = L at hown1' hown2
        have HL := hide hL
        have hLn : L.length ≤ 1000 := by rw [← hL]; unfold prs; exact List.length_take_le _ _
        obtain ⟨E1, F1, rfl, -⟩ := own_form hown1'
        obtain ⟨E2, F2, rfl, -⟩ := own_form hown2
        have O1 := hide hown1'
        have O2 := hide hown2
        have hby2 : Below w.heap.size w y2 := hbel.trans (hbe.mono hsz)
        have T2 := hide (T1.out.below hbe)
        have I3 := hide (I1.out.below hbe)
        clear hown1 hown1' hown2 hin hL hb1 hb2 T1 I1 I2
        have hq : ((L.length : Int) != L.length) = false := by simp
        go_wp2_with fail
        go_loopg [69] L.length (fun m i wq => ∃ j : Nat, m + j = L.length ∧ i = .int .i64 j ∧ ∃ q, wq = y2.drewN q)
        case atStart => exact ⟨0, by omega, rfl, 0, rfl⟩
        case round =>
          obtain ⟨j, hj, rfl, q, rfl⟩ := hrel
          by_cases hj2 : j < L.length
          · obtain ⟨g1, c1, hv1, _, _, hc1⟩ := own_at O1.out (by omega)
            obtain ⟨g2, c2, hv2, _, _, hc2⟩ := own_at O2.out (by omega)
            obtain rfl : E1 = some ⟨g1, 0, none⟩ := by injection hv1
            obtain rfl : E2 = some ⟨g2, 0, none⟩ := by injection hv2
            obtain ⟨p1, p2⟩ := cellsP_get L j hj2
            have k1 := hc1 _ _ p1
            have k2 := hc1 _ _ p2
            have k3 := hc2 _ _ p1
            have k4 := hc2 _ _ p2
            obtain ⟨n1, n2, n3⟩ := HIN.out (L.getD j (0, 0)) (by rw [HL.out, List.getD, List.getElem?_eq_getElem hj2]; exact List.getElem_mem hj2)
            have n4 := BX.out.2 _ n1
            have n5 := HBD.out _ n2
            generalize (L.getD j (0, 0)).1 = s at *
            generalize (L.getD j (0, 0)).2 = t at *
            have n6 : (th s == th t) = false := by simpa using n3
            clear n1 n2 n3 hc1 hc2 p1 p2 hv1 hv2
            go_wp2
            go_quiet ((go_at_call 11; first | exact q_left (thread_any _ _ (by omega)) | exact q_add (thread_any _ _ (by omega))))
            go_wp2
            go_roundg (gk - 1)
            case rel => exact ⟨j + 1, by omega, by go_num, _, rfl⟩
            case measure => omega
          · go_wp2
            go_roundg (gko - 1)
            case rel => exact ⟨k + 1, by omega, by go_num, below_drewN hby2 _, T2.out.below (below_drewN (Below.refl _ _) _), I3.out.drewN _⟩
            case measure => omega
      · clear htw hix
        go_wp2
        go_ret
        exact ⟨rfl, hbel⟩
end Go.Proofs.Ytjmchkafjpahbaa
