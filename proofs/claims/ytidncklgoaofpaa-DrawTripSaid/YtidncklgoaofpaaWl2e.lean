/- The walks of DrawReads and DrawTrip. -/
import Derived.Test.YtidncklgoaofpaaD8
import Derived.Test.YtidncklgoaofpaaT
namespace Go.Proofs.Ytidncklgoaofpaa
open Go.RowKit
set_option linter.unusedVariables false

set_option maxHeartbeats 4000000 in
set_option maxRecDepth 100000 in
theorem reads_walk (a0 : Option Addr) (len0 cap0 : Nat) (z0 : List Int) (a1 : Option Addr) (len1 cap1 : Nat) (z1 : List Int) (a2 : Int) (a3 : Int) (w : World) (w0 : Row .i64 w a0 len0 cap0 z0) (w1 : Row .u8 w a1 len1 cap1 z1) (w2 : (Lit.int .i64 a2).wf = true) (w3 : (Lit.int .i64 a3).wf = true) :
    Calls Try.prog 9 #[.slice a0 len0 cap0, .slice a1 len1 cap1, .int .i64 a2, .int .i64 a3] w fun e w' => e = .returned (.bool true) ∧ Below w.heap.size w w' := by
  obtain ⟨hI0, hc0, hm0, -⟩ := w0.isI
  obtain ⟨hI1, hc1, hm1, hwf1⟩ := w1.isI
  have b2 := bounds_i64 w2
  have b3 := bounds_i64 w3
  have hbd1 : ∀ x ∈ z1.take len1, 0 ≤ x ∧ x ≤ 255 := fun x hx => bounds_u8 (hwf1 x hx)
  have HB1 := hide hbd1
  have H0 := hide hI0
  have H1 := hide hI1
  clear hwf1 w0 w1 w2 w3 hbd1 hI0 hI1
  generalize z0.take len0 = l0 at H0
  generalize z1.take len1 = l1 at H1 HB1
  by_cases h40 : 40 < len0
  · go_enter Try.func9, Try.ntmps9
    go_wp2_with (go_at_call 20; refine (awake2_any _).mono ?_; rintro e y ⟨rfl, hb⟩)
    go_ret
    exact ⟨rfl, hb⟩
  have d40 : decide ((40 : Int) < (len0 : Int)) = false := by simp; omega
  obtain ⟨i0, hi, hz0, hz1, hz2⟩ := info_parts Try.int_inf
  go_enter Try.func9, Try.ntmps9
  go_wp2_with fail
  refine (awake2_any _).mono ?_
  rintro e y1 ⟨rfl, hb1⟩
  have hs1 := hb1.size
  go_wp2_with fail
  refine (new_any _ _ _ _ _ 30 (H1.out.below hb1) HB1.out (by omega) hc1 hm1).mono ?_
  rintro e y2 ⟨rfl, hcd2, hb2'⟩
  have hb2 : Below w.heap.size w y2 := hb1.trans (hb2'.mono hs1)
  have C2 := hide hcd2
  clear hcd2 hb2' d40
  generalize l1.take 30 = r at C2
  have hkb := codeV_bd r 20 (by omega)
  go_wp2_with fail
  refine (codeNext _ _ _ _ _ C2.out (by omega) (by omega)).mono ?_
  rintro e y3 ⟨rfl, hcd3, hg3⟩
  obtain ⟨k, hk⟩ := Int.eq_ofNat_of_zero_le (show 0 ≤ codeV r 20 by omega)
  rw [hk] at hkb ⊢
  clear hk
  have hb3 := below_grownBy hb2 hg3 (Nat.le_refl _) hs1
  have C3 := hide hcd3
  clear hcd3 hg3
  obtain ⟨n, hn⟩ : ∃ n : Nat, (n : Int) = 1 + (k : Int) := ⟨1 + k, by omega⟩
  have hnk : 1 + (k : Int) = (n : Int) := by omega
  have hn1 : 1 ≤ n := by omega
  have hn20 : n ≤ 20 := by omega
  clear hn
  have dr := fun W (h : Cd W y1.heap.size r.tail 0) => draws_any W y1.heap.size r.tail 0 n h (by omega)
  have DR := hide dr
  clear dr
  go_wp2_with fail
  clear hnk
  refine (DR.out _ C3.out).mono ?_
  rintro e y4 ⟨u, rfl, hown4, hcd4, hg4⟩
  have hb4 := below_grownBy hb3 hg4 (Nat.le_refl _) hs1
  obtain ⟨UA, UC, rfl, -⟩ := own_form hown4
  have L2 := hide (IsI.of_own hown4)
  have hll : (drawsL r.tail n).length ≤ 100 := by rw [drawsL_len]; omega
  have hs4 := hb4.size
  clear hown4 hcd4 hg4 C3
  generalize drawsL r.tail n = L at L2 hll
  go_wp2_with fail
  refine (rorder_bk _ n _ _ _ _ L2.out hn1 hn20 (by omega)).mono ?_
  rintro e y5 ⟨rfl, hbk5, hb5⟩
  have hlo : (ord L (n - 1) (idl n)).length = n := by rw [ord_len, idl_len]
  have HI5 := hide (bkI_isI hbk5 hlo)
  have HLO := hide hlo
  have hs5 := hb5.size
  have HB5 := hide (hb4.trans (hb5.mono hs4))
  clear hbk5 hlo hb5
  generalize ord L (n - 1) (idl n) = O at HI5 HLO
  have hr5 : Rds y5 (some ⟨y4.heap.size, 0, none⟩) n 1 (O.map (Value.int .i64)) := HI5.out
  have HR5 := hide hr5
  clear hr5
  go_wp2_with (at_builtin; refine wpList_cat y5 (by rfl) _ _ _ (by rfl) y5.heap.size 3 i0 (.int .i64 0) 1 8 Try.underlying22 hi hz0 hz1 hz2 (by decide) (by decide) _ 0 [] (by rfl) (World.ownsRow_nil _ _ _ _) _ n _ _ (by rfl) HR5.out ?_ ?_ ?_ ?_ ?_)
  · intro u hu
    obtain ⟨x, _, rfl⟩ := List.mem_map.1 hu
    rfl
  · omega
  · omega
  · omega
  rintro v6 y6 hown6 hg6 -
  obtain ⟨MA, MC, rfl, hmc, hmx, hmA, hmN⟩ := own_form hown6
  cases MA with
  | none => exact absurd (hmN rfl) (by omega)
  | some ad =>
    have hm0 : ∃ g, ad = ⟨g, 0, none⟩ := by
      rcases hown6.2 with ⟨h, _⟩ | ⟨g, _, _, h, _⟩
      · cases h
      · injection h with h _ _
        injection h with h
        exact ⟨g, h⟩
    obtain ⟨g6, rfl⟩ := hm0
    have hb6 : Below w.heap.size w y6 := HB5.out.trans (below_of_grownBy hg6 (by omega) (fun g h => by cases h))
    have hgw : y5.heap.size ≤ g6 := (hmA _ rfl).1
    have hg6l : g6 < y6.heap.size := (hmA _ rfl).2
    have md2 := fun W => mod_any a2 (n : Int) W (by omega) (by omega) b2.1 b2.2
    have md3 := fun W => mod_any a3 ((n : Int) + 1) W (by omega) (by omega) b3.1 b3.2
    obtain ⟨p, hp⟩ := Int.eq_ofNat_of_zero_le (Int.emod_nonneg a2 (show (n : Int) ≠ 0 by omega))
    have hpn := Int.emod_lt_of_pos a2 (show (0 : Int) < (n : Int) by omega)
    rw [hp] at md2 hpn
    clear hp
    generalize a3 % ((n : Int) + 1) = q at md3
    have MD2 := hide md2
    have MD3 := hide md3
    have hpn' : p < n := by omega
    have cp : y6.cell? ⟨g6, p, none⟩ = some (.int .i64 (O.getD p 0)) := by
      rw [hown6.cellAt p (by omega), List.getElem?_map, List.getElem?_eq_getElem (by rw [HLO.out]; exact hpn')]
      simp [List.getD, List.getElem?_eq_getElem (show p < O.length by rw [HLO.out]; exact hpn')]
    have fp := hown6.frozenAt p
    have hst := (hown6.stored p (.int .i64 q)).1
    rw [← List.map_set] at hst
    have HST := hide (IsI.of_own hst)
    have hle6 := hg6.size
    have hr6 : IsI .i64 (y6.setCell ⟨g6, p, none⟩ (.int .i64 q)) a0 len0 l0 := H0.out.below (hb6.setCell (show w.heap.size ≤ g6 by omega) _)
    have HR6 := hide hr6
    have hr7 : IsI .i64 (y6.setCell ⟨g6, p, none⟩ (.int .i64 q)) (some ⟨y4.heap.size, 0, none⟩) n O := by
      refine Rds.far (Rds.grown HI5.out hg6 (fun ad _ h => by cases h)) (p := ⟨g6, p, none⟩) ?_ _
      intro ad e
      injection e with e
      subst e
      obtain ⟨_, e1, hlt, _⟩ := HI5.out.at_ (i := 0) (by omega)
      injection e1 with e1
      subst e1
      exact Nat.ne_of_lt (Nat.lt_of_lt_of_le hlt hgw)
    have HR7 := hide hr7
    have HB6 := hide (hb6.setCell (show w.heap.size ≤ g6 by omega) (.int .i64 q) (p := ⟨g6, p, none⟩))
    have hsy : w.heap.size ≤ y6.heap.size := hb6.size
    generalize O.getD p 0 = xo at cp
    clear md2 md3 hown6 hst hr6 hr7 hg6 hmN hmA hb1 hb2 hb3 hb4 hi hz0 hz1 hz2 HR5 HI5 C2
    go_wp2_with (first
      | (go_at_call_of 15 (Value.int .i64 a2); refine (MD2.out _).mono ?_; rintro e w' ⟨rfl, rfl⟩)
      | (go_at_call_of 15 (Value.int .i64 a3); refine (MD3.out _).mono ?_; rintro e w' ⟨rfl, rfl⟩))
    have hmcl : n ≤ MC := hmc
    generalize hwz : y6.setCell ⟨g6, p, none⟩ (.int .i64 q) = wz at HST HR6 HR7 HB6 ⊢
    have hsz : wz.heap.size = y6.heap.size := by rw [← hwz]; simp
    have HNS := hide (NS.new3 (w := wz) 22 (c := cap0) (d := n) (e := MC) (lim := 1000) HR6.out HR7.out HST.out (by omega) (by omega) (by omega))
    have hsw : w.heap.size ≤ wz.heap.size := by omega
    rw [hsz] at HNS
    clear cp fp hwz hsz
    go_loopg [50] 3 (fun m i wq => ∃ j : Nat, m + j = 3 ∧ i = .int .i64 j ∧ Below w.heap.size w wq ∧ NS wq y6.heap.size 3 1000)
    case atStart => exact ⟨0, by omega, rfl, HB6.out.alloc hsw _, HNS.out⟩
    case round =>
      obtain ⟨j, hj, rfl, hbq, hns⟩ := hrel
      have HBq := hide hbq
      have NSq := hide hns
      have hsq := hbq.size
      clear hbq
      by_cases hjt : j < 3
      · obtain ⟨SA, sn, sc, sl, cs, hsl, hsn⟩ := hns.2 j hjt
        clear hns
        have SL := hide hsl
        have hb1 := drsB sl
        clear hsl
        go_wp2_with fail
        refine (pdraws_any _ _ _ _ _ SL.out (by omega)).mono ?_
        rintro e x1 ⟨B1, m1, d1, rfl, hi1, hm1', hbx1⟩
        have I1 := hide hi1
        have HX1 := hide hbx1
        have hsx1 := hbx1.size
        clear hi1 hbx1
        go_wp2_with fail
        refine (rdraws_any _ _ _ _ _ (SL.out.below HX1.out) (by omega)).mono ?_
        rintro e x2 ⟨B2, m2, d2, rfl, hi2, hm2', hbx2⟩
        have I2 := hide hi2
        have HX2 := hide (HX1.out.trans (hbx2.mono hsx1))
        have sm := same_any x2 B1 m1 d1 _ B2 m2 d2 _ (I1.out.below hbx2) hi2 (by omega)
        rw [show decide (drsO sl = drsO sl) = true by simp] at sm
        have SM := hide sm
        generalize drsB sl = bb
        have hbb : (bb != bb) = false := by simp
        clear hi2 hbx2 sm
        go_wp2_with (go_at_call 24; refine SM.out.mono ?_; rintro e w' ⟨rfl, q, rfl⟩)
        go_roundg (gk - 1)
        case rel => exact ⟨j + 1, by omega, by go_num, below_drewN (HBq.out.trans (HX2.out.mono hsq)) _, (NSq.out.below HX2.out).below (below_drewN (Below.refl _ _) _)⟩
        case measure => omega
      · go_wp2
        go_ret
        exact ⟨rfl, HBq.out⟩

set_option maxHeartbeats 4000000 in
set_option maxRecDepth 100000 in
theorem trip_walk (a0 : Option Addr) (len0 cap0 : Nat) (z0 : List Int) (w : World) (w0 : Row .u8 w a0 len0 cap0 z0) :
    Calls Try.prog 10 #[.slice a0 len0 cap0] w fun e w' => e = .returned (.bool true) ∧ Below w.heap.size w w' := by
  obtain ⟨hI1, hc1, hm1, hwf1⟩ := w0.isI
  have hbd1 : ∀ x ∈ z0.take len0, 0 ≤ x ∧ x ≤ 255 := fun x hx => bounds_u8 (hwf1 x hx)
  have HB1 := hide hbd1
  have H1 := hide hI1
  clear hwf1 w0 hbd1 hI1
  generalize z0.take len0 = l1 at H1 HB1
  go_enter Try.func10, Try.ntmps10
  go_wp2_with fail
  refine (awake2_any _).mono ?_
  rintro e y1 ⟨rfl, hb1⟩
  have hs1 := hb1.size
  go_wp2_with fail
  refine (new_any _ _ _ _ _ 30 (H1.out.below hb1) HB1.out (by omega) hc1 hm1).mono ?_
  rintro e y2 ⟨rfl, hcd2, hb2'⟩
  have hb2 : Below w.heap.size w y2 := hb1.trans (hb2'.mono hs1)
  have C2 := hide hcd2
  clear hcd2 hb2'
  generalize l1.take 30 = r at C2
  have hkb := codeV_bd r 20 (by omega)
  go_wp2_with fail
  refine (codeNext _ _ _ _ _ C2.out (by omega) (by omega)).mono ?_
  rintro e y3 ⟨rfl, hcd3, hg3⟩
  obtain ⟨k, hk⟩ := Int.eq_ofNat_of_zero_le (show 0 ≤ codeV r 20 by omega)
  rw [hk] at hkb ⊢
  clear hk
  have hb3 := below_grownBy hb2 hg3 (Nat.le_refl _) hs1
  have C3 := hide hcd3
  clear hcd3 hg3
  obtain ⟨n, hn⟩ : ∃ n : Nat, (n : Int) = 1 + (k : Int) := ⟨1 + k, by omega⟩
  have hnk : 1 + (k : Int) = (n : Int) := by omega
  have hn1 : 1 ≤ n := by omega
  have hn20 : n ≤ 20 := by omega
  clear hn
  have dr := fun W (h : Cd W y1.heap.size r.tail 0) => draws_any W y1.heap.size r.tail 0 n h (by omega)
  have DR := hide dr
  clear dr
  go_wp2_with fail
  clear hnk
  refine (DR.out _ C3.out).mono ?_
  rintro e y4 ⟨u, rfl, hown4, hcd4, hg4⟩
  have hb4 := below_grownBy hb3 hg4 (Nat.le_refl _) hs1
  obtain ⟨UA, UC, rfl, -⟩ := own_form hown4
  have L2 := hide (IsI.of_own hown4)
  have hll : (drawsL r.tail n).length = n := drawsL_len _ _
  have HTR := hide (trip n (drawsL r.tail n) hn1 hll (fun j hj => drawsL_in _ n j hj))
  have HPB := hide (ord_isPB n (drawsL r.tail n) hn1)
  have HLL := hide hll
  rw [hll] at L2 ⊢
  have hs4 := hb4.size
  have HB4 := hide hb4
  clear hown4 hcd4 hg4 C3 hll
  generalize drawsL r.tail n = L at L2 HTR HPB HLL
  go_wp2_with fail
  refine (order_bk _ n _ _ _ _ L2.out hn1 hn20 (by omega)).mono ?_
  rintro e y5 ⟨rfl, hbk5, hb5⟩
  have hlo : (ord L (n - 1) (idl n)).length = n := by rw [ord_len, idl_len]
  have HI5 := hide (bkI_isI hbk5 hlo)
  have HLO := hide hlo
  have hs5 := hb5.size
  have HB5 := hide (hb4.trans (hb5.mono hs4))
  have HL5 := hide (L2.out.below hb5)
  have HRE : Hid (ord L (n - 1) (idl n) = ord L (n - 1) (idl n)) := rfl
  obtain ⟨O, hO⟩ : ∃ O, ord L (n - 1) (idl n) = O := ⟨_, rfl⟩
  rw [hO] at HI5 HLO HTR HPB
  have HO := hide hO
  obtain ⟨hr1, hr2⟩ := isPB_range HPB.out
  have HR1 := hide hr1
  have HR2 := hide hr2
  have hq : ((n : Int) != n) = false := by simp
  have hmk := fun W => run_make_row' (P := Try.prog) 47 4 (.bool false) 1 Try.underlying47 Try.bool_infD rfl .i64 .i64 n (by omega) (by omega) W
  clear hbk5 hlo hb5 hO hr1 hr2 hb1 hb2 hb3 hb4 C2
  go_wp2
  clear hmk hq
  have HBK : Hid (Bk (y5.alloc (.cells (madeCells #[Value.bool false] n) 4)) y5.heap.size 4 (bsC (markL n O 0))) := by
    rw [markL_zero, ← madeBs]
    exact Bk.new _ _ _
  have HM5 := hide (HB5.out.alloc (by omega) (.cells (madeCells #[Value.bool false] n) 4))
  have HY5 := hide (HI5.out.alloc (.cells (madeCells #[Value.bool false] n) 4))
  have HZ5 := hide (HL5.out.alloc (.cells (madeCells #[Value.bool false] n) 4))
  have hnof : ∀ (A : Option Addr) l, IsI .i64 y5 A n l → ∀ ad, A = some ad → ad.block ≠ y5.heap.size := by
    intro A l h ad e
    obtain ⟨_, e1, hlt, _⟩ := h.at_ (i := 0) (by omega)
    rw [e1] at e
    injection e with e
    subst e
    exact Nat.ne_of_lt hlt
  have HN1 := hide (hnof _ _ HI5.out)
  have HN2 := hide (hnof _ _ HL5.out)
  clear hnof
  go_loopg [32] n (fun m i wq => ∃ j : Nat, m + j = n ∧ i = .int .i64 j ∧ Below w.heap.size w wq ∧ IsI .i64 wq (some ⟨y4.heap.size, 0, none⟩) n O ∧ IsI .i64 wq UA n L ∧ Bk wq y5.heap.size 4 (bsC (markL n O j)))
  case atStart => exact ⟨0, by omega, rfl, HM5.out, HY5.out, HZ5.out, HBK.out⟩
  case round =>
    obtain ⟨j, hj, rfl, hbq, hiq, hlq, hkq⟩ := hrel
    have HBq := hide hbq
    have HIq := hide hiq
    have HLq := hide hlq
    have HKq := hide hkq
    have hsq := hbq.size
    clear hbq hlq HBK HM5 HY5 HZ5
    by_cases hjt : j < n
    · obtain ⟨bd, hbd, _, cj⟩ := hiq.at_ hjt
      injection hbd with hbd
      subst hbd
      have hadd : (⟨y4.heap.size, 0, none⟩ : Addr).add j = ⟨y4.heap.size, j, none⟩ := by unfold Addr.add; split <;> simp_all
      rw [hadd] at cj
      have hjl : j < O.length := by rw [HLO.out]; exact hjt
      obtain ⟨x1, x2⟩ := HR1.out (O.getD j 0) (by rw [List.getD, List.getElem?_eq_getElem hjl]; exact List.getElem_mem _)
      have hol := HLO.out
      obtain ⟨v, hv, hvv⟩ : ∃ v : Nat, v < n ∧ O.getD j 0 = v := ⟨(O.getD j 0).toNat, by omega, by omega⟩
      rw [hvv] at cj
      have cs := bsC_cell hkq (markL_len n O j) v hv
      rw [markL_no n O j v hjl hvv HR2.out hv] at cs
      have hst := hide (markL_step n O j v hjl hvv)
      have f1 := hkq.frozen v
      have d1 : decide ((v : Int) < 0) = false := by simp
      have d2 : decide (n ≤ v) = false := by simp; omega
      clear hiq hkq x1 x2 hvv hol hadd
      go_wp2
      go_roundg (gk - 1)
      case rel => exact ⟨j + 1, by omega, by go_num, HBq.out.setCell (show w.heap.size ≤ y5.heap.size by omega) _, Rds.far HIq.out (p := ⟨y5.heap.size, v, none⟩) HN1.out _, Rds.far HLq.out (p := ⟨y5.heap.size, v, none⟩) HN2.out _, by rw [← hst.out]; exact bsC_set _ _ HKq.out⟩
      case measure => omega
    · clear hiq hkq
      go_wp2_with fail
      refine (pdraws_any _ _ _ _ _ HIq.out (by omega)).mono ?_
      rintro e x1 ⟨B1, m1, d1, rfl, hi1, hm1', hbx1⟩
      obtain ⟨e1, e2⟩ := drsB_yes (o := O) (by rw [HLO.out]; exact hn20) HPB.out
      rw [e2, HTR.out] at hi1
      rw [e1]
      have hm1n : m1 = n := by rw [← hi1.len, HLL.out]
      subst hm1n
      have I1 := hide hi1
      have HX1 := hide hbx1
      have hsx1 := hbx1.size
      have sm := same_any x1 UA m1 UC _ B1 m1 d1 _ (HLq.out.below hbx1) hi1 (by omega)
      rw [show decide (L = L) = true by simp] at sm
      have SM := hide sm
      clear hi1 hbx1 e1 e2 sm
      go_wp2_with (go_at_call 24; refine SM.out.mono ?_; rintro e w' ⟨rfl, q, rfl⟩)
      refine (order_bk _ m1 _ _ _ _ (I1.out.drewN _) hn1 hn20 (by omega)).mono ?_
      rintro e x2 ⟨rfl, hbk2, hbx2⟩
      have hlo2 : (ord L (m1 - 1) (idl m1)).length = m1 := by rw [ord_len, idl_len]
      have J2 := bkI_isI hbk2 hlo2
      rw [HO.out] at J2
      have hx12 := HX1.out.trans ((below_drewN (Below.refl _ _) q).trans (hbx2.mono hsx1))
      have sm := same_any x2 _ m1 m1 _ _ m1 m1 _ J2 (HIq.out.below hx12) (by omega)
      rw [show decide (O = O) = true by simp] at sm
      have SM2 := hide sm
      have HX2 := hide hx12
      clear hbk2 hbx2 J2 sm hlo2 hx12
      go_wp2_with (go_at_call 24; refine SM2.out.mono ?_; rintro e w' ⟨rfl, q2, rfl⟩)
      go_ret
      exact ⟨rfl, below_drewN (HBq.out.trans (HX2.out.mono hsq)) _⟩
end Go.Proofs.Ytidncklgoaofpaa
