/- run of the ring: machines are made, and make their accesses. -/
import Derived.Test.YtepngbdjobckbaaGreatRC
import Derived.Test.YtepngbdjobckbaaGreatRD
import Derived.Test.YtepngbdjobckbaaGreatX1
import Derived.Test.YtepngbdjobckbaaGreatQ0
import Derived.Deep.CutBlock
namespace Go.Proofs.YtepngbdjobckbaaGreat
open Go.RowKit
set_option linter.unusedVariables false
set_option linter.unusedSimpArgs false
theorem Tryz.mq_inf : (Tryz.prog.info? 53).map (fun i => (i.zero, i.size, i.bytes)) = some (some (.agg #[.int .i64 0, .int .u64 0, .int .i64 0, .int .i64 0, .slice none 0 0, .slice none 0 0, .slice none 0 0]), 7, 104) := by kernel_rfl
theorem rg_new {w : World} {A : Option Addr} {n c : Nat} {B : Option Addr} {d tn gW gL : Nat} {l s : List Int} (hcf : Cf w A n l) (hty : TyA w A n 3) (hst : ∀ x ∈ s, 0 ≤ x ∧ x < 9223372036854775808) (ht : tn ≤ 8) (hk : Bk w gW 42 (wc64 (iniI l s tn))) :
    Rg (w.alloc (.cells #[.slice A n c, .slice B n d, .int .i64 tn, .slice (some ⟨gW, 0, none⟩) (totI l tn) (totI l tn), .slice (some ⟨gL, 0, none⟩) (2 * n) (2 * n), .int .i64 0, .slice none 0 0, .slice none 0 0, .slice none 0 0] 37)) w.heap.size w.heap.size (st0 l s tn) := by
  have hl := hcf.len
  have hlen : (iniI l s tn).length = totI l tn := by rw [iniI, chansI_len]; simp
  have htl := hcf.tl n (Nat.le_refl _)
  refine ⟨⟨⟨A, n, c, B, n, d, some ⟨gW, 0, none⟩, totI l tn, totI l tn, some ⟨gL, 0, none⟩, 2 * n, 2 * n, 0, .slice none 0 0, .slice none 0 0, .slice none 0 0, [], []⟩, ?_⟩, ?_⟩
  · refine ⟨Bk.new _ _ _, Nat.le_refl _, hcf.alloc _, hty.alloc _, ?_, TyA.bk (hk.alloc _) 0 _, ?_, ?_, ?_, ?_, All2.nil, All2.nil⟩
    · refine IsI.alloc ⟨by simp [hlen, st0], fun _ => ⟨_, rfl, hk.lt, fun j u hu => ?_⟩⟩ _
      have : (⟨gW, 0, none⟩ : Addr).add j = ⟨gW, j, none⟩ := by unfold Addr.add; split <;> simp_all
      rw [this, hk.cell j]
      unfold wc64
      simpa [st0] using hu
    · show totI l tn ≤ 1000000
      unfold totI
      have := hcf.2.1
      rw [hl]
      omega
    all_goals exact ⟨rfl, Or.inl ⟨rfl, rfl⟩⟩
  · exact ⟨⟨by rw [show (st0 l s tn).l = l from rfl, hl]; exact hcf.2.1, hcf.2.2⟩, fun i x h => by simp [st0] at h, iniI_u hst, rfl⟩
theorem tap_codes : Tap 91 := by unfold Tap; decide
theorem Rg.codes {w w' : World} {base G g : Nat} {s : St} {r : List Int} {v : Int} (H : Rg w base G s) (hg : w.grownBy w' (some g)) (k : Cd w g r v) : Rg w' base G s := by
  obtain ⟨A, n, c, l, i, kb, -⟩ := k
  exact H.oth hg kb tap_codes (by decide)
theorem RgH.codes {w w' : World} {base G g : Nat} {h : Hr} {s : St} {r : List Int} {v : Int} (H : RgH w base G h s) (hg : w.grownBy w' (some g)) (k : Cd w g r v) : RgH w' base G h s := by
  obtain ⟨A, n, c, l, i, kb, -⟩ := k
  exact H.oth hg kb tap_codes (.inl (by decide))
theorem InvR.add {s : St} (H : InvR s) {x : Mc} (hm : Mv s.l.length x) : InvR { s with ms := s.ms ++ [x] } := by
  refine ⟨H.cap, fun i y hy => ?_, H.wu, H.pl⟩
  have hy' : (s.ms ++ [x])[i]? = some y := hy
  rcases Nat.lt_or_ge i s.ms.length with hi | hi
  · rw [List.getElem?_append_left hi] at hy'
    exact H.mv i y hy'
  · rw [List.getElem?_append_right hi] at hy'
    cases e : i - s.ms.length with
    | zero =>
      rw [e] at hy'
      simp at hy'
      exact hy' ▸ hm
    | succ k =>
      rw [e] at hy'
      simp at hy'
theorem cd_kp {w w' : World} {g : Nat} {r : List Int} {v : Int} (k : Cd w g r v) (hg : w.grownBy w' (some g)) {T : TypeId} (hne : T ≠ 91) : Kp w w' T := by
  obtain ⟨A, n, c, l, i, kb, -⟩ := k
  exact kp_oth hg (Oth.bk kb hne)
theorem Rg.row6 {w : World} {base G : Nat} {s : St} (H : Rg w base G s) : base ≤ G ∧ G < w.heap.size ∧ ∃ A c, w.cell? ⟨G, 6, none⟩ = some (.slice A s.ms.length c) := by
  obtain ⟨⟨h, H⟩, -⟩ := H
  have hl := H.ml.1
  rcases H.rL.2 with ⟨h1, h0⟩ | ⟨g, cap, cur, h1, -⟩
  · exact ⟨H.hG, H.bk.lt, none, 0, by rw [← hl, h0, ← h1]; exact H.bk.cell 6⟩
  · exact ⟨H.hG, H.bk.lt, _, cap, by rw [← hl, ← h1]; exact H.bk.cell 6⟩
/-- The machines with which a run begins. -/
structure RunOk (shuts : Nat) (l s : List Int) (tn : Nat) (ms : List Mc) : Prop where
  cap : Cap l
  n1 : 1 ≤ l.length
  c1 : 1 ≤ l.getD 0 0
  sb : ∀ x ∈ s, 0 ≤ x ∧ x < 9223372036854775808
  sl : s.length = l.length
  mo : (∀ x ∈ ms, ∃ (wh : Nat) (v : Int), 3 ≤ wh ∧ wh ≤ 6 ∧ Go.Proofs.YtepngbdjobckbaaGreat.u64 v ∧ x = mc0 wh 0 0 v)
  len : ms.length ≤ 8 + shuts
  sh : 0 < shuts → ∃ (k : Nat) (x : Mc), ms[k]? = some x ∧ x.what = 5
/-- What is known while they play. -/
structure Pr (gC : Nat) (w wr : World) (G K T : Nat) (s : St) : Prop where
  rg : Rg wr G G s
  bl : Below gC w wr
  le : gC ≤ G
  len : s.ms.length = K
  tr : s.tr.length ≤ T
theorem Pr.below {gC : Nat} {w wr wx : World} {G K T : Nat} {s : St} (H : Pr gC w wr G K T s) (h : Below wr.heap.size wr wx) : Pr gC w wx G K T s :=
  ⟨H.rg.below h, H.bl.trans (h.mono (Nat.le_trans H.le (Nat.le_of_lt H.rg.row6.2.1))), H.le, H.len, H.tr⟩
theorem Pr.step {gC : Nat} {w wr : World} {G K T i : Nat} {s : St} (H : Pr gC w wr G K T s) (hi : i < K) (hT : T ≤ 1000000) :
    Calls Tryz.prog 25 #[.pointer (some ⟨G, 0, none⟩), .int .i64 i] wr fun e w' => e = .returned (.tuple #[]) ∧ Pr gC w w' G K (T + 1) (stp s i) := by
  refine (step_rg wr G G i s H.rg (by rw [H.len]; exact hi) (Nat.le_trans H.tr hT)).mono ?_
  rintro e w' ⟨rfl, h1, h2⟩
  exact ⟨rfl, h1, H.bl.trans (h2.mono H.le), H.le, by rw [stp_len]; exact H.len, Nat.le_trans (stp_tr s i) (by have := H.tr; omega)⟩
theorem pl1_none {s : St} (h : s.ms.length = 0) (p : List Int) : ∀ j, pl1 p s j = s := by
  have hm : s.ms = [] := List.eq_nil_of_length_eq_zero h
  intro j
  induction j with
  | zero => rfl
  | succ j ih =>
    rw [pl1, ih]
    unfold stp
    rw [hm]
    simp
set_option maxHeartbeats 16000000 in
set_option maxRecDepth 100000 in
theorem run_rg (w : World) (a0 : Option Addr) (len0 cap0 : Nat) (l0 : List Int) (hI1 : IsI .u8 w a0 len0 l0) (hB1 : ∀ x ∈ l0, 0 ≤ x ∧ x ≤ 255) (hc1 : len0 ≤ cap0) (hcm1 : cap0 ≤ 9223372036854775807)
    (a1 : Option Addr) (len1 cap1 : Nat) (p : List Int) (hI2 : IsI .u8 w a1 len1 p) (hB2 : ∀ x ∈ p, 0 ≤ x ∧ x ≤ 255) (hl2 : len1 ≤ 9223372036854775807) (shuts : Nat) (hsh : shuts ≤ 3) :
    Calls Tryz.prog 6 #[.slice a0 len0 cap0, .slice a1 len1 cap1, .int .i64 shuts] w fun e w' => ∃ (G : Nat) (l s : List Int) (tn : Nat) (ms : List Mc), e = .returned (.pointer (some ⟨G, 0, none⟩)) ∧ Rg w' G G (plays p 200 200 { st0 l s tn with ms := ms }) ∧ RunOk shuts l s tn ms ∧ w.heap.size ≤ G ∧ Below w.heap.size w w' := by
  have H1 := hide hI1
  have HB1 := hide hB1
  have H2 := hide hI2
  have HB2 := hide hB2
  clear hI1 hB1 hI2 hB2
  go_enter Tryz.func6, Tryz.ntmps6
  go_wp2_with fail
  refine (new_any w _ _ _ _ 40 H1.out HB1.out (by omega) hc1 hcm1).mono ?_
  rintro e y2 ⟨rfl, hcd, hb2⟩
  have BW2 := hide hb2
  have CD2 := hide hcd
  clear hb2 hcd H1 HB1
  generalize hgC : w.heap.size = gC at *
  have hCw : gC ≤ w.heap.size := Nat.le_of_eq hgC.symm
  have HGC := hide hgC
  clear hgC
  go_wp2_with fail
  refine (config_own _ _ _ _ CD2.out).mono ?_
  rintro e y3 ⟨gA, n, c, B, d, tn, l, s, r', rfl, hgA, hown, hln, hlb, hsi, hsty, hn1, hn3, hsl, hst, ht2, ht4, hcd3, hg⟩
  have BW3 := hide (below_grownBy BW2.out hg hCw (Nat.le_refl _))
  have OW := hide hown
  have SI := hide hsi
  have STY := hide hsty
  have HLB := hide hlb
  have SB := hide hst
  have CD3 := hide hcd3
  have HSL := hide hsl
  have hgC3 := hcd3.lt
  have hgCA : gC < gA := Nat.lt_of_lt_of_le CD2.out.lt hgA
  clear hown hlb hsi hsty hst hcd3 hg CD2 BW2 hsl
  go_upto_region 3 with fail
  have KX := hide (Bk.new y3 30 #[.slice (some ⟨gA, 0, none⟩) n c, .slice B n d, .int .i64 tn])
  have HB4 := hide (below_new y3 (.cells #[.slice (some ⟨gA, 0, none⟩) n c, .slice B n d, .int .i64 tn] 30))
  have OW4 := hide (own_bel OW.out HB4.out)
  have SI4 := hide (SI.out.below HB4.out)
  have ST4 := hide (STY.out.below HB4.out)
  have CD4 := hide (Cd.below CD3.out HB4.out)
  have BW4 := hide (BW3.out.trans (HB4.out.mono (by omega)))
  have hgX : gA < y3.heap.size := (OW.out.lt gA rfl).2
  clear OW SI STY CD3 BW3 HB4
  generalize (y3.alloc (.cells #[.slice (some ⟨gA, 0, none⟩) n c, .slice B n d, .int .i64 tn] 30)) = y4 at *
  generalize y3.heap.size = gX at *
  obtain ⟨v4, hv4⟩ : ∃ v, codeV r' 4 = v := ⟨_, rfl⟩
  have hv4b := codeV_bd r' 4 (by omega)
  rw [hv4] at hv4b
  obtain ⟨cv, hcv⟩ : ∃ cv : Int, 1 + v4 = cv := ⟨_, rfl⟩
  have eW : IntKind.i64.wrap (1 + v4) = cv := by rw [hcv]; exact IntWalk.i64_in cv ⟨by omega, by omega⟩
  have hcvb : 1 ≤ cv ∧ cv ≤ 4 := by omega
  have HCV := hide hcvb
  have NT := hide (fun W (hW : Cd W gC r' 0) => show Calls Tryz.prog 21 #[.pointer (some ⟨gC, 0, none⟩), .int .i64 4] W fun e w' => e = .returned (.int .i64 v4) ∧ Cd w' gC r'.tail 0 ∧ W.grownBy w' (some gC) by
    have := codeNext W gC r' 0 4 hW (by omega) (by omega)
    rwa [hv4] at this)
  have d2 : decide (n ≤ 0) = false := by simp; omega
  have dn : ¬ n = 0 := by omega
  have dn2 : 0 < n := by omega
  obtain ⟨f0, f1, f2, -⟩ := bkm3 KX.out
  clear hv4 hcv hv4b hcvb
  go_cut [] (fun wx => Cf wx (some ⟨gA, 0, none⟩) n (l.set 0 cv) ∧ TyA wx (some ⟨gA, 0, none⟩) n 3 ∧ IsI .u64 wx B n s ∧ Bk wx gX 30 #[.slice (some ⟨gA, 0, none⟩) n c, .slice B n d, .int .i64 tn] ∧ Cd wx gC r'.tail 0 ∧ Below gC w wx)
  case first =>
    go_region_law (first
      | (refine step_call _ (by rfl) 21 _ (by go_simp) (NT.out _ (CD4.out.drewN 1)) ?_; rintro e w4 ⟨rfl, hcd5, hg5⟩; refine ⟨_, rfl, ?_⟩; have OW5 := hide (own_codes (own_bel OW4.out (Below.refl y4.heap.size y4).drew) hg5 (CD4.out.drewN 1) (by decide)); have KX5 := hide (bk_codes (KX.out.below (Below.refl y4.heap.size y4).drew KX.out.lt) hg5 (CD4.out.drewN 1) (by decide)); have SI5 := hide (isI_codes (SI4.out.below (Below.refl y4.heap.size y4).drew) (ST4.out.below (Below.refl y4.heap.size y4).drew) hg5 (CD4.out.drewN 1) (by decide)); have BW5 := hide (below_grownBy (BW4.out.trans (Below.refl gC y4).drew) hg5 hCw (Nat.le_refl _)); have CD5 := hide hcd5; obtain ⟨f0, f1, f2, -⟩ := bkm3 KX5.out; have a0 := own_cell0 OW5.out hln hn1; have af := OW5.out.frozenAt 0; clear hcd5 hg5))
    all_goals
      go_wp2_with fail
      go_meet
      case rel =>
        have CS := cap_set OW5.out hln (by omega) HLB.out (v := cv) (by have := HCV.out; omega)
        exact ⟨CS.1, CS.2.1, SI5.out.1.kp SI5.out.2 (CS.2.2 _ (by decide)), CS.2.2 _ (by decide) _ _ KX5.out, Cd.belowB CD5.out ((Below.refl gA _).setCell (p := ⟨gA, 0, none⟩) (Nat.le_refl _) _) hgCA, BW5.out.setCell (p := ⟨gA, 0, none⟩) (Nat.le_of_lt hgCA) _⟩
  case rest =>
  obtain ⟨hcf, hty, hsi, hkx, hcd, hbw⟩ := hcut
  have CF := hide hcf
  have TY := hide hty
  have SI := hide hsi
  have CD := hide hcd
  have BW := hide hbw
  obtain ⟨f0, f1, f2, -⟩ := bkm3 hkx
  have KXc := hide hkx
  have hl2 : (l.set 0 cv).length = n := by rw [List.length_set, hln]
  have HC0 : Hid (1 ≤ (l.set 0 cv).getD 0 0 ∧ (l.set 0 cv).getD 0 0 ≤ 4) := hide (by rw [getD_set_self (by omega)]; exact HCV.out)
  have HL2 := hide hl2
  clear hcf hty hsi hkx hcd hbw OW4 SI4 ST4 CD4 BW4 KX NT eW d2 dn HLB hl2 HCV
  generalize l.set 0 cv = l1 at *
  clear hln
  have HCAP := hide (show Cap l1 from ⟨by rw [CF.out.len]; exact CF.out.2.1, CF.out.2.2⟩)
  have dnn := hide dn2
  go_wp2_with fail
  refine (rnew_any wc (some ⟨gA, 0, none⟩) n c l1 B d s tn CF.out SI.out SB.out (by omega) (by omega)).mono ?_
  rintro e y5 ⟨gW, gL, rfl, hk, hgw, hb5⟩
  have BW5 := hide (BW.out.trans (hb5.mono (Nat.le_of_lt CD.out.lt)))
  have CD5 := hide (Cd.below CD.out hb5)
  have CF5 := hide (CF.out.below hb5)
  have TY5 := hide (TY.out.below hb5)
  have KX5 := hide (KXc.out.below hb5 KXc.out.lt)
  have HK5 := hide hk
  clear hk hgw hb5 BW CF TY SI CD f0 f1 f2 KXc
  go_upto_region 5 with fail
  have HN := hide (below_new y5 (.cells #[.slice (some ⟨gW, 0, none⟩) (totI l1 tn) (totI l1 tn), .slice (some ⟨gL, 0, none⟩) (2 * n) (2 * n), .int .i64 0] 33))
  have CD6 := hide (Cd.below CD5.out HN.out)
  have BW6 := hide (BW5.out.trans (HN.out.mono (Nat.le_of_lt CD5.out.lt)))
  have CF6 := hide (CF5.out.below HN.out)
  have TY6 := hide (TY5.out.below HN.out)
  have KX6 := hide (KX5.out.below HN.out KX5.out.lt)
  have HK6 := hide (HK5.out.below HN.out HK5.out.lt)
  have KM6 := hide (Bk.new y5 33 #[.slice (some ⟨gW, 0, none⟩) (totI l1 tn) (totI l1 tn), .slice (some ⟨gL, 0, none⟩) (2 * n) (2 * n), .int .i64 0])
  clear HN CD5 BW5 CF5 TY5 KX5 HK5
  generalize (y5.alloc (.cells #[.slice (some ⟨gW, 0, none⟩) (totI l1 tn) (totI l1 tn), .slice (some ⟨gL, 0, none⟩) (2 * n) (2 * n), .int .i64 0] 33)) = y6 at *
  generalize y5.heap.size = gM at *
  obtain ⟨f0, f1, f2, -⟩ := bkm3 KX6.out
  obtain ⟨e0, e1, e2, -⟩ := bkm3 KM6.out
  go_upto_region 6 with fail
  clear f0 f1 f2 e0 e1 e2
  have HN := hide (below_new y6 (.cells #[.slice (some ⟨gA, 0, none⟩) n c, .slice B n d, .int .i64 tn, .slice (some ⟨gW, 0, none⟩) (totI l1 tn) (totI l1 tn), .slice (some ⟨gL, 0, none⟩) (2 * n) (2 * n), .int .i64 0, .slice none 0 0, .slice none 0 0, .slice none 0 0] 37))
  have RG7 := hide (rg_new (c := c) (B := B) (d := d) (gL := gL) CF6.out TY6.out SB.out (show tn ≤ 8 by omega) HK6.out)
  have CD7 := hide (Cd.below CD6.out HN.out)
  have BW7 := hide (BW6.out.trans (HN.out.mono (Nat.le_of_lt CD6.out.lt)))
  have CF7 := hide (CF6.out.below HN.out)
  have TY7 := hide (TY6.out.below HN.out)
  have KX7 := hide (KX6.out.below HN.out KX6.out.lt)
  have hGC : gC < y6.heap.size := CD6.out.lt
  have hGX : gX < y6.heap.size := KX6.out.lt
  clear HN CD6 BW6 CF6 TY6 KX6 HK6 KM6
  generalize (y6.alloc (.cells #[.slice (some ⟨gA, 0, none⟩) n c, .slice B n d, .int .i64 tn, .slice (some ⟨gW, 0, none⟩) (totI l1 tn) (totI l1 tn), .slice (some ⟨gL, 0, none⟩) (2 * n) (2 * n), .int .i64 0, .slice none 0 0, .slice none 0 0, .slice none 0 0] 37)) = y7 at *
  generalize y6.heap.size = G at *
  go_upto_region 7 with fail
  have HN := hide (below_new y7 (.cells #[.int .i64 3, .int .i64 3, .int .i64 4, .int .i64 4, .int .i64 5, .int .i64 6, .int .i64 3, .int .i64 4] 3))
  have KN : Hid (Bk (y7.alloc (.cells #[.int .i64 3, .int .i64 3, .int .i64 4, .int .i64 4, .int .i64 5, .int .i64 6, .int .i64 3, .int .i64 4] 3)) y7.heap.size 3 ((kindsI.map (Value.int .i64)).toArray)) := hide (Bk.new y7 3 _)
  have RG8 := hide (RG7.out.below HN.out)
  have CD8 := hide (Cd.below CD7.out HN.out)
  have BW8 := hide (BW7.out.trans (HN.out.mono (Nat.le_of_lt CD7.out.lt)))
  have CF8 := hide (CF7.out.below HN.out)
  have TY8 := hide (TY7.out.below HN.out)
  have KX8 := hide (KX7.out.below HN.out KX7.out.lt)
  clear HN RG7 CD7 BW7 CF7 TY7 KX7
  generalize (y7.alloc (.cells #[.int .i64 3, .int .i64 3, .int .i64 4, .int .i64 4, .int .i64 5, .int .i64 6, .int .i64 3, .int .i64 4] 3)) = y8 at *
  generalize y7.heap.size = gK at *
  obtain ⟨qi, hqi, hqz, hqsz, hqby⟩ := info_parts Tryz.mq_inf
  go_upto_block 0 with fail
  go_cut [] (fun wx => ∃ ms : List Mc, (∀ x ∈ ms, ∃ (wh : Nat) (v : Int), 3 ≤ wh ∧ wh ≤ 6 ∧ Go.Proofs.YtepngbdjobckbaaGreat.u64 v ∧ x = mc0 wh 0 0 v) ∧ ms.length ≤ 8 ∧ Rg wx G G { st0 l1 s tn with ms := ms } ∧ Cf wx (some ⟨gA, 0, none⟩) n l1 ∧ TyA wx (some ⟨gA, 0, none⟩) n 3 ∧ Bk wx gX 30 #[.slice (some ⟨gA, 0, none⟩) n c, .slice B n d, .int .i64 tn] ∧ Below gC w wx)
  case first =>
    go_wp2_with fail
    go_loopg [13] 8 (fun g i wr => ∃ (j : Nat) (r : List Int) (ms : List Mc), g + j = 8 ∧ i = .int .i64 j ∧ ms.length = j ∧ (∀ x ∈ ms, ∃ (wh : Nat) (v : Int), 3 ≤ wh ∧ wh ≤ 6 ∧ Go.Proofs.YtepngbdjobckbaaGreat.u64 v ∧ x = mc0 wh 0 0 v) ∧ Rg wr G G { st0 l1 s tn with ms := ms } ∧ Cd wr gC r 0 ∧ Bk wr gK 3 ((kindsI.map (Value.int .i64)).toArray) ∧ Bk wr gX 30 #[.slice (some ⟨gA, 0, none⟩) n c, .slice B n d, .int .i64 tn] ∧ Cf wr (some ⟨gA, 0, none⟩) n l1 ∧ TyA wr (some ⟨gA, 0, none⟩) n 3 ∧ Below gC w wr)
    case atStart => exact ⟨0, _, [], by omega, rfl, rfl, fun x hx => by simp at hx, RG8.out, CD8.out, KN.out, KX8.out, CF8.out, TY8.out, BW8.out⟩
    case round =>
      obtain ⟨j, r, ms, hj, rfl, hml, hall, hrg, hcd, hkn, hkx, hcf, hty, hbw⟩ := hrel
      have HML := hide hml
      have HALL := hide hall
      have HR := hide hrg
      have HC := hide hcd
      have HK := hide hkn
      have HX := hide hkx
      have HF := hide hcf
      have HY := hide hty
      have HBW := hide hbw
      clear hml hall hrg hcd hkn hkx hcf hty hbw RG8 CD8 KN KX8 CF8 TY8 BW8
      by_cases hlt : j < 8
      · cases r with
        | nil =>
          have LF := hide (show Calls Tryz.prog 23 #[.pointer (some ⟨gC, 0, none⟩)] wr fun e w' => e = .returned (.bool false) ∧ Below wr.heap.size wr w' from left_bel wr gC [] 0 HC.out)
          go_wp2_with fail
          refine LF.out.mono ?_
          rintro e w5 ⟨rfl, hb5⟩
          go_wp2
          go_meet
          case rel => exact ⟨ms, HALL.out, by rw [HML.out]; omega, HR.out.below hb5, HF.out.below hb5, HY.out.below hb5, HX.out.below hb5 HX.out.lt, HBW.out.trans (hb5.mono (by have := HC.out.lt; omega))⟩
        | cons b r2 =>
          have LF := hide (show Calls Tryz.prog 23 #[.pointer (some ⟨gC, 0, none⟩)] wr fun e w' => e = .returned (.bool true) ∧ Below wr.heap.size wr w' from left_bel wr gC (b :: r2) 0 HC.out)
          obtain ⟨q1, hq1⟩ := Int.eq_ofNat_of_zero_le (codeV_bd (b :: r2) 8 (by omega)).1
          have hq2 := (codeV_bd (b :: r2) 8 (by omega)).2
          rw [hq1] at hq2
          have hqq : q1 < 8 := by omega
          have N8 := hide (fun W (hW : Cd W gC (b :: r2) 0) => show Calls Tryz.prog 21 #[.pointer (some ⟨gC, 0, none⟩), .int .i64 8] W fun e w' => e = .returned (.int .i64 (q1 : Nat)) ∧ Cd w' gC r2 0 ∧ W.grownBy w' (some gC) by
            have := codeNext W gC (b :: r2) 0 8 hW (by omega) (by omega)
            rwa [hq1] at this)
          obtain ⟨wh, hwh, hwb⟩ := kinds_at q1 hqq
          have HWB := hide hwb
          have HWH := hide hwh
          obtain ⟨vv, hvv⟩ : ∃ vv : Int, 10 + (j : Int) = vv := ⟨_, rfl⟩
          have eV1 : IntKind.i64.wrap (10 + (j : Int)) = vv := by rw [hvv]; exact IntWalk.i64_in vv ⟨by omega, by omega⟩
          have eV2 : IntKind.u64.wrap vv = vv := by rw [wrap_u64]; omega
          have HUV := hide (show Go.Proofs.YtepngbdjobckbaaGreat.u64 vv from by unfold Go.Proofs.YtepngbdjobckbaaGreat.u64; omega)
          have d1 : decide ((q1 : Int) < 0) = false := by simp
          have d2 : decide (8 ≤ q1) = false := by simp; omega
          have d3 : (q1 : Int) < 8 := by omega
          clear hq1 hq2 hwh hwb hvv
          go_wp2_with fail
          refine LF.out.mono ?_
          rintro e w5 ⟨rfl, hb5⟩
          have hb5 := hb5.trans ((Below.refl w5.heap.size w5).drew.mono hb5.size)
          have HR5 := hide (HR.out.below hb5)
          have HC5 := hide (Cd.below HC.out hb5)
          have HK5 := hide (HK.out.below hb5 HK.out.lt)
          have HX5 := hide (HX.out.below hb5 HX.out.lt)
          have HF5 := hide (HF.out.below hb5)
          have HY5 := hide (HY.out.below hb5)
          have HBW5 := hide (HBW.out.trans (hb5.mono (by have := HC.out.lt; omega)))
          clear hb5 LF HR HC HK HX HF HY HBW
          go_upto_region 10 with fail
          obtain ⟨⟨h, hr⟩, hi⟩ := HR5.out
          have HR := hide hr
          have HI := hide hi
          have hvl : h.ls.length = j := by have := hr.ml.1; rw [show ({ st0 l1 s tn with ms := ms } : St).ms = ms from rfl] at this; rw [this, HML.out]
          have HVL := hide hvl
          clear hr hi HR5 hvl
          have TT := hide (fun (W : World) (hR : RgH W G G h { st0 l1 s tn with ms := ms }) (hX : Bk W gX 30 #[.slice (some ⟨gA, 0, none⟩) n c, .slice B n d, .int .i64 tn]) (hK : Bk W gK 3 ((kindsI.map (Value.int .i64)).toArray)) => show W.cell? ⟨G, 6, none⟩ = some h.vL ∧ W.cell? ⟨gX, 0, none⟩ = some (.slice (some ⟨gA, 0, none⟩) n c) ∧ W.cell? ⟨gX, 1, none⟩ = some (.slice B n d) ∧ W.cell? ⟨gX, 2, none⟩ = some (.int .i64 tn) ∧ W.cell? ⟨gK, q1, none⟩ = some (.int .i64 wh) by
            have c8 := bk6 hK q1 (by show q1 < 8; omega)
            rw [HWH.out] at c8
            obtain ⟨f0, f1, f2, -⟩ := bkm3 hX
            exact ⟨hR.bk.cell 6, f0, f1, f2, c8⟩)
          refine wp_region_L (fun W => W.cell? ⟨G, 6, none⟩ = some h.vL ∧ W.cell? ⟨gX, 0, none⟩ = some (.slice (some ⟨gA, 0, none⟩) n c) ∧ W.cell? ⟨gX, 1, none⟩ = some (.slice B n d) ∧ W.cell? ⟨gX, 2, none⟩ = some (.int .i64 tn) ∧ W.cell? ⟨gK, q1, none⟩ = some (.int .i64 wh)) 16 (by kernel_rfl) ?_
          generalize w5.drew = xd at *
          refine wpAnyL_any (i := 0) (oi := ⟨some 46, _, _, _, _, _⟩) (v := ?vve10_0_1) rfl (by kernel_rfl) (by kernel_rfl) (by kernel_rfl) (by kernel_rfl) (fun _ _ _ h => h) (fun _ => (TT.out _ HR.out HX5.out HK5.out)) (by rfl) ?hhe10_0_1 ?rre10_0_1
          case hhe10_0_1 => (intro W; go_simp; try with_reducible rfl)
          (try simp only [Act.put, List.setIfInBounds_toArray, List.set_cons_zero, List.set_cons_succ])
          refine wpAnyL_any (i := 1) (oi := ⟨some 47, _, _, _, _, _⟩) (v := ?vve10_1_2) rfl (by kernel_rfl) (by kernel_rfl) (by kernel_rfl) (by kernel_rfl) (fun _ _ _ h => h) (fun _ => (TT.out _ HR.out HX5.out HK5.out)) (by rfl) ?hhe10_1_2 ?rre10_1_2
          case hhe10_1_2 => (intro W; go_simp; try with_reducible rfl)
          (try simp only [Act.put, List.setIfInBounds_toArray, List.set_cons_zero, List.set_cons_succ])
          refine wpAnyL_any (i := 2) (oi := ⟨some 48, _, _, _, _, _⟩) (v := ?vve10_2_3) rfl (by kernel_rfl) (by kernel_rfl) (by kernel_rfl) (by kernel_rfl) (fun _ _ _ h => h) (fun _ => (TT.out _ HR.out HX5.out HK5.out)) (by rfl) ?hhe10_2_3 ?rre10_2_3
          case hhe10_2_3 => (intro W; go_simp; try with_reducible rfl)
          (try simp only [Act.put, List.setIfInBounds_toArray, List.set_cons_zero, List.set_cons_succ])
          refine wpAnyL_any (i := 3) (oi := ⟨some 49, _, _, _, _, _⟩) (v := ?vve10_3_4) rfl (by kernel_rfl) (by kernel_rfl) (by kernel_rfl) (by kernel_rfl) (fun _ _ _ h => h) (fun _ => (TT.out _ HR.out HX5.out HK5.out)) (by rfl) ?hhe10_3_4 ?rre10_3_4
          case hhe10_3_4 => (intro W; go_simp; try with_reducible rfl)
          (try simp only [Act.put, List.setIfInBounds_toArray, List.set_cons_zero, List.set_cons_succ])
          refine wpAnyL_take (i := 4) (oi := ⟨some 50, _, _, _, _, _⟩) [16, 17, 18, 19] (v := ?vve10_4_5) rfl (by kernel_rfl) (by kernel_rfl) (by kernel_rfl) (by kernel_rfl) (fun _ _ _ h => h) (TT.out _ HR.out HX5.out HK5.out) (by rfl) ?hhe10_4_5 ?rre10_4_5
          case hhe10_4_5 => (intro W hW; obtain ⟨k6, f0, f1, f2, c8⟩ := hW; go_simp; try with_reducible rfl)
          (try simp only [Act.put, List.setIfInBounds_toArray, List.set_cons_zero, List.set_cons_succ])
          refine wpAnyL_take (i := 5) (oi := ⟨some 51, _, _, _, _, _⟩) [14, 15, 16, 17, 18, 19] (v := ?vve10_5_6) rfl (by kernel_rfl) (by kernel_rfl) (by kernel_rfl) (by kernel_rfl) (fun _ _ _ h => h) (TT.out _ HR.out HX5.out HK5.out) (by rfl) ?hhe10_5_6 ?rre10_5_6
          case hhe10_5_6 => (intro W hW; obtain ⟨k6, f0, f1, f2, c8⟩ := hW; go_simp; try with_reducible rfl)
          (try simp only [Act.put, List.setIfInBounds_toArray, List.set_cons_zero, List.set_cons_succ])
          refine wpAnyL_any (i := 6) (oi := ⟨some 52, _, _, _, _, _⟩) (v := ?vve10_6_7) rfl (by kernel_rfl) (by kernel_rfl) (by kernel_rfl) (by kernel_rfl) (fun _ _ _ h => h) (fun _ => (TT.out _ HR.out HX5.out HK5.out)) (by rfl) ?hhe10_6_7 ?rre10_6_7
          case hhe10_6_7 => (intro W; go_simp; try with_reducible rfl)
          (try simp only [Act.put, List.setIfInBounds_toArray, List.set_cons_zero, List.set_cons_succ])
          refine wpAnyL_any (i := 7) (oi := ⟨some 53, _, _, _, _, _⟩) (v := ?vve10_7_8) rfl (by kernel_rfl) (by kernel_rfl) (by kernel_rfl) (by kernel_rfl) (fun _ _ _ h => h) (fun _ => (TT.out _ HR.out HX5.out HK5.out)) (by rfl) ?hhe10_7_8 ?rre10_7_8
          case hhe10_7_8 => (intro W; go_simp; try with_reducible rfl)
          (try simp only [Act.put, List.setIfInBounds_toArray, List.set_cons_zero, List.set_cons_succ])
          refine wpAnyL_any (i := 11) (oi := ⟨some 57, _, _, _, _, _⟩) (v := ?vve10_11_9) rfl (by kernel_rfl) (by kernel_rfl) (by kernel_rfl) (by kernel_rfl) (fun _ _ _ h => h) (fun _ => (TT.out _ HR.out HX5.out HK5.out)) (by rfl) ?hhe10_11_9 ?rre10_11_9
          case hhe10_11_9 => (intro W; go_simp; try with_reducible rfl)
          (try simp only [Act.put, List.setIfInBounds_toArray, List.set_cons_zero, List.set_cons_succ])
          refine wpAnyL_any (i := 12) (oi := ⟨some 58, _, _, _, _, _⟩) (v := ?vve10_12_10) rfl (by kernel_rfl) (by kernel_rfl) (by kernel_rfl) (by kernel_rfl) (fun _ _ _ h => h) (fun _ => (TT.out _ HR.out HX5.out HK5.out)) (by rfl) ?hhe10_12_10 ?rre10_12_10
          case hhe10_12_10 => (intro W; go_simp; try with_reducible rfl)
          (try simp only [Act.put, List.setIfInBounds_toArray, List.set_cons_zero, List.set_cons_succ])
          refine wpAnyL_any (i := 13) (oi := ⟨some 59, _, _, _, _, _⟩) (v := ?vve10_13_11) rfl (by kernel_rfl) (by kernel_rfl) (by kernel_rfl) (by kernel_rfl) (fun _ _ _ h => h) (fun _ => (TT.out _ HR.out HX5.out HK5.out)) (by rfl) ?hhe10_13_11 ?rre10_13_11
          case hhe10_13_11 => (intro W; go_simp; try with_reducible rfl)
          (try simp only [Act.put, List.setIfInBounds_toArray, List.set_cons_zero, List.set_cons_succ])
          refine wpAnyL_one (i := 8) (oi := ⟨some 54, _, _, _, _, _⟩) rfl (by kernel_rfl) (fun K hK => ?_)
          refine step_call _ (by rfl) 21 _ (by go_simp) (N8.out _ HC5.out) ?_
          rintro e z10_8 ⟨rfl, hcd, hg⟩
          refine ⟨_, rfl, ?_⟩
          have kk : ∀ T, T ≠ 91 → Kp xd z10_8 T := fun T hne => cd_kp HC5.out hg hne
          replace HX5 := hide (kk _ (by decide) _ _ HX5.out)
          replace HK5 := hide (kk _ (by decide) _ _ HK5.out)
          replace HF5 := hide (HF5.out.kp HY5.out (kk _ (by decide)))
          replace HY5 := hide (HY5.out.kp (kk _ (by decide)))
          replace HR := hide (HR.out.codes hg HC5.out)
          replace HBW5 := hide (below_grownBy HBW5.out hg hCw (Nat.le_refl _))
          replace HC5 := hide hcd
          clear kk hg hcd
          refine hK.out _ _ (fun _ => (TT.out _ HR.out HX5.out HK5.out)) ?_
          clear hK K
          (try simp only [Act.put, List.setIfInBounds_toArray, List.set_cons_zero, List.set_cons_succ])
          refine wpAnyL_any (i := 9) (oi := ⟨some 55, _, _, _, _, _⟩) (v := ?vve10_9_12) rfl (by kernel_rfl) (by kernel_rfl) (by kernel_rfl) (by kernel_rfl) (fun _ _ _ h => h) (fun _ => (TT.out _ HR.out HX5.out HK5.out)) (by rfl) ?hhe10_9_12 ?rre10_9_12
          case hhe10_9_12 => (intro W; go_simp; try with_reducible rfl)
          (try simp only [Act.put, List.setIfInBounds_toArray, List.set_cons_zero, List.set_cons_succ])
          refine wpAnyL_take (i := 10) (oi := ⟨some 56, _, _, _, _, _⟩) [14, 15, 16, 17, 18, 19] (v := ?vve10_10_13) rfl (by kernel_rfl) (by kernel_rfl) (by kernel_rfl) (by kernel_rfl) (fun _ _ _ h => h) (TT.out _ HR.out HX5.out HK5.out) (by rfl) ?hhe10_10_13 ?rre10_10_13
          case hhe10_10_13 => (intro W hW; obtain ⟨k6, f0, f1, f2, c8⟩ := hW; go_simp; try with_reducible rfl)
          (try simp only [Act.put, List.setIfInBounds_toArray, List.set_cons_zero, List.set_cons_succ])
          refine wpAnyL_one (i := 14) (oi := ⟨some 60, _, _, _, _, _⟩) rfl (by kernel_rfl) (fun K hK => ?_)
          refine step_call _ (by rfl) 24 _ (by go_simp) (mq_begin _ (some ⟨gA, 0, none⟩) n c l1 B n d tn HF5.out dnn.out wh HWB.out.1 HWB.out.2 vv HUV.out) ?_
          rintro e z10_8_14 ⟨cs, rfl, hm, hb⟩
          obtain ⟨val2, code2, pc2, FA2, fn2, fc2, FB2, fm2, fd2, q2, rfl, -, -⟩ := id hm
          refine ⟨_, rfl, ?_⟩
          rw [show (mc0 wh 0 0 vv).what = wh from rfl] at hm ⊢
          unfold mqc at hm ⊢
          have MQ := hide hm
          replace HX5 := hide (HX5.out.below hb HX5.out.lt)
          replace HK5 := hide (HK5.out.below hb HK5.out.lt)
          replace HF5 := hide (HF5.out.below hb)
          replace HY5 := hide (HY5.out.below hb)
          replace HC5 := hide (Cd.below HC5.out hb)
          replace HBW5 := hide (HBW5.out.trans (hb.mono (Nat.le_trans (Nat.le_of_lt hGC) HR.out.base_le)))
          replace HR := hide (HR.out.below hb)
          clear hm hb
          refine hK.out _ _ (fun _ => (TT.out _ HR.out HX5.out HK5.out)) ?_
          clear hK K
          (try simp only [Act.put, List.setIfInBounds_toArray, List.set_cons_zero, List.set_cons_succ])
          refine wpAnyL_one (i := 15) (oi := ⟨some 61, _, _, _, _, _⟩) rfl (by kernel_rfl) (fun K hK => ?_)
          go_simp
          have KE := hide (Bk.new z10_8_14 53 #[.int .i64 wh, .int .u64 val2, .int .i64 code2, .int .i64 pc2, .slice FA2 fn2 fc2, .slice FB2 fm2 fd2, .slice none 0 0])
          have hb := below_new z10_8_14 (.cells #[.int .i64 wh, .int .u64 val2, .int .i64 code2, .int .i64 pc2, .slice FA2 fn2 fc2, .slice FB2 fm2 fd2, .slice none 0 0] 53)
          replace MQ := hide (MQ.out.below hb)
          replace HX5 := hide (HX5.out.below hb HX5.out.lt)
          replace HK5 := hide (HK5.out.below hb HK5.out.lt)
          replace HF5 := hide (HF5.out.below hb)
          replace HY5 := hide (HY5.out.below hb)
          replace HC5 := hide (Cd.below HC5.out hb)
          replace HBW5 := hide (HBW5.out.trans (hb.mono (Nat.le_trans (Nat.le_of_lt hGC) HR.out.base_le)))
          replace HR := hide (HR.out.below hb)
          clear hb
          generalize (World.alloc z10_8_14 (.cells #[.int .i64 wh, .int .u64 val2, .int .i64 code2, .int .i64 pc2, .slice FA2 fn2 fc2, .slice FB2 fm2 fd2, .slice none 0 0] 53)) = z10_8_14_15 at *
          generalize (z10_8_14).heap.size = gE at *
          refine hK.out _ _ (fun _ => (TT.out _ HR.out HX5.out HK5.out)) ?_
          clear hK K
          (try simp only [Act.put, List.setIfInBounds_toArray, List.set_cons_zero, List.set_cons_succ])
          refine wpAnyL_one (i := 16) (oi := ⟨some 62, _, _, _, _, _⟩) rfl (by kernel_rfl) (fun K hK => ?_)
          have rL : World.ownsRow z10_8_14_15 G 53 7 h.vL h.ls.length (h.ls.flatMap Array.toList) := HR.out.rL
          refine step_push3 z10_8_14_15 (by rfl) (.tmp 50) (.tmp 61) _ (by rfl) G 53 qi _ 7 104 Tryz.underlying34 hqi hqz hqsz hqby (by rfl) (by decide) _ _ _ (by rfl) rL [.int .i64 wh, .int .u64 val2, .int .i64 code2, .int .i64 pc2, .slice FA2 fn2 fc2, .slice FB2 fm2 fd2, .slice none 0 0] ⟨gE, 0, none⟩ (by rfl) (cells_bkR KE.out) (by rfl) (by simp [Value.oneCell']) (by have := HVL.out; have := HML.out; omega) (by omega) HR.out.base_le ?_
          intro vL2 z10_8_14_15_16 hown hg hv
          obtain ⟨LA2, LC2, rfl, -⟩ := own_form hown
          have kk : ∀ T, T ≠ 53 → Kp z10_8_14_15 z10_8_14_15_16 T := fun T hne => kp_oth hg (Oth.own rL hne)
          replace HX5 := hide (kk _ (by decide) _ _ HX5.out)
          replace HK5 := hide (kk _ (by decide) _ _ HK5.out)
          replace HF5 := hide (HF5.out.kp HY5.out (kk _ (by decide)))
          replace HY5 := hide (HY5.out.kp (kk _ (by decide)))
          have hbb := own_below rL hg (Nat.le_refl _) HR.out.base_le
          replace HC5 := hide (Cd.belowB HC5.out hbb hGC)
          replace HBW5 := hide (HBW5.out.trans (hbb.mono (Nat.le_of_lt hGC)))
          have HR2 := hide (HR.out.pushL #[.int .i64 wh, .int .u64 val2, .int .i64 code2, .int .i64 pc2, .slice FA2 fn2 fc2, .slice FB2 fm2 fd2, .slice none 0 0] (mc0 wh 0 0 vv) MQ.out (.slice LA2 (h.ls.length + 1) LC2) hown hg)
          have bkR := hide (kk 37 (by decide) _ _ HR.out.bk)
          clear kk hown hg hv KE HR hbb rL MQ
          refine hK.out _ _ (fun h => by first | cases h | simp at h) ?_
          clear hK K
          (try simp only [Act.put, List.setIfInBounds_toArray, List.set_cons_zero, List.set_cons_succ])
          refine wpAnyL_any (i := 17) (oi := ⟨some 63, _, _, _, _, _⟩) (v := ?vve10_17_14) rfl (by kernel_rfl) (by kernel_rfl) (by kernel_rfl) (by kernel_rfl) (fun _ _ _ h => h) (fun h => by first | cases h | simp at h) (by rfl) ?hhe10_17_14 ?rre10_17_14
          case hhe10_17_14 => (intro W; go_simp; try with_reducible rfl)
          (try simp only [Act.put, List.setIfInBounds_toArray, List.set_cons_zero, List.set_cons_succ])
          refine wpAnyL_any (i := 18) (oi := ⟨some 64, _, _, _, _, _⟩) (v := ?vve10_18_15) rfl (by kernel_rfl) (by kernel_rfl) (by kernel_rfl) (by kernel_rfl) (fun _ _ _ h => h) (fun h => by first | cases h | simp at h) (by rfl) ?hhe10_18_15 ?rre10_18_15
          case hhe10_18_15 => (intro W; go_simp; try with_reducible rfl)
          (try simp only [Act.put, List.setIfInBounds_toArray, List.set_cons_zero, List.set_cons_succ])
          refine wpAnyL_one (i := 19) (oi := ⟨none, _, _, _, _, _⟩) rfl (by kernel_rfl) (fun K hK => ?_)
          have bkr := bkR.out
          rw [Hr.cells] at bkr
          obtain ⟨-, -, -, -, -, -, k6, -, -, kf⟩ := bk9 bkr
          go_simp
          clear k6 kf bkr
          have hs : Below G z10_8_14_15_16 (World.setCell z10_8_14_15_16 ⟨G, 6, none⟩ (.slice LA2 (h.ls.length + 1) LC2)) := (Below.refl G z10_8_14_15_16).setCell (p := ⟨G, 6, none⟩) (Nat.le_refl _) _
          have kk : ∀ T, T ≠ 37 → Kp z10_8_14_15_16 (World.setCell z10_8_14_15_16 ⟨G, 6, none⟩ (.slice LA2 (h.ls.length + 1) LC2)) T := fun T hne => kp_set bkR.out hne 6 (.slice LA2 (h.ls.length + 1) LC2)
          replace HX5 := hide (kk _ (by decide) _ _ HX5.out)
          replace HK5 := hide (kk _ (by decide) _ _ HK5.out)
          replace HF5 := hide (HF5.out.kp HY5.out (kk _ (by decide)))
          replace HY5 := hide (HY5.out.kp (kk _ (by decide)))
          replace HC5 := hide (Cd.belowB HC5.out hs hGC)
          replace HBW5 := hide (HBW5.out.trans (hs.mono (Nat.le_of_lt hGC)))
          clear kk hs bkR
          generalize (World.setCell z10_8_14_15_16 ⟨G, 6, none⟩ (.slice LA2 (h.ls.length + 1) LC2)) = z10_8_14_15_16_19 at *
          refine hK.out _ _ (fun h => by first | cases h | simp at h) ?_
          clear hK K
          (try simp only [Act.put, List.setIfInBounds_toArray, List.set_cons_zero, List.set_cons_succ])
          refine wpAnyL_done (by kernel_rfl) ?_ _
          go_wp2
          go_roundg (gk - 1)
          case rel =>
            refine ⟨j + 1, _, ms ++ [mc0 wh 0 0 vv], by omega, by go_num, by simp [HML.out], fun x hx => ?_, ⟨⟨_, HR2.out⟩, HI.out.add (mv0 (by have := HWB.out; omega) (by have := HWB.out; omega) (show 0 < l1.length by rw [HL2.out]; exact dnn.out) (by omega) HUV.out)⟩, HC5.out, HK5.out, HX5.out, HF5.out, HY5.out, HBW5.out⟩
            rcases List.mem_append.1 hx with h | h
            · exact HALL.out x h
            · rw [List.mem_singleton.1 h]
              exact ⟨wh, vv, HWB.out.1, HWB.out.2, HUV.out, rfl⟩
          case measure => omega
      · obtain rfl : j = 8 := by omega
        go_wp2
        go_meet
        case rel => exact ⟨ms, HALL.out, by rw [HML.out]; omega, HR.out, HF.out, HY.out, HX.out, HBW.out⟩
  case rest =>
  obtain ⟨ms0, hall0, hml0, hrg0, hcf0, hty0, hkx0, hbw0⟩ := hcut
  have TY0 := hide hty0
  clear hty0
  have HALL0 := hide hall0
  have HML0 := hide hml0
  have HR0 := hide hrg0
  have HF0 := hide hcf0
  have HX0 := hide hkx0
  have HBW0 := hide hbw0
  clear hall0 hml0 hrg0 hcf0 hkx0 hbw0 RG8 CD8 KN KX8 CF8 TY8 BW8
  go_upto_block 2 with fail
  go_cut [] (fun wx => ∃ ms : List Mc, (∀ x ∈ ms, ∃ (wh : Nat) (v : Int), 3 ≤ wh ∧ wh ≤ 6 ∧ Go.Proofs.YtepngbdjobckbaaGreat.u64 v ∧ x = mc0 wh 0 0 v) ∧ ms.length ≤ 8 + shuts ∧ (0 < shuts → ∃ (k : Nat) (x : Mc), ms[k]? = some x ∧ x.what = 5) ∧ Rg wx G G { st0 l1 s tn with ms := ms } ∧ Below gC w wx)
  case first =>
    go_wp2_with fail
    go_loopg [14] shuts (fun g i wr => ∃ (j : Nat) (ms : List Mc), g + j = shuts ∧ i = .int .i64 j ∧ ms.length ≤ 8 + j ∧ (∀ x ∈ ms, ∃ (wh : Nat) (v : Int), 3 ≤ wh ∧ wh ≤ 6 ∧ Go.Proofs.YtepngbdjobckbaaGreat.u64 v ∧ x = mc0 wh 0 0 v) ∧ (0 < j → ∃ (k : Nat) (x : Mc), ms[k]? = some x ∧ x.what = 5) ∧ Rg wr G G { st0 l1 s tn with ms := ms } ∧ Bk wr gX 30 #[.slice (some ⟨gA, 0, none⟩) n c, .slice B n d, .int .i64 tn] ∧ Cf wr (some ⟨gA, 0, none⟩) n l1 ∧ TyA wr (some ⟨gA, 0, none⟩) n 3 ∧ Below gC w wr)
    case atStart => exact ⟨0, ms0, by omega, rfl, HML0.out, HALL0.out, fun h => absurd h (by omega), HR0.out, HX0.out, HF0.out, TY0.out, HBW0.out⟩
    case round =>
      obtain ⟨j, ms, hj, rfl, hml, hall, hsx, hrg, hkx, hcf, hty, hbw⟩ := hrel
      have HML := hide hml
      have HALL := hide hall
      have HSX := hide hsx
      have HR5 := hide hrg
      have HX5 := hide hkx
      have HF5 := hide hcf
      have HY5 := hide hty
      have HBW5 := hide hbw
      clear hml hall hsx hrg hkx hcf hty hbw HALL0 HML0 HR0 HF0 HX0 HBW0 TY0
      by_cases hlt : j < shuts
      · go_upto_region 14 with fail
        obtain ⟨wo, hwo⟩ : ∃ q, q = wr := ⟨_, rfl⟩
        subst hwo
        have hbd := (Below.refl wo.heap.size wo).drew
        obtain ⟨⟨h, hr⟩, hi⟩ := HR5.out.below hbd
        have HR := hide hr
        have HI := hide hi
        replace HX5 := hide (HX5.out.below hbd HX5.out.lt)
        replace HF5 := hide (HF5.out.below hbd)
        replace HY5 := hide (HY5.out.below hbd)
        replace HBW5 := hide (HBW5.out.trans (hbd.mono (by have := HR5.out.row6.2.1; omega)))
        have hvl : h.ls.length = ms.length := hr.ml.1
        have HVL := hide hvl
        have TT := hide (fun (W : World) (hR : RgH W G G h { st0 l1 s tn with ms := ms }) (hX : Bk W gX 30 #[.slice (some ⟨gA, 0, none⟩) n c, .slice B n d, .int .i64 tn]) => show W.cell? ⟨G, 6, none⟩ = some h.vL ∧ W.cell? ⟨gX, 0, none⟩ = some (.slice (some ⟨gA, 0, none⟩) n c) ∧ W.cell? ⟨gX, 1, none⟩ = some (.slice B n d) ∧ W.cell? ⟨gX, 2, none⟩ = some (.int .i64 tn) by
          obtain ⟨f0, f1, f2, -⟩ := bkm3 hX
          exact ⟨hR.bk.cell 6, f0, f1, f2⟩)
        clear hr hi hbd HR5 hvl
        refine wp_region_L (fun W => W.cell? ⟨G, 6, none⟩ = some h.vL ∧ W.cell? ⟨gX, 0, none⟩ = some (.slice (some ⟨gA, 0, none⟩) n c) ∧ W.cell? ⟨gX, 1, none⟩ = some (.slice B n d) ∧ W.cell? ⟨gX, 2, none⟩ = some (.int .i64 tn)) 8 (by kernel_rfl) ?_
        generalize wo.drew = xd at *
        refine wpAnyL_any (i := 0) (oi := ⟨some 70, _, _, _, _, _⟩) (v := ?vve14_0_1) rfl (by kernel_rfl) (by kernel_rfl) (by kernel_rfl) (by kernel_rfl) (fun _ _ _ h => h) (fun _ => (TT.out _ HR.out HX5.out)) (by rfl) ?hhe14_0_1 ?rre14_0_1
        case hhe14_0_1 => (intro W; go_simp; try with_reducible rfl)
        (try simp only [Act.put, List.setIfInBounds_toArray, List.set_cons_zero, List.set_cons_succ])
        refine wpAnyL_any (i := 1) (oi := ⟨some 71, _, _, _, _, _⟩) (v := ?vve14_1_2) rfl (by kernel_rfl) (by kernel_rfl) (by kernel_rfl) (by kernel_rfl) (fun _ _ _ h => h) (fun _ => (TT.out _ HR.out HX5.out)) (by rfl) ?hhe14_1_2 ?rre14_1_2
        case hhe14_1_2 => (intro W; go_simp; try with_reducible rfl)
        (try simp only [Act.put, List.setIfInBounds_toArray, List.set_cons_zero, List.set_cons_succ])
        refine wpAnyL_any (i := 2) (oi := ⟨some 72, _, _, _, _, _⟩) (v := ?vve14_2_3) rfl (by kernel_rfl) (by kernel_rfl) (by kernel_rfl) (by kernel_rfl) (fun _ _ _ h => h) (fun _ => (TT.out _ HR.out HX5.out)) (by rfl) ?hhe14_2_3 ?rre14_2_3
        case hhe14_2_3 => (intro W; go_simp; try with_reducible rfl)
        (try simp only [Act.put, List.setIfInBounds_toArray, List.set_cons_zero, List.set_cons_succ])
        refine wpAnyL_any (i := 3) (oi := ⟨some 73, _, _, _, _, _⟩) (v := ?vve14_3_4) rfl (by kernel_rfl) (by kernel_rfl) (by kernel_rfl) (by kernel_rfl) (fun _ _ _ h => h) (fun _ => (TT.out _ HR.out HX5.out)) (by rfl) ?hhe14_3_4 ?rre14_3_4
        case hhe14_3_4 => (intro W; go_simp; try with_reducible rfl)
        (try simp only [Act.put, List.setIfInBounds_toArray, List.set_cons_zero, List.set_cons_succ])
        refine wpAnyL_take (i := 4) (oi := ⟨some 74, _, _, _, _, _⟩) [8, 9, 10, 11] (v := ?vve14_4_5) rfl (by kernel_rfl) (by kernel_rfl) (by kernel_rfl) (by kernel_rfl) (fun _ _ _ h => h) (TT.out _ HR.out HX5.out) (by rfl) ?hhe14_4_5 ?rre14_4_5
        case hhe14_4_5 => (intro W hW; obtain ⟨k6, f0, f1, f2⟩ := hW; go_simp; try with_reducible rfl)
        (try simp only [Act.put, List.setIfInBounds_toArray, List.set_cons_zero, List.set_cons_succ])
        refine wpAnyL_take (i := 5) (oi := ⟨some 75, _, _, _, _, _⟩) [6, 7, 8, 9, 10, 11] (v := ?vve14_5_6) rfl (by kernel_rfl) (by kernel_rfl) (by kernel_rfl) (by kernel_rfl) (fun _ _ _ h => h) (TT.out _ HR.out HX5.out) (by rfl) ?hhe14_5_6 ?rre14_5_6
        case hhe14_5_6 => (intro W hW; obtain ⟨k6, f0, f1, f2⟩ := hW; go_simp; try with_reducible rfl)
        (try simp only [Act.put, List.setIfInBounds_toArray, List.set_cons_zero, List.set_cons_succ])
        refine wpAnyL_one (i := 6) (oi := ⟨some 76, _, _, _, _, _⟩) rfl (by kernel_rfl) (fun K hK => ?_)
        refine step_call _ (by rfl) 24 _ (by go_simp) (mq_begin _ (some ⟨gA, 0, none⟩) n c l1 B n d tn HF5.out dnn.out 5 (by omega) (by omega) 0 z_u64) ?_
        rintro e z14_6 ⟨cs, rfl, hm, hb⟩
        obtain ⟨val2, code2, pc2, FA2, fn2, fc2, FB2, fm2, fd2, q2, rfl, -, -⟩ := id hm
        refine ⟨_, rfl, ?_⟩
        rw [show (mc0 5 0 0 0).what = 5 from rfl] at hm ⊢
        unfold mqc at hm ⊢
        have MQ := hide hm
        replace HX5 := hide (HX5.out.below hb HX5.out.lt)
        replace HF5 := hide (HF5.out.below hb)
        replace HY5 := hide (HY5.out.below hb)
        replace HBW5 := hide (HBW5.out.trans (hb.mono (Nat.le_trans (Nat.le_of_lt hGC) HR.out.base_le)))
        replace HR := hide (HR.out.below hb)
        clear hm hb
        rw [show ((5 : Nat) : Int) = 5 from rfl] at MQ ⊢
        refine hK.out _ _ (fun _ => (TT.out _ HR.out HX5.out)) ?_
        clear hK K
        (try simp only [Act.put, List.setIfInBounds_toArray, List.set_cons_zero, List.set_cons_succ])
        refine wpAnyL_one (i := 7) (oi := ⟨some 77, _, _, _, _, _⟩) rfl (by kernel_rfl) (fun K hK => ?_)
        go_simp
        have KE := hide (Bk.new z14_6 53 #[.int .i64 5, .int .u64 val2, .int .i64 code2, .int .i64 pc2, .slice FA2 fn2 fc2, .slice FB2 fm2 fd2, .slice none 0 0])
        have hb := below_new z14_6 (.cells #[.int .i64 5, .int .u64 val2, .int .i64 code2, .int .i64 pc2, .slice FA2 fn2 fc2, .slice FB2 fm2 fd2, .slice none 0 0] 53)
        replace MQ := hide (MQ.out.below hb)
        replace HX5 := hide (HX5.out.below hb HX5.out.lt)
        replace HF5 := hide (HF5.out.below hb)
        replace HY5 := hide (HY5.out.below hb)
        replace HBW5 := hide (HBW5.out.trans (hb.mono (Nat.le_trans (Nat.le_of_lt hGC) HR.out.base_le)))
        replace HR := hide (HR.out.below hb)
        clear hb
        generalize (World.alloc z14_6 (.cells #[.int .i64 5, .int .u64 val2, .int .i64 code2, .int .i64 pc2, .slice FA2 fn2 fc2, .slice FB2 fm2 fd2, .slice none 0 0] 53)) = z14_6_7 at *
        generalize (z14_6).heap.size = gE at *
        refine hK.out _ _ (fun _ => (TT.out _ HR.out HX5.out)) ?_
        clear hK K
        (try simp only [Act.put, List.setIfInBounds_toArray, List.set_cons_zero, List.set_cons_succ])
        refine wpAnyL_one (i := 8) (oi := ⟨some 78, _, _, _, _, _⟩) rfl (by kernel_rfl) (fun K hK => ?_)
        have rL : World.ownsRow z14_6_7 G 53 7 h.vL h.ls.length (h.ls.flatMap Array.toList) := HR.out.rL
        refine step_push3 z14_6_7 (by rfl) (.tmp 74) (.tmp 77) _ (by rfl) G 53 qi _ 7 104 Tryz.underlying34 hqi hqz hqsz hqby (by rfl) (by decide) _ _ _ (by rfl) rL [.int .i64 5, .int .u64 val2, .int .i64 code2, .int .i64 pc2, .slice FA2 fn2 fc2, .slice FB2 fm2 fd2, .slice none 0 0] ⟨gE, 0, none⟩ (by rfl) (cells_bkR KE.out) (by rfl) (by simp [Value.oneCell']) (by have := HVL.out; have := HML.out; omega) (by omega) HR.out.base_le ?_
        intro vL2 z14_6_7_8 hown hg hv
        obtain ⟨LA2, LC2, rfl, -⟩ := own_form hown
        have kk : ∀ T, T ≠ 53 → Kp z14_6_7 z14_6_7_8 T := fun T hne => kp_oth hg (Oth.own rL hne)
        replace HX5 := hide (kk _ (by decide) _ _ HX5.out)
        replace HF5 := hide (HF5.out.kp HY5.out (kk _ (by decide)))
        replace HY5 := hide (HY5.out.kp (kk _ (by decide)))
        have hbb := own_below rL hg (Nat.le_refl _) HR.out.base_le
        replace HBW5 := hide (HBW5.out.trans (hbb.mono (Nat.le_of_lt hGC)))
        have HR2 := hide (HR.out.pushL #[.int .i64 5, .int .u64 val2, .int .i64 code2, .int .i64 pc2, .slice FA2 fn2 fc2, .slice FB2 fm2 fd2, .slice none 0 0] (mc0 5 0 0 0) MQ.out (.slice LA2 (h.ls.length + 1) LC2) hown hg)
        have bkR := hide (kk 37 (by decide) _ _ HR.out.bk)
        clear kk hown hg hv KE HR hbb rL MQ
        refine hK.out _ _ (fun h => by first | cases h | simp at h) ?_
        clear hK K
        (try simp only [Act.put, List.setIfInBounds_toArray, List.set_cons_zero, List.set_cons_succ])
        refine wpAnyL_any (i := 9) (oi := ⟨some 79, _, _, _, _, _⟩) (v := ?vve14_9_7) rfl (by kernel_rfl) (by kernel_rfl) (by kernel_rfl) (by kernel_rfl) (fun _ _ _ h => h) (fun h => by first | cases h | simp at h) (by rfl) ?hhe14_9_7 ?rre14_9_7
        case hhe14_9_7 => (intro W; go_simp; try with_reducible rfl)
        (try simp only [Act.put, List.setIfInBounds_toArray, List.set_cons_zero, List.set_cons_succ])
        refine wpAnyL_any (i := 10) (oi := ⟨some 80, _, _, _, _, _⟩) (v := ?vve14_10_8) rfl (by kernel_rfl) (by kernel_rfl) (by kernel_rfl) (by kernel_rfl) (fun _ _ _ h => h) (fun h => by first | cases h | simp at h) (by rfl) ?hhe14_10_8 ?rre14_10_8
        case hhe14_10_8 => (intro W; go_simp; try with_reducible rfl)
        (try simp only [Act.put, List.setIfInBounds_toArray, List.set_cons_zero, List.set_cons_succ])
        refine wpAnyL_one (i := 11) (oi := ⟨none, _, _, _, _, _⟩) rfl (by kernel_rfl) (fun K hK => ?_)
        have bkr := bkR.out
        rw [Hr.cells] at bkr
        obtain ⟨-, -, -, -, -, -, k6, -, -, kf⟩ := bk9 bkr
        go_simp
        clear k6 kf bkr
        have hs : Below G z14_6_7_8 (World.setCell z14_6_7_8 ⟨G, 6, none⟩ (.slice LA2 (h.ls.length + 1) LC2)) := (Below.refl G z14_6_7_8).setCell (p := ⟨G, 6, none⟩) (Nat.le_refl _) _
        have kk : ∀ T, T ≠ 37 → Kp z14_6_7_8 (World.setCell z14_6_7_8 ⟨G, 6, none⟩ (.slice LA2 (h.ls.length + 1) LC2)) T := fun T hne => kp_set bkR.out hne 6 (.slice LA2 (h.ls.length + 1) LC2)
        replace HX5 := hide (kk _ (by decide) _ _ HX5.out)
        replace HF5 := hide (HF5.out.kp HY5.out (kk _ (by decide)))
        replace HY5 := hide (HY5.out.kp (kk _ (by decide)))
        replace HBW5 := hide (HBW5.out.trans (hs.mono (Nat.le_of_lt hGC)))
        clear kk hs bkR
        generalize (World.setCell z14_6_7_8 ⟨G, 6, none⟩ (.slice LA2 (h.ls.length + 1) LC2)) = z14_6_7_8_11 at *
        refine hK.out _ _ (fun h => by first | cases h | simp at h) ?_
        clear hK K
        (try simp only [Act.put, List.setIfInBounds_toArray, List.set_cons_zero, List.set_cons_succ])
        refine wpAnyL_done (by kernel_rfl) ?_ _
        go_wp2
        go_roundg (gk - 1)
        case rel =>
          refine ⟨j + 1, ms ++ [mc0 5 0 0 0], by omega, by go_num, by have := HML.out; simp; omega, fun x hx => ?_, fun _ => ⟨ms.length, mc0 5 0 0 0, by simp, rfl⟩, ⟨⟨_, HR2.out⟩, HI.out.add (mv0 (by omega) (by omega) (show 0 < l1.length by rw [HL2.out]; exact dnn.out) (by omega) z_u64)⟩, HX5.out, HF5.out, HY5.out, HBW5.out⟩
          rcases List.mem_append.1 hx with h | h
          · exact HALL.out x h
          · rw [List.mem_singleton.1 h]
            exact ⟨5, 0, by omega, by omega, z_u64, rfl⟩
        case measure => omega
      · obtain rfl : j = shuts := by omega
        go_wp2
        go_meet
        case rel => exact ⟨ms, HALL.out, HML.out, HSX.out, HR5.out, HBW5.out⟩
  case rest =>
  obtain ⟨ms, hall1, hml1, hsx1, hrg1, hbw1⟩ := hcut
  obtain ⟨K, hK⟩ : ∃ K, ms.length = K := ⟨_, rfl⟩
  obtain ⟨s0, hs0⟩ : ∃ q : St, q = { st0 l1 s tn with ms := ms } := ⟨_, rfl⟩
  have HS0 := hide hs0
  have hcap := HCAP.out
  have RUN := hide (show RunOk shuts l1 s tn ms from ⟨HCAP.out, by rw [HL2.out]; omega, HC0.out.1, SB.out, by rw [HL2.out]; exact HSL.out, hall1, hml1, hsx1⟩)
  have H0 : Hid (Pr gC w wc G K 0 s0) := hide ⟨by rw [hs0]; exact hrg1, hbw1, Nat.le_of_lt hGC, by rw [hs0]; exact hK, by rw [hs0]; exact Nat.le_refl 0⟩
  have hk2 : K ≤ 20 := by omega
  have HKE : Hid (s0.ms.length = K) := hide (by rw [hs0]; exact hK)
  clear hall1 hml1 hsx1 hrg1 hbw1 hs0 hK HALL0 HML0 HR0 HF0 HX0 HBW0 TY0 hcap
  have HL := hide H2.out.len
  go_upto_block 4 with fail
  go_cut [] (fun wx => Pr gC w wx G K 1100 (pl1 p s0 (min p.length 200)))
  case first =>
    go_wp2_with fail
    go_loopg [15] (min len1 200) (fun g i wr => ∃ j : Nat, g + j = min len1 200 ∧ i = .int .i64 j ∧ Pr gC w wr G K (100 + j) (pl1 p s0 j))
    case atStart => exact ⟨0, by omega, rfl, H0.out.rg, H0.out.bl, H0.out.le, H0.out.len, by have := H0.out.tr; show s0.tr.length ≤ _; omega⟩
    case round =>
      obtain ⟨j, hj, rfl, hpi⟩ := hrel
      have H1p := hide hpi
      obtain ⟨hbG, hGl, LA, lc, k6⟩ := hpi.rg.row6
      rw [hpi.len] at k6
      clear hpi H0
      by_cases hk0 : K = 0
      · have HX := hide (show pl1 p s0 j = pl1 p s0 (min p.length 200) by rw [pl1_none (by rw [HKE.out, hk0]), pl1_none (by rw [HKE.out, hk0])])
        have dk2 : decide ((0 : Int) < (K : Int)) = false := by simp; omega
        by_cases hl1 : j < len1
        · by_cases hl3 : j < 200
          · go_wp2
            go_meet
            case rel => exact ⟨by rw [← HX.out]; exact H1p.out.rg, H1p.out.bl, H1p.out.le, by rw [← HX.out]; exact H1p.out.len, by rw [← HX.out]; exact Nat.le_trans H1p.out.tr (by omega)⟩
          · have dx : decide ((j : Int) < 200) = false := by simp; omega
            go_wp2
            go_meet
            case rel => exact ⟨by rw [← HX.out]; exact H1p.out.rg, H1p.out.bl, H1p.out.le, by rw [← HX.out]; exact H1p.out.len, by rw [← HX.out]; exact Nat.le_trans H1p.out.tr (by omega)⟩
        · have dx : decide (j < len1) = false := by simp; omega
          go_wp2
          go_meet
          case rel => exact ⟨by rw [← HX.out]; exact H1p.out.rg, H1p.out.bl, H1p.out.le, by rw [← HX.out]; exact H1p.out.len, by rw [← HX.out]; exact Nat.le_trans H1p.out.tr (by omega)⟩
      have hk1 : 0 < K := by omega
      have dk : ((K : Int) == 0) = false := by simp; omega
      have dk2 : decide ((0 : Int) < (K : Int)) = true := by simp; omega
      by_cases hlt : j < min len1 200
      · have hjn : j < len1 := by omega
        have hjm : j < 200 := by omega
        obtain ⟨ad, rfl, hab, hc⟩ := H2.out.at_ hjn
        have hm' : p.getD j 0 ∈ p := by
          have := HL.out
          rw [List.getD, List.getElem?_eq_getElem (by omega)]
          exact List.getElem_mem _
        have hpv := HB2.out _ hm'
        have HC := hide (show wr.cell? (ad.add j) = some (.int .u8 (p.getD j 0)) from (H1p.out.bl.cell (by rw [block_add, ← HGC.out]; exact hab)).trans hc)
        have hcb := block_lt HC.out
        obtain ⟨r, hr⟩ : ∃ r : Nat, (p.getD j 0) % (K : Int) = r := Int.eq_ofNat_of_zero_le (Int.emod_nonneg _ (by omega))
        have hrK : r < K := by have := Int.emod_lt_of_pos (p.getD j 0) (show 0 < (K : Int) by omega); omega
        have HX := hide (show pl1 p s0 (j + 1) = stp (pl1 p s0 j) r by rw [pl1, HKE.out, hr]; rfl)
        have eT : (p.getD j 0).tmod (K : Int) = (r : Int) := by rw [Int.tmod_eq_emod_of_nonneg hpv.1, hr]
        have eW : IntKind.i64.wrap (r : Int) = (r : Int) := IntWalk.i64_in _ ⟨by omega, by omega⟩
        have eV : IntKind.i64.wrap (p.getD j 0) = p.getD j 0 := IntWalk.i64_in _ ⟨by omega, by omega⟩
        have cA := HC.out
        generalize p.getD j 0 = pv at *
        have ST := hide (Pr.step (H1p.out.below (Below.refl wr.heap.size wr).drew) hrK (by omega))
        clear hc hm' hr HC
        go_upto_region 18 with fail
        go_region_law (first
          | (refine step_call _ (by rfl) 25 _ (by go_simp) ST.out ?_; rintro e w3 ⟨rfl, hpi3⟩; refine ⟨_, rfl, ?_⟩; have H3 := hide hpi3; clear hpi3))
        all_goals
          go_wp2
          go_roundg (gk - 1)
          case rel => exact ⟨j + 1, by omega, by go_num, by rw [HX.out]; exact H3.out⟩
          case measure => omega
      · obtain rfl : j = min len1 200 := by omega
        have hex : decide (min len1 200 < len1) = false ∨ decide (min len1 200 < len1) = true ∧ decide (((min len1 200 : Nat) : Int) < 200) = false := by
          by_cases h1 : len1 ≤ 200
          · left; rw [Nat.min_eq_left h1]; simp
          · right; rw [Nat.min_eq_right (by omega)]; exact ⟨by simp; omega, by simp⟩
        have HX := hide (show pl1 p s0 (min len1 200) = pl1 p s0 (min p.length 200) by rw [HL.out])
        have hmj : min len1 200 ≤ 200 := Nat.min_le_right _ _
        generalize min len1 200 = J at *
        rcases hex with hx1 | ⟨hx1, hx2⟩
        all_goals
          go_wp2
          go_meet
          case rel => exact ⟨by rw [← HX.out]; exact H1p.out.rg, H1p.out.bl, H1p.out.le, by rw [← HX.out]; exact H1p.out.len, by rw [← HX.out]; exact Nat.le_trans H1p.out.tr (by omega)⟩
  case rest =>
  have H2p := hide hcut
  have HPL := hide (show plays p 200 200 s0 = pl2 K (pl1 p s0 (min p.length 200)) 200 by rw [plays, HKE.out])
  clear hcut H0
  generalize pl1 p s0 (min p.length 200) = s1 at *
  go_wp2_with fail
  go_loopg [16, 17, 121] 200 (fun g s16 s17 s121 wr2 => ∃ m : Nat, g + m = 200 ∧ s16 = .int .i64 m ∧ Pr gC w wr2 G K (1100 + m * K) (pl2 K s1 m))
  case atStart => exact ⟨0, by omega, rfl, by rw [Nat.zero_mul]; exact H2p.out⟩
  case round =>
    obtain ⟨m, hm2, rfl, hpi⟩ := hrel
    have H3 := hide hpi
    clear hpi H2p
    by_cases hmt : m < 200
    · obtain ⟨-, hGl3, LA3, lc3, k63⟩ := H3.out.rg.row6
      rw [H3.out.len] at k63
      have hmK : m * K ≤ 20000 := Nat.le_trans (Nat.mul_le_mul (show m ≤ 1000 by omega) hk2) (by omega)
      have hmi : (m : Int) < 200 := by omega
      go_wp2
      clear hmi
      go_loopg [17, 121] K (fun g s17 s121 wr3 => ∃ i : Nat, g + i = K ∧ s121 = .int .i64 i ∧ Pr gC w wr3 G K (1100 + m * K + i) (pl3 (pl2 K s1 m) i))
      case atStart => exact ⟨0, by omega, rfl, H3.out⟩
      case round =>
        obtain ⟨i, hi, rfl, hpi⟩ := hrel
        have H4 := hide hpi
        clear hpi
        by_cases hiK : i < K
        · have ST := hide (Pr.step H4.out hiK (by omega))
          go_wp2_with fail
          refine ST.out.mono ?_
          rintro e w3 ⟨rfl, hpi3⟩
          have H5 := hide hpi3
          clear hpi3 ST
          go_wp2
          go_roundg (gk - 1)
          case rel => exact ⟨i + 1, by omega, by go_num, H5.out⟩
          case measure => omega
        · obtain rfl : i = K := by omega
          go_wp2
          go_roundg (200 - m - 1)
          case rel => exact ⟨m + 1, by omega, by go_num, by rw [Nat.succ_mul, ← Nat.add_assoc]; exact H4.out⟩
          case measure => omega
    · obtain rfl : m = 200 := by omega
      go_wp2
      go_ret
      exact ⟨G, l1, s, tn, ms, rfl, by rw [← HS0.out, HPL.out]; exact H3.out.rg, RUN.out, by rw [HGC.out]; exact Nat.le_of_lt hGC, by rw [HGC.out]; exact H3.out.bl⟩
end Go.Proofs.YtepngbdjobckbaaGreat
