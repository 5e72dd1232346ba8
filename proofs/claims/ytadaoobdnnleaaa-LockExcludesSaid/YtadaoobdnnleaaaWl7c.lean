/- The walk of LockExcludes. -/
import Derived.Test.YtadaoobdnnleaaaX7
import Derived.Test.YtadaoobdnnleaaaWl7b
namespace Go.Proofs.Ytadaoobdnnleaaa
open Go.RowKit
set_option linter.unusedVariables false
set_option maxHeartbeats 1000000 in
theorem one7_ty (w : World) :
    Calls Try.prog 21 #[] w fun e w' => ∃ A B, e = .returned (.agg #[.slice A 1 1, .slice B 1 1, .int .i64 2]) ∧ Cf w' A 1 [1] ∧ TyA w' A 1 3 ∧ IsI .u64 w' B 1 [0] ∧ Below w.heap.size w w' := by
  go_enter Try.func21, Try.ntmps21
  go_wp2
  exact bodyPost_ret (v := .agg #[.slice (some ⟨w.heap.size + 1, 0, none⟩) 1 1, .slice (some ⟨w.heap.size + 1 + 1, 0, none⟩) 1 1, .int .i64 2]) (by simp [results, Try.results21, go_sem]) rfl
    ⟨_, _, rfl, ⟨by simpa using (isI_one (w := w.alloc _) (t := 3) (k := .i64) 1).alloc _, by omega, fun x hx => by simp at hx; omega⟩, TyA.bk ((mkb (by simp)).alloc _) 0 1, by simpa using isI_one (w := (w.alloc _).alloc _) (t := 46) (k := .u64) 0, ((below_new _ _).alloc (by simp) _).alloc (by simp; omega) _⟩
theorem store_cells {w : World} {g o : Nat} {cells : Array Value} (ht : w.there g o cells.size) (h1 : cells.all (·.oneCell') = true) : (storeCells ⟨g, o, none⟩ cells.toList).run Try.prog w = .ok () (w.setCells g o cells.toList) := by
  have := run_storeCells_cells (P := Try.prog) g o cells.toList 0 w (fun j hj => by simpa using (ht j (by simpa using hj)).1) (fun j hj => by simpa using (ht j (by simpa using hj)).2)
    (fun v hv => (Array.all_eq_true_iff_forall_mem.1 h1) v (by simpa using hv))
  simpa using this
theorem own_two {w : World} {base g g' n n' m m' cap cap' sz sz' : Nat} {e e' : TypeId} {xs xs' : List Value} (h : w.ownsRow base e sz (.slice (some ⟨g, 0, none⟩) n cap) m xs) (h' : w.ownsRow base e' sz' (.slice (some ⟨g', 0, none⟩) n' cap') m' xs') (hne : e ≠ e') : g ≠ g' := by
  obtain ⟨cur, k⟩ := own_bk h'
  exact own_ne h k (Ne.symm hne)
/-- What is known when a machine and its frame are about to be stored. -/
theorem two_stores {w : World} {G r gL cL gF cF : Nat} {hd : Hd} {st : St} {x : Mc} {q : Fa} {cs : Array Value} (H : WdH w G G 43 hd st) (hr : r < st.ms.length) (hq : r < st.qs.length) (eL : hd.vL = .slice (some ⟨gL, 0, none⟩) st.ms.length cL) (eF : hd.vF = .slice (some ⟨gF, 0, none⟩) hd.fs.length cF) (hf : FrA w cs q) :
    ∃ w5, (storeCells ⟨gL, r * 14, none⟩ (Mc.cells hd.A hd.n hd.c hd.B hd.m hd.d st.th x).toList).run Try.prog w = .ok () w5 ∧
    (∃ a0 a1 a2 a3 a4, w5.rangeAt gF (r * 5) [a0, a1, a2, a3, a4]) ∧
    (∀ j, w5.frozen? ⟨gF, j, none⟩ = false) ∧
    (Bk w5 G 43 (hd.cells st)) ∧
    (∀ wz, wz = w5.setCells gF (r * 5) cs.toList → (∃ hd2, WdH wz G G 43 hd2 { st with ms := st.ms.set r x, qs := st.qs.set r q }) ∧ Below G w wz) := by
  have oL := H.rL
  rw [eL] at oL
  have oF := H.rF
  rw [eF] at oF
  have hxx := List.getElem?_eq_getElem hr
  have hqq := List.getElem?_eq_getElem hq
  have hrg := own_range (mcs_len hd st) oL hxx
  obtain ⟨FA, fn, fc, FB, fm, fd, g2, c2, -, -, e2, hif, hrF⟩ := H.frame hqq
  rw [eF] at e2
  cases e2
  have nLF : gL ≠ gF := own_two oL oF (by decide)
  have nLG : gL ≠ G := own_ne oL H.bk H.tw.2.2.1
  have kk : ∀ T, T ≠ 52 → Kp w (w.setCells gL (r * 14) (Mc.cells hd.A hd.n hd.c hd.B hd.m hd.d st.th x).toList) T := fun T a => kp_own oL a _ _
  have X5 := H.setX eL r hr x
  have hf5 : FrA (w.setCells gL (r * 14) (Mc.cells hd.A hd.n hd.c hd.B hd.m hd.d st.th x).toList) cs q := Fr.kp hf (kk _ (by decide)) (kk _ (by decide))
  have X6 := X5.setQ eF r hif cs q hf5 H.fsz
  have ht14 : w.there gL (r * 14) 14 := there_range hrg (H.frozL eL)
  refine ⟨_, store_cells (cells := Mc.cells hd.A hd.n hd.c hd.B hd.m hd.d st.th x) ht14 (mc_one _ _ _ _ _ _ _ _), ⟨_, _, _, _, _, World.rangeAt_setCells_apart hrF gL (r * 14) _ (Or.inl (Ne.symm nLF))⟩, fun j => ?_, H.bk.grown (grown_sets _ _ w) (by simpa using Ne.symm nLG), fun wz hz => ?_⟩
  · rw [World.frozen?_setCells]
    exact H.frozF eF j
  · subst hz
    exact ⟨⟨_, X6⟩, below_setCells _ _ (below_setCells _ _ (Below.refl G w) (oL.lt gL rfl).1) (oF.lt gF rfl).1⟩
theorem z_u64 : u64 0 := by unfold u64; omega
theorem Inv.put {own : Nat → Prop} {Rp : List Int → Mc → Fa → Prop} {st : St} (H : Inv own Rp st) {r : Nat} {x : Mc} {q : Fa} (hm : Mv st.l.length x) (hr : own x.what → Rp st.l x q) : Inv own Rp { st with ms := st.ms.set r x, qs := st.qs.set r q } := by
  refine ⟨H.cap, by simp [H.ln], fun i y hy => ?_, fun i y p hy hp ho => ?_, H.wu, H.pl⟩
  · rcases set_get hy with ⟨-, rfl⟩ | ⟨-, h⟩
    · exact hm
    · exact H.mv i y h
  · rcases set_get hy with ⟨rfl, rfl⟩ | ⟨hne, h⟩
    · rcases set_get hp with ⟨-, rfl⟩ | ⟨h, -⟩
      · exact hr ho
      · exact absurd rfl h
    · rcases set_get hp with ⟨h1, -⟩ | ⟨-, h'⟩
      · exact absurd h1 hne
      · exact H.rp i y p h h' ho
def hv (h : Option Nat) : Int := match h with | none => -1 | some k => k
set_option maxHeartbeats 4000000 in
set_option maxRecDepth 100000 in
theorem excludes_walk (a0 : Option Addr) (len0 cap0 : Nat) (z0 : List Int) (w : World) (w0 : Row .u8 w a0 len0 cap0 z0) :
    Calls Try.prog 4 #[.slice a0 len0 cap0] w fun e w' => e = .returned (.bool true) ∧ Below w.heap.size w w' := by
  obtain ⟨hI1, hc1, hm1, hwf1⟩ := w0.isI
  have H2 := hide hI1
  have HB2 := hide (show ∀ x ∈ z0.take len0, 0 ≤ x ∧ x ≤ 255 from fun x hx => bounds_u8 (hwf1 x hx))
  clear hwf1 w0 hI1
  generalize z0.take len0 = l1 at H2 HB2
  have HAB := hide (show 0 < len0 → ∀ ad, a0 = some ad → ad.block < w.heap.size from fun h0 ad e => by
    obtain ⟨ad', e', _, hcl⟩ := H2.out.at_ h0
    rw [e] at e'
    cases e'
    have := block_lt hcl
    rwa [block_add] at this)
  have hcm : cap0 ≤ 9223372036854775807 := hm1
  clear hm1
  go_enter Try.func4, Try.ntmps4
  go_wp2_with fail
  refine (awake7_any _).mono ?_
  rintro e y1 ⟨rfl, hb1⟩
  have hs1 := hb1.size
  go_wp2_with fail
  refine (one7_ty y1).mono ?_
  rintro e y2 ⟨A, B, rfl, hcf, hty, hsi, hb2⟩
  have BW2 := hide (hb1.trans (hb2.mono hs1))
  have CF := hide hcf
  have TY := hide hty
  have SI := hide hsi
  have hst : ∀ x ∈ [(0 : Int)], 0 ≤ x ∧ x < 9223372036854775808 := fun x hx => by simp at hx; omega
  have SB := hide hst
  clear hb1 hb2 hcf hty hsi hst
  go_wp2_with fail
  refine (begin_any y2 A 1 1 [1] B 1 [0] 2 CF.out SI.out SB.out (by omega) (by omega)).mono ?_
  rintro e y4 ⟨gW, gL, rfl, hk, hgw, hb4⟩
  have BW4 := hide (BW2.out.trans (hb4.mono BW2.out.size))
  have CF4 := hide (CF.out.below hb4)
  have TY4 := hide (TY.out.below hb4)
  have HK := hide hk
  clear hk hgw hb4 BW2 CF TY SI
  have WI0 := hide (wi_new (own := Own7) (Rp := Rp7) (TW := 43) (gL := gL) (B := B) (d := 1) (s := [0]) (c := 1) (tn := 2) (by unfold TWok; decide) CF4.out TY4.out SB.out (by omega) HK.out)
  have BW5 := hide (BW4.out.trans ((below_new y4 (.cells #[.slice A 1 1, .slice B 1 1, .int .i64 (2 : Nat), .slice (some ⟨gW, 0, none⟩) (totI [1] 2) (totI [1] 2), .slice (some ⟨gL, 0, none⟩) (2 * 1) (2 * 1), .int .i64 0, .slice none 0 0, .slice none 0 0, .slice none 0 0, .slice none 0 0] 43)).mono BW4.out.size))
  have hwG : w.heap.size ≤ y4.heap.size := BW4.out.size
  clear CF4 TY4 HK BW4 SB
  go_wp2
  generalize y4.heap.size = G at *
  go_loopg [4] 4 (fun g i wr => ∃ (j : Nat), g + j = 4 ∧ i = .int .i64 j ∧ WI Own7 Rp7 wr G G 43 { st0 [1] [0] 2 with ms := List.replicate j tk0 } ∧ Below w.heap.size w wr)
  case atStart => exact ⟨0, by omega, rfl, WI0.out, BW5.out⟩
  case round =>
    obtain ⟨j, hj, rfl, hwi, hbw⟩ := hrel
    have HI := hide hwi
    have HW := hide hbw
    clear hwi hbw WI0 BW5
    by_cases hlt : j < 4
    · have AD := hide (add7_wi wr G G _ 1 0 0 0 HI.out (Or.inl rfl) (by show 0 < 1; omega) (by omega) (by unfold u64; omega) (by show (List.replicate j tk0).length ≤ 1000; simp; omega))
      go_wp2_with fail
      refine AD.out.mono ?_
      rintro e w5 ⟨rfl, hw5, hb5⟩
      have WI5 := hide hw5
      have BW5 := hide (HW.out.trans (hb5.mono hwG))
      clear hw5 hb5 AD
      go_wp2
      go_roundg (gk - 1)
      case rel => exact ⟨j + 1, by omega, by go_num, by rw [List.replicate_succ']; exact WI5.out, BW5.out⟩
      case measure => omega
    · obtain rfl : j = 4 := by omega
      have hini : Hl none { st0 [1] [0] 2 with ms := List.replicate 4 tk0 } := ⟨rfl, rfl, by decide +kernel, by decide +kernel, fun i x h => by
        rw [if_neg (by simp)]
        exact (List.eq_of_mem_replicate (List.mem_of_getElem? h))⟩
      have H0 := hide hini
      clear hini
      go_wp2
      go_loopg [5, 6, 7, 8, 9] (min len0 80) (fun g s5 s6 s7 s8 s9 wr2 => ∃ (j : Nat) (h : Option Nat) (s : St), g + j = min len0 80 ∧ s5 = .int .i64 (hv h) ∧ s6 = .int .i64 j ∧ Hl h s ∧ (∀ k, h = some k → k < 4) ∧ WI Own7 Rp7 wr2 G G 43 s ∧ Below w.heap.size w wr2 ∧ s.tr.length ≤ j)
      case atStart => exact ⟨0, none, _, by omega, rfl, rfl, H0.out, fun k h => by simp at h, HI.out, HW.out, Nat.le_refl _⟩
      case round =>
        obtain ⟨j, h, s, hj, rfl, rfl, hhl, hk4, hwi, hbw, htr⟩ := hrel
        have HH := hide hhl
        have HI2 := hide hwi
        have HW2 := hide hbw
        have HK4 := hide hk4
        clear hhl hwi hbw hk4 H0 HI HW
        by_cases hlt : j < min len0 80
        · have hjn : j < len0 := by omega
          have hjm : j < 80 := by omega
          obtain ⟨ad, rfl, _, hc⟩ := H2.out.at_ hjn
          have hm' : l1.getD j 0 ∈ l1 := by
            have := H2.out.len
            rw [List.getD, List.getElem?_eq_getElem (by omega)]
            exact List.getElem_mem _
          have hpv := HB2.out _ hm'
          have HC := hide (show wr.cell? (ad.add j) = some (.int .u8 (l1.getD j 0)) from (HW2.out.cell (by rw [block_add]; exact HAB.out (by omega) ad rfl)).trans hc)
          have hcb := block_lt HC.out
          obtain ⟨r, hr⟩ : ∃ r : Nat, (l1.getD j 0) % 4 = r := Int.eq_ofNat_of_zero_le (Int.emod_nonneg _ (by omega))
          have hrK : r < 4 := by omega
          have eT : (l1.getD j 0).tmod 4 = (r : Int) := by rw [Int.tmod_eq_emod_of_nonneg hpv.1, hr]
          have eW : IntKind.i64.wrap (r : Int) = (r : Int) := IntWalk.i64_in _ ⟨by omega, by omega⟩
          have eV : IntKind.i64.wrap (l1.getD j 0) = l1.getD j 0 := IntWalk.i64_in _ ⟨by omega, by omega⟩
          have cA := HC.out
          generalize l1.getD j 0 = pv at *
          clear hc hm' hr HC
          have hcase : ((r : Int) == hv h) = false ∧ h ≠ some r ∨ h = some r := by
            cases h with
            | none => left; exact ⟨by simp [hv] <;> omega, by simp⟩
            | some k =>
              by_cases e : k = r
              · right; rw [e]
              · left; exact ⟨by simp [hv] <;> omega, by simpa using e⟩
          rcases hcase with ⟨hne, hnh⟩ | hyes
          · have hms : r < s.ms.length := by rw [HH.out.len]; exact hrK
            have ST := hide (step7_any knows7 wr G G r s HI2.out hms (by omega))
            have HNH := hide hnh
            clear hnh
            go_wp2_with fail
            refine ST.out.mono ?_
            rintro e w3 ⟨rfl, hw3, hb3⟩
            have hres : ∃ (h' : Option Nat) (x3 : Mc), Hl h' (stp s r) ∧ (∀ k, h' = some k → k < 4) ∧ (stp s r).ms[r]? = some x3 ∧ (h = none ∧ h' = some r ∧ x3 = tkD ∨ (∃ k, h = some k) ∧ h' = h ∧ x3 = tk0) := by
              cases h with
              | none =>
                have t := HH.out.take hrK
                have hr3 : r < (stp s r).ms.length := by rw [t.len]; exact hrK
                have e := t.ms r _ (List.getElem?_eq_getElem hr3)
                rw [if_pos rfl] at e
                exact ⟨some r, tkD, t, fun k hk => by cases hk; exact hrK, by rw [List.getElem?_eq_getElem hr3, e], Or.inl ⟨rfl, rfl, rfl⟩⟩
              | some k =>
                have t := HH.out.fail hrK (fun e => HNH.out (by rw [e]))
                exact ⟨some k, tk0, t.1, HK4.out, t.2, Or.inr ⟨⟨k, rfl⟩, rfl, rfl⟩⟩
            obtain ⟨h', x3, hl', hk4', hx3, hcs⟩ := hres
            have HL3 := hide hl'
            have HK3 := hide hk4'
            have W3 := hide hw3
            have BW3 := hide (HW2.out.trans (hb3.mono hwG))
            have htr3 := stp_tr s r
            obtain ⟨qs, ⟨hd, Hw⟩, I⟩ := hw3
            have hql : r < qs.length := by
              have h1 := I.ln
              have h2 := hl'.len
              simp only at h1
              omega
            have hq : qs[r]? = some qs[r] := List.getElem?_eq_getElem hql
            have hx3' : (stp s r).ms[r]? = some x3 := hx3
            obtain ⟨FA, fn, fc, FB, fm, fd, gF, cF, hfr, -, eF, hif, hrF⟩ := Hw.frame hq
            have mv3 := I.mv r x3 hx3
            have ho3 : Own7 x3.what := by rcases hcs with ⟨-, -, rfl⟩ | ⟨-, -, rfl⟩ <;> (unfold Own7; decide)
            have HE := hide (fun W (hW : Below w3.heap.size w3 W) => (knows7.good _ x3 _ I.cap mv3 ho3 (I.rp r x3 _ hx3 hq ho3) W _ (Fr.below hfr hW)).2)
            have bk := Hw.bk
            rw [Hd.cells, eF] at bk
            obtain ⟨-, -, -, -, -, -, -, -, -, k9, -⟩ := bk10 bk
            obtain ⟨f0, f1, f2, f3, f4⟩ := rg5 hrF
            have d1 : decide ((r : Int) < 0) = false := by simp
            have d3 : decide (hd.fs.length ≤ r) = false := by simp; omega
            generalize qs[r] = q at *
            clear hb3 ST HI2 HW2 bk hfr eF hrF Hw I hl' hk4' hx3 hx3' hq mv3 ho3 HNH HH HK4 hql
            rcases hcs with ⟨rfl, rfl, rfl⟩ | ⟨⟨k, rfl⟩, rfl, rfl⟩
            · go_wp2_with fail
              refine (HE.out _ (Below.refl _ _)).mono ?_
              rintro e w4 ⟨rfl, hb4⟩
              have W4 := hide ((W3.out.below hb4).below (below_new w4 (.cells #[.int .i64 1, .int .u64 0] 50)))
              have BW4 := hide ((BW3.out.trans (hb4.mono BW3.out.size)).trans ((below_new w4 (.cells #[.int .i64 1, .int .u64 0] 50)).mono (Nat.le_trans BW3.out.size hb4.size)))
              clear k9 f0 f1 f2 f3 f4 hb4 HE W3 BW3
              simp only [tkD, tk0, mend, mc0]
              have en : hv none = -1 := rfl
              go_wp2
              go_roundg (gk - 1)
              case rel => exact ⟨j + 1, some r, stp s r, by omega, rfl, by go_num, HL3.out, HK3.out, W4.out, BW4.out, by omega⟩
              case measure => omega
            · go_wp2_with fail
              refine (HE.out _ (Below.refl _ _)).mono ?_
              rintro e w4 ⟨rfl, hb4⟩
              have W4 := hide ((W3.out.below hb4).below (below_new w4 (.cells #[.int .i64 0, .int .u64 0] 50)))
              have BW4 := hide ((BW3.out.trans (hb4.mono BW3.out.size)).trans ((below_new w4 (.cells #[.int .i64 0, .int .u64 0] 50)).mono (Nat.le_trans BW3.out.size hb4.size)))
              clear k9 f0 f1 f2 f3 f4 hb4 HE W3 BW3
              simp only [tk0, mc0]
              have en : decide (hv (some k) < 0) = false := by
                show decide (((k : Nat) : Int) < 0) = false
                simp
              go_wp2
              go_roundg (gk - 1)
              case rel => exact ⟨j + 1, some k, stp s r, by omega, rfl, by go_num, HL3.out, HK3.out, W4.out, BW4.out, by omega⟩
              case measure => omega
          · subst hyes
            have e0 : ((r : Int) == hv (some r)) = true := by simp [hv]
            obtain ⟨qs, ⟨hd, Hw⟩, I⟩ := HI2.out
            have hms : r < s.ms.length := (by rw [HH.out.len]; exact hrK)
            have HWD := hide Hw
            have hql : r < qs.length := by
              have h1 : qs.length = s.ms.length := I.ln
              omega
            have hfl : hd.fs.length = qs.length := Hw.fr.1
            obtain ⟨gL, cL, eL, hgL⟩ := Hw.rowL (i := r) hms
            obtain ⟨gF, cF, eF, hgF⟩ := Hw.rowF (i := r) (by rw [hfl]; exact hql)
            have EL := hide eL
            have EF := hide eF
            have bk := Hw.bk
            rw [Hd.cells, eL, eF] at bk
            have bk0 := hide bk
            obtain ⟨k0, k1, k2, -, -, -, k6, -, -, k9, kf⟩ := bk10 bk
            have hGl := bk.lt
            have d1 : decide ((r : Int) < 0) = false := by simp
            have d2 : decide (s.ms.length ≤ r) = false := by simp; omega
            have d3 : decide (hd.fs.length ≤ r) = false := by simp; omega
            have nLG : gL ≠ G := own_ne (by have := Hw.rL; rw [eL] at this; exact this) Hw.bk (by decide)
            have nFG : gF ≠ G := own_ne (by have := Hw.rF; rw [eF] at this; exact this) Hw.bk (by decide)
            have nGL := Ne.symm nLG
            have nGF := Ne.symm nFG
            have NW := hide (fun W => mnew_any W hd.A hd.n hd.c hd.B hd.m hd.d s.th 2 0 0)
            have RL := hide (fun W (hW : Below wr.heap.size wr W) => lockRelease_any W hd.A hd.n hd.c s.l hd.B hd.m hd.d s.th (HWD.out.cf.below hW) 0 (by omega))
            have hGl' := hide (Nat.le_of_lt hGl)
            clear bk eL eF Hw hcb
            go_upto_region 15 with fail
            go_cut [] (fun wx => ∃ hd2, WdH wx G G 43 hd2 { s with ms := s.ms.set r rl0, qs := qs.set r ⟨0, 1, [], [tlN s.l 0 + 2]⟩ } ∧ Below G wr wx)
            case first =>
              go_region_held3 (fun u => u.cell? ⟨G, 0, none⟩ = some (.slice hd.A hd.n hd.c) ∧ u.cell? ⟨G, 1, none⟩ = some (.slice hd.B hd.m hd.d) ∧ u.cell? ⟨G, 2, none⟩ = some (.int .i64 s.th) ∧ u.cell? ⟨G, 6, none⟩ = some (.slice (some ⟨gL, 0, none⟩) s.ms.length cL) ∧ u.cell? ⟨G, 9, none⟩ = some (.slice (some ⟨gF, 0, none⟩) hd.fs.length cF)) (go_keep) (first
                | (go_at_call 23; refine (RL.out _ HB3.out).mono ?_; rintro e w4 ⟨cs, rfl, hf, hb4⟩; have HB4 := hide (HB3.out.trans (hb4.mono HB3.out.size)); obtain ⟨y0, y1', y2', -, -, -, y6, -, -, y9, yf⟩ := bk10 (bk0.out.below HB4.out bk0.out.lt); obtain ⟨FA, fn, fc, FB, fm, fd, rfl, -⟩ := id hf; obtain ⟨w5, hst, ⟨a0', a1', a2', a3', a4', hra⟩, zf, bkz, hWz⟩ := two_stores (x := ⟨2, 1, 0, 0, 0, 0, 0, 0, 0, 0, 0⟩) (q := ⟨0, 1, [], [tlN s.l 0 + 2]⟩) (HWD.out.below HB4.out) hms hql EL.out EF.out hf; obtain ⟨x0, x1, x2, x3, x4⟩ := rg5 hra; rw [Hd.cells, EL.out, EF.out] at bkz; obtain ⟨u0', u1', u2', -, -, -, u6', -, -, u9', uf'⟩ := bk10 bkz; have WZ := hide hWz; clear hra bkz hWz hf hb4)
                | (go_at_call 22; refine (NW.out _).mono ?_; rintro e w3 ⟨rfl, hb3⟩; have HB3 := hide ((Below.refl wr.heap.size wr).drew.trans hb3); obtain ⟨y0, y1', y2', -, -, -, y6, -, -, y9, yf⟩ := bk10 (bk0.out.below HB3.out bk0.out.lt); clear hb3))
              all_goals
                go_wp2_with fail
                go_meet
                case rel =>
                  obtain ⟨⟨hd2, hz⟩, hz2⟩ := WZ.out _ (set5_eq _ _ _ _ _ _ _ _)
                  exact ⟨hd2, hz, (HB4.out.mono hGl'.out).trans hz2⟩
            case rest =>
              obtain ⟨hd2, hz, hbz⟩ := hcut
              have hwi2 : WI Own7 Rp7 wc G G 43 { s with ms := s.ms.set r rl0 } := ⟨_, ⟨hd2, hz⟩, I.put (mv0 (by omega) (by omega) (by show 0 < s.l.length; rw [HH.out.l]; simp) (by omega) z_u64) (fun _ => Or.inr ⟨rfl, rfl, rfl, rfl⟩)⟩
              have HI3 := hide hwi2
              have HW3 := hide (HW2.out.trans (hbz.mono hwG))
              have ST := hide (step7_any knows7 wc G G r _ HI3.out (by show r < (s.ms.set r rl0).length; simpa using hms) (by show s.tr.length ≤ 1000000; omega))
              have htr3 := stp_tr { s with ms := s.ms.set r rl0 } r
              have hbk := HH.out.back hrK
              have HBK := hide hbk
              have hln3 : (stp { s with ms := s.ms.set r rl0 } r).ms.length = 4 := by rw [stp_len]; show (s.ms.set r rl0).length = 4; rw [List.length_set]; exact HH.out.len
              have hll3 : (stp { s with ms := s.ms.set r rl0 } r).l = [1] := hbk.l
              have htr4 : (stp { s with ms := s.ms.set r rl0 } r).tr.length ≤ j + 1 := by have h1 : ({ s with ms := s.ms.set r rl0 } : St).tr.length = s.tr.length := rfl; omega
              clear hz hbz hwi2 HI2 HW2 htr3 hbk HWD I NW RL EL EF bk0
              go_wp2_with fail
              refine ST.out.mono ?_
              rintro e w6 ⟨rfl, hw6, hb6⟩
              generalize stp { s with ms := s.ms.set r rl0 } r = s2 at *
              have HI6 := hide hw6
              have HW6 := hide (HW3.out.trans (hb6.mono hwG))
              clear hw6 hb6 ST HI3 HW3 k0 k1 k2 k6 k9 kf hGl d2 d3 nLG nFG nGL nGF hms hql hfl hgL hgF hGl'
              have HLN3 := hide hln3
              clear hln3
              obtain ⟨qs, ⟨hd, Hw⟩, I⟩ := HI6.out
              have hms : r < s2.ms.length := (by rw [HLN3.out]; exact hrK)
              have HWD := hide Hw
              have hql : r < qs.length := by
                have h1 : qs.length = s2.ms.length := I.ln
                omega
              have hfl : hd.fs.length = qs.length := Hw.fr.1
              obtain ⟨gL, cL, eL, hgL⟩ := Hw.rowL (i := r) hms
              obtain ⟨gF, cF, eF, hgF⟩ := Hw.rowF (i := r) (by rw [hfl]; exact hql)
              have EL := hide eL
              have EF := hide eF
              have bk := Hw.bk
              rw [Hd.cells, eL, eF] at bk
              have bk0 := hide bk
              obtain ⟨k0, k1, k2, -, -, -, k6, -, -, k9, kf⟩ := bk10 bk
              have hGl := bk.lt
              have d1 : decide ((r : Int) < 0) = false := by simp
              have d2 : decide (s2.ms.length ≤ r) = false := by simp; omega
              have d3 : decide (hd.fs.length ≤ r) = false := by simp; omega
              have nLG : gL ≠ G := own_ne (by have := Hw.rL; rw [eL] at this; exact this) Hw.bk (by decide)
              have nFG : gF ≠ G := own_ne (by have := Hw.rF; rw [eF] at this; exact this) Hw.bk (by decide)
              have nGL := Ne.symm nLG
              have nGF := Ne.symm nFG
              have NW := hide (fun W => mnew_any W hd.A hd.n hd.c hd.B hd.m hd.d s2.th 1 0 0)
              have RL := hide (fun W (hW : Below w6.heap.size w6 W) => lockTake_any W hd.A hd.n hd.c s2.l hd.B hd.m hd.d s2.th (HWD.out.cf.below hW) 0 (by omega))
              have hGl' := hide (Nat.le_of_lt hGl)
              clear bk eL eF Hw
              go_upto_region 18 with fail
              go_cut [] (fun wx => ∃ hd2, WdH wx G G 43 hd2 { s2 with ms := s2.ms.set r tk0, qs := qs.set r ⟨0, 0, [], [tlN s2.l 0 + 2]⟩ } ∧ Below G w6 wx)
              case first =>
                go_region_held3 (fun u => u.cell? ⟨G, 0, none⟩ = some (.slice hd.A hd.n hd.c) ∧ u.cell? ⟨G, 1, none⟩ = some (.slice hd.B hd.m hd.d) ∧ u.cell? ⟨G, 2, none⟩ = some (.int .i64 s2.th) ∧ u.cell? ⟨G, 6, none⟩ = some (.slice (some ⟨gL, 0, none⟩) s2.ms.length cL) ∧ u.cell? ⟨G, 9, none⟩ = some (.slice (some ⟨gF, 0, none⟩) hd.fs.length cF)) (go_keep) (first
                  | (go_at_call 25; refine (RL.out _ HB3.out).mono ?_; rintro e w4 ⟨cs, rfl, hf, hb4⟩; have HB4 := hide (HB3.out.trans (hb4.mono HB3.out.size)); obtain ⟨y0, y1', y2', -, -, -, y6, -, -, y9, yf⟩ := bk10 (bk0.out.below HB4.out bk0.out.lt); obtain ⟨FA, fn, fc, FB, fm, fd, rfl, -⟩ := id hf; obtain ⟨w5, hst, ⟨a0', a1', a2', a3', a4', hra⟩, zf, bkz, hWz⟩ := two_stores (x := ⟨1, 1, 0, 0, 0, 0, 0, 0, 0, 0, 0⟩) (q := ⟨0, 0, [], [tlN s2.l 0 + 2]⟩) (HWD.out.below HB4.out) hms hql EL.out EF.out hf; obtain ⟨x0, x1, x2, x3, x4⟩ := rg5 hra; rw [Hd.cells, EL.out, EF.out] at bkz; obtain ⟨u0', u1', u2', -, -, -, u6', -, -, u9', uf'⟩ := bk10 bkz; have WZ := hide hWz; clear hra bkz hWz hf hb4)
                  | (go_at_call 22; refine (NW.out _).mono ?_; rintro e w3 ⟨rfl, hb3⟩; have HB3 := hide ((Below.refl w6.heap.size w6).drew.trans hb3); obtain ⟨y0, y1', y2', -, -, -, y6, -, -, y9, yf⟩ := bk10 (bk0.out.below HB3.out bk0.out.lt); clear hb3))
                all_goals
                  go_wp2_with fail
                  go_meet
                  case rel =>
                    obtain ⟨⟨hd2, hz⟩, hz2⟩ := WZ.out _ (set5_eq _ _ _ _ _ _ _ _)
                    exact ⟨hd2, hz, (HB4.out.mono hGl'.out).trans hz2⟩
              case rest =>
                obtain ⟨hd3, hz3, hbz3⟩ := hcut
                have hwi4 : WI Own7 Rp7 wc G G 43 { s2 with ms := s2.ms.set r tk0 } := ⟨_, ⟨hd3, hz3⟩, I.put (mv0 (by omega) (by omega) (by show 0 < s2.l.length; rw [hll3]; simp) (by omega) z_u64) (fun _ => Or.inr ⟨rfl, rfl, rfl, rfl⟩)⟩
                have HI7 := hide hwi4
                have HW7 := hide (HW6.out.trans (hbz3.mono hwG))
                clear hz3 hbz3 hwi4 HI6 HW6 HWD I NW RL EL EF bk0
                go_wp2
                go_roundg (gk - 1)
                case rel => exact ⟨j + 1, none, _, by omega, rfl, by go_num, HBK.out, fun k hk => by simp at hk, HI7.out, HW7.out, htr4⟩
                case measure => omega
        · have hex : decide (min len0 80 < len0) = false ∨ decide (min len0 80 < len0) = true ∧ decide (min len0 80 < 80) = false := by
            by_cases h1 : len0 ≤ 80
            · left; rw [Nat.min_eq_left h1]; simp
            · right; rw [Nat.min_eq_right (by omega)]; exact ⟨by simp; omega, by simp⟩
          obtain rfl : j = min len0 80 := by omega
          generalize min len0 80 = J at *
          rcases hex with hx1 | ⟨hx1, hx2⟩
          · go_wp2
            go_ret
            exact ⟨rfl, HW2.out⟩
          · have hx3 : decide ((J : Int) < 80) = false := by
              simp only [decide_eq_false_iff_not] at hx2 ⊢
              omega
            go_wp2
            go_ret
            exact ⟨rfl, HW2.out⟩
end Go.Proofs.Ytadaoobdnnleaaa
