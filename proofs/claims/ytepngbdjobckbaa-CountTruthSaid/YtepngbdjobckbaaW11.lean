/- The walk of CountTruth. -/
import Derived.Test.YtepngbdjobckbaaA11
import Derived.Test.YtepngbdjobckbaaYC
namespace Go.Proofs.Ytepngbdjobckbaa
open Go.RowKit
set_option linter.unusedVariables false

set_option maxHeartbeats 1000000 in
set_option maxRecDepth 100000 in
theorem used_any (w : World) (A : Option Addr) (n c : Nat) (l : List Int) (B : Option Addr) (m d : Nat) (t : Int) (h : Cf w A n l) (hn : 1 ≤ n) (MA : Option Addr) (mn mc : Nat) (MB : Option Addr) (mm md : Nat) (tk : Int) (u : List Int) (hI : IsI .u64 w MA mn u) (hm : 2 ≤ mn) (hmn : mn ≤ 1000000) (hu : 0 ≤ u.getD 0 0 ∧ u.getD 0 0 ≤ 18446744073709551615) :
    Calls Try.prog 25 #[.agg #[.slice A n c, .slice B m d, .int .i64 t], .agg #[.slice MA mn mc, .slice MB mm md, .int .i64 tk]] w fun e w' => e = .returned (.tuple #[.int .i64 (rest (u.getD 0 0 / 2) (u.getD 1 0)), .bool (cl (u.getD 0 0))]) ∧ Below w.heap.size w w' := by
  obtain ⟨ad, rfl, -, hc0⟩ := hI.at_ (show 0 < mn by omega)
  obtain ⟨ad', e', -, hc1⟩ := hI.at_ (show 1 < mn by omega)
  cases e'
  obtain ⟨x, hx⟩ : ∃ x, u.getD 0 0 = x := ⟨_, rfl⟩
  obtain ⟨y, hy⟩ : ∃ y, u.getD 1 0 = y := ⟨_, rfl⟩
  rw [hx] at hc0 hu
  rw [hy] at hc1
  rw [hx, hy]
  have HT := hide (fun W (hW : Below w.heap.size w W) => show Calls Try.prog 63 #[.agg #[.slice A n c, .slice B m d, .int .i64 t], .int .i64 0] W fun e w' => e = .returned (.int .i64 0) ∧ Below W.heap.size W w' from rtl_any W A n c l B m d t (h.below hW) 0 (by omega))
  have HH := hide (fun W (hW : Below w.heap.size w W) => show Calls Try.prog 64 #[.agg #[.slice A n c, .slice B m d, .int .i64 t], .int .i64 0] W fun e w' => e = .returned (.int .i64 1) ∧ Below W.heap.size W w' from rhead_any W A n c l B m d t (h.below hW) 0 (by omega))
  have HC := hide (fun W (hW : Below w.heap.size w W) => show W.cell? ad = some (.int .u64 x) ∧ W.cell? ⟨ad.block, ad.off + 1, none⟩ = some (.int .u64 y) from ⟨(hW.cell (by have := block_lt hc0; rwa [block_add] at this)).trans (by rwa [show ad.add 0 = ad by rcases ad with ⟨_, _, _ | _⟩ <;> rfl] at hc0), (hW.cell (block_lt hc1)).trans hc1⟩)
  clear hI hc0 hc1 h hx hy
  go_enter Try.func25, Try.ntmps25
  go_wp2_with fail
  have U9 := fun (u : Up ((w.alloc (.cells #[.slice A n c, .slice B m d, .int .i64 t] 36)).alloc (.cells #[.slice (some ad) mn mc, .slice MB mm md, .int .i64 tk] 39))) => E2.of (w := w) u.2
  have g0 := fun u => (bkm3 (U9 u).b1).1
  have g1 := fun u => (bkm3 (U9 u).b1).2.1
  have g2 := fun u => (bkm3 (U9 u).b1).2.2.1
  have d0 := fun u => (bkm3 (U9 u).b2).1
  have d1 := fun u => (bkm3 (U9 u).b2).2.1
  have d2 := fun u => (bkm3 (U9 u).b2).2.2.1
  have m0 := fun u => (HC.out _ (U9 u).bel).1
  have m1 := fun u => (HC.out _ (U9 u).bel).2
  have GT := hide (fun u => HT.out _ (U9 u).bel)
  have GH := hide (fun u => HH.out _ (U9 u).bel)
  have z0 : decide (mn ≤ 0) = false := by simp; omega
  have z1 : decide (mn ≤ 1) = false := by simp; omega
  have z2 : 0 < mn := by omega
  have z3 : 1 < mn := by omega
  have UU := hide U9
  clear U9 HT HH HC
  refine wp_region_up (by kernel_rfl) (by kernel_rfl) ?_
  repeat (go_big_quiet_step (first
    | (go_at_call 63; exact up_call (GT.out _))
    | (go_at_call 64; exact up_call (GH.out _))))
  refine wpQuiet_nil ?_
  rintro _ ⟨u, rfl⟩
  clear g0 g1 g2 d0 d1 d2 m0 m1 GT GH
  have E2 := hide (UU.out u)
  clear UU
  generalize u.1 = v2 at *
  have HR := hide (rrest_any (x / 2) y)
  have eR : IntKind.i64.wrap (rest (x / 2) y) = rest (x / 2) y := IntWalk.i64_in _ (by unfold rest; omega)
  go_wp2_with fail
  refine (rseq_any _ _).mono ?_
  rintro e _ ⟨rfl, rfl⟩
  go_wp2_with fail
  refine (HR.out _).mono ?_
  rintro e _ ⟨rfl, rfl⟩
  rw [show (x / 2 - y) % 9223372036854775808 = rest (x / 2) y from rfl]
  obtain ⟨r, hr⟩ : ∃ r, rest (x / 2) y = r := ⟨_, rfl⟩
  rw [hr] at eR ⊢
  have HQ := hide hr
  clear hr
  go_wp2_with fail
  refine (rclosed_any _ _ hu.1 hu.2).mono ?_
  rintro e _ ⟨rfl, rfl⟩
  go_wp2
  exact bodyPost_ret (v := .tuple #[.int .i64 r, .bool (cl x)]) (by simp [results, Try.results25, go_sem]) rfl ⟨by rw [HQ.out], E2.out.bel⟩
/-- An entry of the trace. -/
theorem WI.trow {own : Nat → Prop} {Rp : List Int → Mc → Fa → Prop} {w : World} {base G : Nat} {TW : TypeId} {s : St} (H : WI own Rp w base G TW s) : ∃ A c, w.cell? ⟨G, 7, none⟩ = some (.slice A s.tr.length c) ∧ ∀ (i : Nat) y, s.tr[i]? = some y → ∃ g, A = some ⟨g, 0, none⟩ ∧ w.cell? ⟨g, i * 8, none⟩ = some (.int .i64 y.th) := by
  obtain ⟨qs, ⟨h, H⟩, I⟩ := H
  have bk := H.bk
  rw [Hd.cells] at bk
  obtain ⟨-, -, -, -, -, -, -, k7, -⟩ := bk10 bk
  have hr := H.rT
  rcases hr.2 with ⟨h1, h2⟩ | ⟨g, cap, cur, h1, -⟩
  · have h2' : s.tr.length = 0 := h2
    rw [h1] at k7
    refine ⟨none, 0, by rw [k7, h2'], fun i y hy => ?_⟩
    have := (List.getElem?_eq_some_iff.1 hy).1
    omega
  · rw [h1] at k7
    refine ⟨_, _, k7, fun i y hy => ⟨g, rfl, ?_⟩⟩
    rw [h1] at hr
    have := own_range (f := It.cells) (sz := 8) (fun _ => rfl) hr hy
    exact this 0 _ rfl
/-- A memory of the past. -/
theorem WI.prow {own : Nat → Prop} {Rp : List Int → Mc → Fa → Prop} {w : World} {base G : Nat} {TW : TypeId} {s : St} (H : WI own Rp w base G TW s) : ∃ A c, w.cell? ⟨G, 8, none⟩ = some (.slice A s.pa.length c) ∧ ∀ (i : Nat) u, s.pa[i]? = some u → ∃ (g : Nat) (MA : Option Addr) (mn mc : Nat) (MB : Option Addr) (mm md : Nat) (tk : Int), A = some ⟨g, 0, none⟩ ∧ w.cell? ⟨g, i * 3, none⟩ = some (.slice MA mn mc) ∧ w.cell? ⟨g, i * 3 + 1, none⟩ = some (.slice MB mm md) ∧ w.cell? ⟨g, i * 3 + 2, none⟩ = some (.int .i64 tk) ∧ IsI .u64 w MA mn u ∧ mn ≤ 1000000 := by
  obtain ⟨qs, ⟨h, H⟩, I⟩ := H
  have bk := H.bk
  rw [Hd.cells] at bk
  obtain ⟨-, -, -, -, -, -, -, -, k8, -⟩ := bk10 bk
  have hr := H.rP
  have hpl : h.ps.length = s.pa.length := H.pa.1
  have hsz : ∀ x ∈ h.ps, x.toList.length = 3 := fun x hx => by
    obtain ⟨i, hi, rfl⟩ := List.getElem_of_mem hx
    obtain ⟨A, n, c, B, m, d, tk, e, -⟩ := H.pa.2 i h.ps[i] (s.pa[i]'(by omega)) (List.getElem?_eq_getElem hi) (List.getElem?_eq_getElem _)
    rw [e]
    rfl
  rcases hr.2 with ⟨h1, h2⟩ | ⟨g, cap, cur, h1, -⟩
  · have h2' : h.ps.length = 0 := h2
    rw [h1] at k8
    refine ⟨none, 0, by rw [k8, ← hpl, h2'], fun i y hy => ?_⟩
    have := (List.getElem?_eq_some_iff.1 hy).1
    omega
  · rw [h1] at k8
    rw [← hpl]
    refine ⟨_, _, k8, fun i u hu => ?_⟩
    rw [h1] at hr
    have hi : i < h.ps.length := by rw [hpl]; exact (List.getElem?_eq_some_iff.1 hu).1
    obtain ⟨A, n, c, B, m, d, tk, e, hI, -, hn⟩ := H.pa.2 i h.ps[i] u (List.getElem?_eq_getElem hi) hu
    have hrg := own_rangeA (sz := 3) hsz hr (List.getElem?_eq_getElem hi)
    rw [e] at hrg
    exact ⟨g, A, n, c, B, m, d, tk, rfl, hrg 0 _ rfl, hrg 1 _ rfl, hrg 2 _ rfl, hI, hn⟩
set_option maxHeartbeats 4000000 in
set_option maxRecDepth 100000 in
theorem countTruth_walk (a0 : Option Addr) (len0 cap0 : Nat) (z0 : List Int) (a1 : Option Addr) (len1 cap1 : Nat) (z1 : List Int) (w : World) (w0 : Row .u8 w a0 len0 cap0 z0) (w1 : Row .u8 w a1 len1 cap1 z1) :
    Calls Try.prog 5 #[.slice a0 len0 cap0, .slice a1 len1 cap1] w fun e w' => e = .returned (.bool true) ∧ Below w.heap.size w w' := by
  obtain ⟨hI1, hc1, hm1, hwf1⟩ := w0.isI
  obtain ⟨hI2, hc2, hm2, hwf2⟩ := w1.isI
  have H1 := hide hI1
  have HB1 := hide (show ∀ x ∈ z0.take len0, 0 ≤ x ∧ x ≤ 255 from fun x hx => bounds_u8 (hwf1 x hx))
  have H2 := hide hI2
  have HB2 := hide (show ∀ x ∈ z1.take len1, 0 ≤ x ∧ x ≤ 255 from fun x hx => bounds_u8 (hwf2 x hx))
  clear hwf1 w0 hI1 hwf2 w1 hI2
  generalize z0.take len0 = l0 at H1 HB1
  generalize z1.take len1 = l1 at H2 HB2
  have hcm1 : cap0 ≤ 9223372036854775807 := hm1
  have hcm2 : cap1 ≤ 9223372036854775807 := hm2
  have HAB := hide (show 0 < len1 → ∀ ad, a1 = some ad → ad.block < w.heap.size from fun h0 ad e => by
    obtain ⟨ad', e', _, hcl⟩ := H2.out.at_ h0
    rw [e] at e'
    cases e'
    have := block_lt hcl
    rwa [block_add] at this)
  clear hm1 hm2
  go_enter Try.func5, Try.ntmps5
  go_wp2_with fail
  refine (awake11_any _).mono ?_
  rintro e y1 ⟨rfl, hb1⟩
  have hs1 := hb1.size
  have HB1' := hide hb1
  clear hb1
  go_wp2_with fail
  refine (others11_any addOk11 y1 _ _ _ _ (H1.out.below HB1'.out) HB1.out hc1 hcm1 7 (by omega)).mono ?_
  rintro e y2 ⟨G, l, s, tn, ms, rfl, hG, hwi, hok, hb2⟩
  have hwG : w.heap.size ≤ G := Nat.le_trans hs1 hG
  have BW2 := hide (HB1'.out.trans (hb2.mono hs1))
  have HCAP : Hid (Cap l) := hide hwi.cap
  have WI2 := hide hwi
  have OK := hide hok
  clear hwi hok hb2 HB1' H1 HB1
  have AD := hide (add11_wi y2 G G _ 6 0 0 0 WI2.out (by omega) (by show 0 < l.length; have := OK.out.n; omega) (by omega) (by unfold u64; omega) (by show ms.length ≤ 1000; have := OK.out.k; omega))
  go_wp2_with fail
  refine AD.out.mono ?_
  rintro e y3 ⟨rfl, hw3, hb3, -⟩
  have WI3 : Hid (WI Own11 Rp11 y3 G G 49 { st0 l s tn with ms := ms ++ [mc0 6 0 0 0] }) := hide hw3
  have BW3 := hide (BW2.out.trans (hb3.mono hwG))
  clear hw3 hb3 AD WI2 BW2
  have HL : Hid ((ms ++ [mc0 6 0 0 0]).length = ms.length + 1) := hide (by simp)
  have PL := hide (play11_any knows11 y3 G G _ a1 len1 cap1 l1 150 25 WI3.out (H2.out.below BW3.out) HB2.out (fun h0 ad e => Nat.lt_of_lt_of_le (HAB.out h0 ad e) hwG) (by omega) (by omega) (by omega) (by show 0 < (ms ++ [mc0 6 0 0 0]).length; rw [HL.out]; omega) (by show (ms ++ [mc0 6 0 0 0]).length ≤ 20; rw [HL.out]; have := OK.out.k; omega) (by show 0 ≤ 100; omega))
  obtain ⟨x, jj, htr⟩ := count_truth HCAP.out OK.out l1
  have hlF : (plays l1 150 25 { st0 l s tn with ms := ms ++ [mc0 6 0 0 0] }).ms.length = ms.length + 1 := by rw [plays_len]; exact HL.out
  have hlL : (plays l1 150 25 { st0 l s tn with ms := ms ++ [mc0 6 0 0 0] }).l = l := plays_l _ _ _ _
  have HLF := hide hlF
  have HLL := hide hlL
  have HTR := hide htr
  clear hlF hlL htr WI3
  generalize plays l1 150 25 { st0 l s tn with ms := ms ++ [mc0 6 0 0 0] } = sF at *
  have hK7 : ms.length ≤ 7 := OK.out.k
  have hl1 : 1 ≤ l.length := OK.out.n.1
  have hcb := OK.out.c
  generalize ms.length = K at *
  generalize hcc : l.getD 0 0 = cc at *
  go_wp2_with fail
  refine PL.out.mono ?_
  rintro e w9 ⟨rfl, hw9, hb9⟩
  have BW9 := hide (BW3.out.trans (hb9.mono hwG))
  have WI9 := hide hw9
  clear hb9 hw9 PL BW3 HAB H2 HB2 HL OK
  obtain ⟨-, hGl, LA, lc, k6⟩ := WI9.out.row6
  rw [HLF.out] at k6
  obtain ⟨gF, cF, FA, fn, fc, FB, fm, fd, code, pc, k9, f0, f1, f2, f3, f4, hend⟩ := WI9.out.fend knows11 HTR.out.hx HTR.out.w
  rw [HLF.out] at k9
  have d1 : decide ((K : Int) < 0) = false := by simp
  have d2 : decide (K + 1 ≤ K) = false := by simp
  have e1 : IntKind.i64.wrap (((K + 1 : Nat) : Int) - 1) = (K : Int) := by rw [show ((K + 1 : Nat) : Int) - 1 = (K : Int) by omega]; exact IntWalk.i64_in _ ⟨by omega, by omega⟩
  obtain ⟨xo, hxo⟩ : ∃ v, x.ov = v := ⟨_, rfl⟩
  have hob := HTR.out.ov
  rw [hxo] at hob
  have HXO := hide hxo
  have HE := hide (fun W (hW : Below w9.heap.size w9 W) => show Calls Try.prog 24 #[.agg #[.int .i64 code, .int .i64 pc, .slice FA fn fc, .slice FB fm fd, .slice none 0 0]] W fun e w' => e = .returned (.tuple #[.agg #[.int .i64 9, .int .u64 xo], .bool true]) ∧ Below W.heap.size W w' from by have h := hend W hW; rw [HTR.out.a, HTR.out.ok, hxo] at h; exact h)
  clear hend hxo
  go_wp2_with fail
  refine (HE.out _ (Below.refl _ _)).mono ?_
  rintro e w10 ⟨rfl, hb10⟩
  have KO := hide (Bk.new w10 56 #[.int .i64 9, .int .u64 xo])
  have HB10 := hide (hb10.trans ((below_new w10 (.cells #[.int .i64 9, .int .u64 xo] 56)).mono hb10.size))
  have WI11 := hide (WI9.out.below HB10.out)
  have BW11 := hide (BW9.out.trans (HB10.out.mono BW9.out.size))
  clear k6 k9 f0 f1 f2 f3 f4 hb10 HE BW9 WI9 HB10 e1 d1 d2
  go_upto_region 9 with fail
  generalize (w10.alloc (.cells #[.int .i64 9, .int .u64 xo] 56)) = w11 at *
  generalize w10.heap.size = gO at *
  obtain ⟨o0, o1, -⟩ := bk2 KO.out
  have hGl11 := WI11.out.lt.2
  have hOl := KO.out.lt
  obtain ⟨A, n, c, B, m, d, k0, k1, k2, hcf⟩ := WI11.out.cfg
  rw [HLL.out] at hcf
  have hn1 : 1 ≤ n := by rw [← hcf.len]; exact hl1
  obtain ⟨ad, rfl, hc0, -⟩ := hcf.at_ (show 0 < n by omega)
  rw [hcc] at hc0
  have c00 : w11.cell? ad = some (.int .i64 cc) := by rwa [show ad.add 0 = ad by rcases ad with ⟨_, _, _ | _⟩ <;> rfl] at hc0
  have z0 : decide (n ≤ 0) = false := by simp; omega
  have z1 : 0 < n := by omega
  have e2 : IntKind.u64.wrap cc = cc := by rw [wrap_u64]; omega
  have e3 : decide (cc < xo) = false := by simp; omega
  have e4 : ¬ cc < xo := by omega
  clear hc0 hcf
  go_quiet (fail)
  clear k0 k1 k2 c00 z0 z1 e2 e3 e4
  have hbq : Below w11.heap.size w11 (w11.drewN nq) := below_drewN (Below.refl _ _) nq
  have WI12 := hide (WI11.out.below hbq)
  have KO12 := hide (KO.out.below hbq hOl)
  have BW12 := hide (BW11.out.trans (hbq.mono BW11.out.size))
  clear hbq o0 o1 hOl hGl11 WI11 BW11 KO
  generalize w11.drewN nq = wq at *
  obtain ⟨TA, tcap, k7, -⟩ := WI12.out.trow
  have hjN := HTR.out.jl.1
  have hNb := HTR.out.tl
  generalize hN : sF.tr.length = N at *
  have HN := hide hN
  clear hN
  go_wp2
  go_loopg [9, 10, 11, 67] N (fun g s9 s10 s11 s67 wr => ∃ i : Nat, g + i = N ∧ i ≤ jj ∧ s67 = .int .i64 i ∧ WI Own11 Rp11 wr G G 49 sF ∧ Bk wr gO 56 #[.int .i64 9, .int .u64 xo] ∧ Below w.heap.size w wr)
  case atStart => exact ⟨0, by omega, by omega, rfl, WI12.out, KO12.out, BW12.out⟩
  case round =>
    obtain ⟨i, hi, hij, rfl, hwi, hko, hbw⟩ := hrel
    have WI13 := hide hwi
    have KO13 := hide hko
    have BW13 := hide hbw
    clear hwi hko hbw WI12 KO12 BW12 k7
    have hlt : i < N := by omega
    obtain ⟨y, hy⟩ : ∃ y, sF.tr[i]? = some y := ⟨_, List.getElem?_eq_getElem (by rw [HN.out]; exact hlt)⟩
    obtain ⟨u, hu⟩ : ∃ u, sF.pa[i]? = some u := ⟨_, List.getElem?_eq_getElem (by rw [HTR.out.pl, HN.out]; exact hlt)⟩
    obtain ⟨TA, tcap, k7, hT⟩ := WI13.out.trow
    obtain ⟨PA, pcap, k8, hP⟩ := WI13.out.prow
    rw [HN.out] at k7
    rw [HTR.out.pl, HN.out] at k8
    obtain ⟨gT, rfl, ct⟩ := hT i y hy
    obtain ⟨gP, MA, mn, mc, MB, mm, md, tk, rfl, p0, p1, p2, hI, hmn⟩ := hP i u hu
    obtain ⟨A, n, c, B, m, d, k0, k1, k2, hcf⟩ := WI13.out.cfg
    rw [HLL.out] at hcf
    have hn1 : 1 ≤ n := by rw [← hcf.len]; exact hl1
    have hib : i ≤ 100000 := by omega
    obtain ⟨hu2, hub⟩ := HTR.out.wl i u hu
    have hmn2 : 2 ≤ mn := by rw [← hI.len]; exact hu2
    obtain ⟨r, hr⟩ : ∃ r, rest (u.getD 0 0 / 2) (u.getD 1 0) = r := ⟨_, rfl⟩
    have hrb : 0 ≤ r ∧ r < 9223372036854775808 := by rw [← hr]; unfold rest; omega
    have US := hide (fun W (hW : Below wr.heap.size wr W) => show Calls Try.prog 25 #[.agg #[.slice A n c, .slice B m d, .int .i64 sF.th], .agg #[.slice MA mn mc, .slice MB mm md, .int .i64 tk]] W fun e w' => e = .returned (.tuple #[.int .i64 r, .bool (cl (u.getD 0 0))]) ∧ Below W.heap.size W w' by
      have := used_any W A n c l B m d sF.th (hcf.below hW) hn1 MA mn mc MB mm md tk u (hI.below hW) hmn2 hmn hub
      rwa [hr] at this)
    have hiK : i = jj → y.th = (K : Int) ∧ r = xo := fun e => by
      subst e
      obtain ⟨y', hy', ht⟩ := HTR.out.th
      rw [hy] at hy'
      cases hy'
      obtain ⟨u', hu', hr'⟩ := HTR.out.pa
      rw [hu] at hu'
      cases hu'
      exact ⟨ht, by rw [← hr, hr', HXO.out]⟩
    have HIK := hide hiK
    obtain ⟨yt, hyt⟩ : ∃ v, y.th = v := ⟨_, rfl⟩
    rw [hyt] at ct HIK
    generalize cl (u.getD 0 0) = bcl at *
    have KC := hide (fun W (hW : Below wr.heap.size wr W) => show W.cell? ⟨G, 7, none⟩ = some (.slice (some ⟨gT, 0, none⟩) N tcap) ∧ W.cell? ⟨gT, i * 8, none⟩ = some (.int .i64 yt) from ⟨(hW.cell (block_lt k7)).trans k7, (hW.cell (block_lt ct)).trans ct⟩)
    have hGl13 := WI13.out.lt.2
    have hOl13 := KO13.out.lt
    have er : IntKind.u64.wrap r = r := by rw [wrap_u64]; omega
    have d1 : decide ((i : Int) < 0) = false := by simp
    have d2 : decide (N ≤ i) = false := by simp; omega
    have HB0 : Hid (Below wr.heap.size wr wr.drew) := hide (Below.refl wr.heap.size wr).drew
    clear hI hT hP hcf hu2 hub hr hrb hy hu hyt hiK hn1 hmn2 hmn
    go_upto_region 14 with fail
    go_region_law (first
      | (refine step_call _ (by rfl) 25 _ (by go_simp) (US.out wr.drew HB0.out) ?_; rintro e w5 ⟨rfl, hb5⟩; refine ⟨_, rfl, ?_⟩; have HB5 := hide (HB0.out.trans (hb5.mono HB0.out.size)); clear hb5))
    all_goals
      clear k0 k1 k2 k7 k8 ct p0 p1 p2 US
      have WI14 := hide (WI13.out.below HB5.out)
      have KO14 := hide (KO13.out.below HB5.out hOl13)
      have BW14 := hide (BW13.out.trans (HB5.out.mono BW13.out.size))
      obtain ⟨k7, ct⟩ := KC.out _ HB5.out
      obtain ⟨o0, o1, -⟩ := bk2 KO14.out
      clear KC HB5 HB0 WI13 KO13 BW13
      by_cases hc1 : yt = (K : Int)
      · by_cases hc2 : r = xo
        · have b1 : (yt == (K : Int)) = true := by simp [hc1]
          have b2 : (r == xo) = true := by simp [hc2]
          have b3 : decide (yt = (K : Int)) = true := by simp [hc1]
          have b4 : decide (r = xo) = true := by simp [hc2]
          clear hc1 hc2
          go_wp2
          go_ret
          exact ⟨rfl, BW14.out⟩
        · have b1 : (yt == (K : Int)) = true := by simp [hc1]
          have b2 : (r == xo) = false := by simp [hc2]
          have b3 : decide (yt = (K : Int)) = true := by simp [hc1]
          have b4 : decide (r = xo) = false := by simp [hc2]
          have hne : i ≠ jj := fun e => hc2 (HIK.out e).2
          clear hc1 hc2
          go_wp2
          go_roundg (gk - 1)
          case rel => exact ⟨i + 1, by omega, by omega, by go_num, WI14.out, KO14.out, BW14.out⟩
          case measure => omega
      · have b1 : (yt == (K : Int)) = false := by simp [hc1]
        have b3 : decide (yt = (K : Int)) = false := by simp [hc1]
        have hne : i ≠ jj := fun e => hc1 (HIK.out e).1
        clear hc1
        go_wp2
        go_roundg (gk - 1)
        case rel => exact ⟨i + 1, by omega, by omega, by go_num, WI14.out, KO14.out, BW14.out⟩
        case measure => omega
end Go.Proofs.Ytepngbdjobckbaa
